-- Written by this session's program (wip/xprint.py) with the kit's print, for this claim.
import Derived.Test.YtlpiknclbgogbaaXAway
import Derived.Test.YtlpiknclbgogbaaXBytesx0
import Derived.Test.YtlpiknclbgogbaaXBytesx2
namespace Go.Proofs.Ytlpiknclbgogbaa.XBytes
open Go.RowKit Go.Proofs.YtlpiknclbgogbaaW.PrintWords Go.Proofs.YtlpiknclbgogbaaW.PrintLast Go.Proofs.YtlpiknclbgogbaaW.PrintMore Go.Proofs.Ytlpiknclbgogbaa.Ext
attribute [local go_sem] max2_int min2_int max_two min_two max_three min_three max_four min_four   -- for this text's walks alone
set_option linter.unusedVariables false
set_option linter.unusedSimpArgs false

/-! ### code_Decode: function 21 -/
mutual
def code_Decode.l0 : Nat → List Int → List (S41) → Option ((List (S41)) × Int)
  | 0, _, _ => none
  | k + 1, x0, x4 => if (x0.length : Int) > 0 then (if (x4.length : Int) = 256 then (some (([] : List (S41)), 3)) else (if 0 < (x0.length : Int) then ((code_shapes.f (wrap64 (rd x0 0)) 0).bind fun bt236 => (if 1 ≤ (x0.length : Int) then ((some (x0.drop 1 : List Int)).bind fun y243 => (if bt236.2.2.2.2.2 = true then (code_Decode.j1 k y243 x4 bt236.2.2.2.2.1 (wrap64 (rd x0 0)) 0) else (code_Decode.j1 k y243 x4 false (wrap64 (rd x0 0)) 0))) else (none))) else (none))) else (some (x4, 0))
def code_Decode.j1 : Nat → List Int → List (S41) → Bool → Int → Int → Option ((List (S41)) × Int)
  | 0, _, _, _, _, _ => none
  | k + 1, x0, x4, x32, x236000, x236001 => if x32 = true then (if (x0.length : Int) < 2 then (some (([] : List (S41)), 12)) else (if 0 < (x0.length : Int) then (if 1 < (x0.length : Int) then (if x236000 = 1 then (if 2 ≤ (x0.length : Int) then ((code_may.f x236000 (wrap64 (IntKind.i16.wrap (Go.bits .or .i64 (wrap64 ((wrap64 (rd x0 0)) * 256)) (wrap64 (rd x0 1)))))).bind fun bt255 => (if bt255.2.2.2.2.2 = true then (if x4.length < 8796093022208 then (code_Decode.l0 k (x0.drop 2) (x4 ++ [(⟨x236000, wrap64 (IntKind.i16.wrap (Go.bits .or .i64 (wrap64 ((wrap64 (rd x0 0)) * 256)) (wrap64 (rd x0 1))))⟩ : S41)])) else (none)) else (some (([] : List (S41)), 12)))) else (none)) else (if 2 ≤ (x0.length : Int) then ((code_may.f x236000 (Go.bits .or .i64 (wrap64 ((wrap64 (rd x0 0)) * 256)) (wrap64 (rd x0 1)))).bind fun bt270 => (if bt270.2.2.2.2.2 = true then (if x4.length < 8796093022208 then (code_Decode.l0 k (x0.drop 2) (x4 ++ [(⟨x236000, Go.bits .or .i64 (wrap64 ((wrap64 (rd x0 0)) * 256)) (wrap64 (rd x0 1))⟩ : S41)])) else (none)) else (some (([] : List (S41)), 12)))) else (none))) else (none)) else (none))) else ((code_may.f x236000 x236001).bind fun bt280 => (if bt280.2.2.2.2.2 = true then (if x4.length < 8796093022208 then (code_Decode.l0 k x0 (x4 ++ [(⟨x236000, x236001⟩ : S41)])) else (none)) else (some (([] : List (S41)), 12))))
end
def code_Decode.f (k : Nat) (l0 : List Int) : Option ((List (S41)) × Int) := code_Decode.l0 k l0 ([] : List (S41))
theorem code_Decode.mono_l : ∀ k, (∀ y0 y1, LeO (code_Decode.l0 k y0 y1) (code_Decode.l0 (k + 1) y0 y1)) ∧ (∀ y0 y1 y2 y3 y4, LeO (code_Decode.j1 k y0 y1 y2 y3 y4) (code_Decode.j1 (k + 1) y0 y1 y2 y3 y4))
  | 0 => ⟨fun _ _ r h => by simp [code_Decode.l0] at h, fun _ _ _ _ _ r h => by simp [code_Decode.j1] at h⟩
  | k + 1 => by
    obtain ⟨ih0, ih1⟩ := code_Decode.mono_l k
    refine ⟨?_, ?_⟩
    · intro y0 y1
      unfold code_Decode.l0
      repeat' first
      | (with_reducible exact ih0 _ _)
      | (with_reducible exact ih1 _ _ _ _ _)
      | (with_reducible exact LeO.refl _)
      | (with_reducible exact LeO.none _)
      | (with_reducible refine LeO.ite ?_ ?_)
      | (with_reducible refine LeO.bind ?_ (fun _ => ?_))
      | exact ih0 _ _
      | exact ih1 _ _ _ _ _
      | exact LeO.none _
      | refine LeO.ite ?_ ?_
      | refine LeO.bind ?_ (fun _ => ?_)
    · intro y0 y1 y2 y3 y4
      unfold code_Decode.j1
      repeat' first
      | (with_reducible exact ih0 _ _)
      | (with_reducible exact ih1 _ _ _ _ _)
      | (with_reducible exact LeO.refl _)
      | (with_reducible exact LeO.none _)
      | (with_reducible refine LeO.ite ?_ ?_)
      | (with_reducible refine LeO.bind ?_ (fun _ => ?_))
      | exact ih0 _ _
      | exact ih1 _ _ _ _ _
      | exact LeO.none _
      | refine LeO.ite ?_ ?_
      | refine LeO.bind ?_ (fun _ => ?_)
theorem code_Decode.mono : ∀ a0 k, LeO (code_Decode.f k a0) (code_Decode.f (k + 1) a0) := by
  intro a0 k
  obtain ⟨ih0, ih1⟩ := code_Decode.mono_l k
  unfold code_Decode.f
  repeat' first
      | (with_reducible exact ih0 _ _)
      | (with_reducible exact ih1 _ _ _ _ _)
      | (with_reducible exact LeO.refl _)
      | (with_reducible exact LeO.none _)
      | (with_reducible refine LeO.ite ?_ ?_)
      | (with_reducible refine LeO.bind ?_ (fun _ => ?_))
      | exact ih0 _ _
      | exact ih1 _ _ _ _ _
      | exact LeO.none _
      | refine LeO.ite ?_ ?_
      | refine LeO.bind ?_ (fun _ => ?_)
def code_Decode.T11 : Bool × List (List Nat × List Nat) := (true, [([], []), ([0], [0]), ([1], [1]), ([2], [2]), ([3], [3]), ([], []), ([5], [5]), ([6], [6]), ([7], [7]), ([4, 8], [4, 8]), ([0, 1, 2, 3, 4, 5, 6, 7, 8, 9], []), ([10, 9, 0, 1, 2, 3, 4, 5, 6, 7, 8, 9], [9, 10])])
def code_Decode.B11 : List Nat := [0, 1, 3, 7, 15, 0, 32, 96, 224, 511, 1023, 2047]
theorem code_Decode.tab11 : rtab .any (opsOf Try.f21 11) = code_Decode.T11 := by kernel_rfl
theorem code_Decode.bits11 : waitsOk code_Decode.T11.2 code_Decode.B11 = true := by kernel_rfl
set_option maxHeartbeats 8000000 in
set_option maxRecDepth 100000 in
theorem code_Decode.calls (k : Nat) (P0_ : Nat → Prop) (A0 : Option Addr) (c0 : Nat) (l0 : List Int) (r1 : List (S41)) (r2 : Int) (w : World) (hs0 : Kd.V (Kd.int .u8) 5 w w.heap.size (fun k_ => P0_ k_) (.slice A0 l0.length c0) l0) (h : code_Decode.f k l0 = some (r1, r2)) :
    Calls Try.prog 21 #[.slice A0 l0.length c0] w fun e w' => ∃ v0_ : Value, e = .returned (.tuple #[v0_, .int .i64 r2]) ∧ Kd.R k41 41 w' w.heap.size (fun k_ => (w.heap.size ≤ k_)) v0_ r1 ∧ Below w.heap.size w w' := by
  have hu41 := Try.underlying41
  have hu56 := Try.underlying56
  have HO0 := Aside0.mk (show Kd.V (Kd.int .u8) 5 w w.heap.size (fun k_ => (P0_ k_ ∨ w.heap.size ≤ k_)) (.slice A0 l0.length c0) l0 from Kd.V_mono hs0 (fun k_ hk => .inl hk))
  have HB := Aside0.mk (Below.refl w.heap.size w)
  have H : (code_Decode.l0 k l0 ([] : List (S41))) = some (r1, r2) := h
  clear h
  have H' := Aside0.mk H
  clear H
  go_enter Try.func21, Try.ntmps21
  go_wp2
  go_loopg [0, 4] k (fun kq v0 v4 w' => ∃ (x0_1 : List Int) (x4_1 : List (S41)), Aside0 (code_Decode.l0 kq x0_1 x4_1 = some (r1, r2)) ∧ Aside0 (kq ≤ k) ∧ Aside0 (Kd.V (Kd.int .u8) 5 w' w.heap.size (fun k_ => (P0_ k_ ∨ w.heap.size ≤ k_) ∧ some k_ ≠ (v4 : Value).ownBlock) v0 x0_1) ∧ Aside0 (Kd.R k41 41 w' w.heap.size (fun k_ => (w.heap.size ≤ k_)) v4 x4_1) ∧ Aside0 (Below w.heap.size w w'))
  case atStart => exact ⟨(l0), (([] : List (S41))), H', ⟨Nat.le_refl _⟩, ⟨by (with_reducible repeat (first | apply Kd.V_alloc | apply Kd.V_drewN | apply Kd.V_drew)); exact Kd.V_mono HO0.out (fun _ hk => ⟨hk, (by simp [Value.ownBlock])⟩)⟩, ⟨by first | exact Kd.R_nil _ _ _ _ _ | exact Kd.N_nil _ _ _ _ _ | exact Kd.V_nil _ _ _ _ _ | exact Kd.Q_nil _ _ _ _ _ | exact Kd.S_nil _ _ _ _ _⟩, ⟨by repeat (first | (with_reducible first | exact HB.out | apply below_alloc | apply pw_below_drewN | apply below_drew1) | exact HB.out)⟩⟩
  case round =>
    clear H'
    obtain ⟨x0_1, x4_1, HA, HK1, HO_0, HO_4, HB⟩ := hrel
    cases gk with
    | zero => exact absurd HA.out (by simp [code_Decode.l0])
    | succ k1 =>
      have H := HA.out
      clear HA
      simp only [code_Decode.l0] at H
      by_cases c2 : (x0_1.length : Int) > 0
      · rw [if_pos c2] at H
        have c2b0 : decide (0 < (x0_1.length : Int)) = true := decide_eq_true c2
        have c2b1 : decide (0 < x0_1.length) = true := decide_eq_true (by omega)
        clear c2
        by_cases c3 : (x4_1.length : Int) = 256
        · rw [if_pos c3] at H
          have c3b0 : ((x4_1.length : Int) == 256) = true := beq_iff_eq.mpr c3
          have c3b1 : ((x4_1.length : Int) != 256) = false := bne_eq_false_iff_eq.mpr c3
          clear c3
          simp only [Option.some.injEq, Prod.mk.injEq] at H
          obtain ⟨rfl, rfl⟩ := H
          obtain ⟨Ao4, co4, eo4⟩ := Kd.V_slice HO_0.out
          subst eo4
          obtain ⟨Ao5, co5, eo5⟩ := Kd.R_slice HO_4.out
          subst eo5
          go_wp2
          go_ret2
          exact ⟨_, by first | rfl | (simp [errW_none, errW_some] <;> rfl) | (simp [*, errW_none, errW_some] <;> rfl), by first | exact Kd.R_nil _ _ _ _ _ | exact Kd.N_nil _ _ _ _ _ | exact Kd.V_nil _ _ _ _ _ | exact Kd.Q_nil _ _ _ _ _ | exact Kd.S_nil _ _ _ _ _, by repeat (first | (with_reducible first | exact HB.out | apply below_alloc | apply pw_below_drewN | apply below_drew1) | exact HB.out)⟩
        · rw [if_neg c3] at H
          have c3b0 : ((x4_1.length : Int) == 256) = false := beq_eq_false_iff_ne.mpr c3
          have c3b1 : ((x4_1.length : Int) != 256) = true := bne_iff_ne.mpr c3
          by_cases c6 : 0 < (x0_1.length : Int)
          · rw [if_pos c6] at H
            have c6b0 : decide (0 < (x0_1.length : Int)) = true := decide_eq_true c6
            have c6b1 : decide (0 < x0_1.length) = true := decide_eq_true (by omega)
            clear c6
            replace H := Option.bind_eq_some_iff.mp H
            obtain ⟨⟨t236, t237, t238, t239, t240, t241⟩, A70, H⟩ := H
            replace H : (if 1 ≤ (x0_1.length : Int) then ((some (x0_1.drop 1 : List Int)).bind fun y243 => (if t241 = true then (code_Decode.j1 k1 y243 x4_1 t240 (wrap64 (rd x0_1 0)) 0) else (code_Decode.j1 k1 y243 x4_1 false (wrap64 (rd x0_1 0)) 0))) else (none)) = some (r1, r2) := H
            have A7 := Aside0.mk A70
            clear A70
            by_cases c8 : 1 ≤ (x0_1.length : Int)
            · rw [if_pos c8] at H
              have c8b0 := eq_true c8
              have c8b1 : decide (1 ≤ (x0_1.length : Int)) = true := decide_eq_true c8
              clear c8
              obtain ⟨y243, hy243⟩ : ∃ y_ : List Int, y_ = (x0_1.drop 1) := ⟨_, rfl⟩
              replace H : (if t241 = true then (code_Decode.j1 k1 y243 x4_1 t240 (wrap64 (rd x0_1 0)) 0) else (code_Decode.j1 k1 y243 x4_1 false (wrap64 (rd x0_1 0)) 0)) = some (r1, r2) := by first | (rw [hy243]; with_reducible exact H) | (have H2_ := (Option.bind_some _ _).symm.trans H; rw [hy243]; with_reducible exact H2_) | (have H2_ := (Option.bind_some _ _).symm.trans H; with_reducible exact H2_) | with_reducible exact H | (rw [hy243]; exact H) | exact H
              have Ny243 := Aside0.mk hy243
              clear hy243
              have HC9 := Aside0.mk H
              clear H
              obtain ⟨Ao10, co10, eo10⟩ := Kd.V_slice HO_0.out
              subst eo10
              obtain ⟨Ao11, co11, eo11⟩ := Kd.R_slice HO_4.out
              subst eo11
              have p234 : 0 ≤ (0 : Int) := (by omega)
              have q234 : 0 < (x0_1.length : Int) := of_decide_eq_true (by first | (with_reducible assumption) | assumption)
              obtain ⟨ad234, e234, hx234_0⟩ := Kd.at_int (Kd.V_reads' HO_0.out).2.2 0 p234 q234
              cases e234
              have qi234 : (0 < x0_1.length) = True := eq_true (by omega)
              (try rw [show ((0 : Int)).toNat = 0 from rfl] at hx234_0)
              (try rw [Addr.add_zero'] at hx234_0)
              replace p234 := eq_true p234
              replace q234 := eq_true q234
              go_upto_region 8 with (first | ((with_reducible refine gate_dst (N := 5) rfl ?_); refine box_event ?hg (N := 5) ?hd (cs := #[.int .i64 0, .int .i64 0]) (t := 41) ?hr ?_; (case hd => rfl); (case hg => rfl); (case hr => first | (go_simp; done) | (go_simp; rfl)); intro gb235 hg w12 hbox hb; have n0_ := Aside0.mk (Kd.V_below (Kd.V_elderB (by (with_reducible repeat (first | apply Kd.V_alloc | apply Kd.V_drewN | apply Kd.V_drew)); exact HO_0.out) gb235 (Nat.le_of_eq hg.symm)) hb); have n1_ := Aside0.mk (Kd.R_below (Kd.R_elderB (by (with_reducible repeat (first | apply Kd.R_alloc | apply Kd.R_drewN | apply Kd.R_drew)); exact HO_4.out) gb235 (Nat.le_of_eq hg.symm)) hb); have n2_ := Aside0.mk (below_step (by repeat (first | (with_reducible first | exact HB.out | apply below_alloc | apply pw_below_drewN | apply below_drew1) | exact HB.out)) hb); have n3_ := Aside0.mk (hbox); have n4_ := Aside0.mk ((by rw [hg]; exact (below_size (by repeat (first | (with_reducible first | exact HB.out | apply below_alloc | apply pw_below_drewN | apply below_drew1) | exact HB.out))) : w.heap.size ≤ gb235)); have n5_ := Aside0.mk ((by rw [hg]; exact (below_size (by repeat (first | (with_reducible first | exact HB.out | apply below_alloc | apply pw_below_drewN | apply below_drew1) | exact HB.out))) : w.heap.size ≤ gb235)); clear HO_0; clear HO_4; clear HB; have HO_0 := n0_; have HO_4 := n1_; have HB := n2_; have BK235 := n3_; have GW235 := n4_; have GE235 := n5_; clear n0_ n1_ n2_ n3_ n4_ n5_; clear hb hbox hg; have hcz13_0 : w12.cell? ⟨gb235, 0, none⟩ = some (.int .i64 0) := (blk_cell BK235.out 0).trans rfl; have hcz13_1 : w12.cell? ⟨gb235, 1, none⟩ = some (.int .i64 0) := (blk_cell BK235.out 1).trans rfl; have hfz13_0 := blk_frozen BK235.out 0; have hfz13_1 := blk_frozen BK235.out 1) | ((with_reducible refine gate_callee (f := 30) rfl ?_); refine goesL_ (some 23) rfl rfl Try.func30 (by kernel_rfl) rfl #[.agg #[.int .i64 (wrap64 (rd x0_1 0)), .int .i64 0]] rfl (by (try simp only [List.map_toArray, List.map_cons, List.map_nil]); first | done | rfl | (simp only [List.length_drop, List.length_take]; rfl)) ?_; (with_reducible refine (code_shapes.calls (wrap64 (rd x0_1 0)) 0 t236 t237 t238 t239 t240 t241 _ A7.out).mono ?_); rintro e w14 ⟨rfl, hb⟩; refine ⟨_, rfl, ?_⟩; have n0_ := Aside0.mk (Kd.V_below (by (with_reducible repeat (first | apply Kd.V_alloc | apply Kd.V_drewN | apply Kd.V_drew)); exact (Kd.V_mono (Kd.V_far (p := ⟨gb235, 1, none⟩) (Kd.V_far (p := ⟨gb235, 0, none⟩) (Kd.V_mono HO_0.out (fun k_ hk => (⟨hk, hk.2⟩ : _ ∧ k_ ≠ gb235))) (fun _ hk => hk.2) (.int .i64 (wrap64 (rd x0_1 0)))) (fun _ hk => hk.2) (.int .i64 0)) (fun _ h_ => h_.1))) hb); have n1_ := Aside0.mk (Kd.R_below (by (with_reducible repeat (first | apply Kd.R_alloc | apply Kd.R_drewN | apply Kd.R_drew)); exact (Kd.R_mono (Kd.R_far (p := ⟨gb235, 1, none⟩) (Kd.R_far (p := ⟨gb235, 0, none⟩) (Kd.R_mono HO_4.out (fun k_ hk => (⟨hk, hk.2⟩ : _ ∧ k_ ≠ gb235))) (fun _ hk => hk.2) (.int .i64 (wrap64 (rd x0_1 0)))) (fun _ hk => hk.2) (.int .i64 0)) (fun _ h_ => h_.1))) hb); have n2_ := Aside0.mk (blk_below (g := gb235) (o := .cells #[.int .i64 (wrap64 (rd x0_1 0)), .int .i64 0] 41 (0, 0)) (by (with_reducible repeat (first | refine blk_drewN ?_ _ | refine blk_drew ?_ | refine blk_alloc ?_ _)); refine blk_put (cs := #[.int .i64 (wrap64 (rd x0_1 0)), .int .i64 0]) ?_ 1 _ rfl; (with_reducible repeat (first | refine blk_drewN ?_ _ | refine blk_drew ?_ | refine blk_alloc ?_ _)); refine blk_put (cs := #[.int .i64 0, .int .i64 0]) ?_ 0 _ rfl; (with_reducible repeat (first | refine blk_drewN ?_ _ | refine blk_drew ?_ | refine blk_alloc ?_ _)); exact BK235.out) hb); have n3_ := Aside0.mk (below_step (by repeat (first | (with_reducible first | exact HB.out | apply below_alloc | apply pw_below_drewN | apply below_drew1 | refine below_set ?_ GE235.out) | exact HB.out)) hb); clear HO_0; clear HO_4; clear BK235; clear HB; have HO_0 := n0_; have HO_4 := n1_; have BK235 := n2_; have HB := n3_; clear n0_ n1_ n2_ n3_; (try clear hb); (try clear hb2); (try clear hk); (try clear hi)) | ((with_reducible refine gate_dst (N := 6) rfl ?_); refine box_event ?hg (N := 6) ?hd (cs := #[.int .i64 0, .int .i64 0, .int .i64 0, .int .i64 0, .bool false]) (t := 56) ?hr ?_; (case hd => rfl); (case hg => rfl); (case hr => first | (go_simp; done) | (go_simp; rfl)); intro gb242 hg w15 hbox hb; have n0_ := Aside0.mk (Kd.V_below (Kd.V_elderB (by (with_reducible repeat (first | apply Kd.V_alloc | apply Kd.V_drewN | apply Kd.V_drew)); exact HO_0.out) gb242 (Nat.le_of_eq hg.symm)) hb); have n1_ := Aside0.mk (Kd.R_below (by (with_reducible repeat (first | apply Kd.R_alloc | apply Kd.R_drewN | apply Kd.R_drew)); exact HO_4.out) hb); have n2_ := Aside0.mk (blk_below (g := gb235) (o := .cells #[.int .i64 (wrap64 (rd x0_1 0)), .int .i64 0] 41 (0, 0)) (by (with_reducible repeat (first | refine blk_drewN ?_ _ | refine blk_drew ?_ | refine blk_alloc ?_ _)); exact BK235.out) hb); have n3_ := Aside0.mk (below_step (by repeat (first | (with_reducible first | exact HB.out | apply below_alloc | apply pw_below_drewN | apply below_drew1 | refine below_set ?_ GE235.out) | exact HB.out)) hb); have n4_ := Aside0.mk (hbox); have n5_ := Aside0.mk ((by rw [hg]; exact (below_size (by repeat (first | (with_reducible first | exact HB.out | apply below_alloc | apply pw_below_drewN | apply below_drew1 | refine below_set ?_ GE235.out) | exact HB.out))) : w.heap.size ≤ gb242)); have n6_ := Aside0.mk ((by rw [hg]; exact (below_size (by repeat (first | (with_reducible first | exact HB.out | apply below_alloc | apply pw_below_drewN | apply below_drew1 | refine below_set ?_ GE235.out) | exact HB.out))) : w.heap.size ≤ gb242)); have n7_ := Aside0.mk ((by rw [hg]; exact Nat.ne_of_lt (blk_lt (g := gb235) (o := .cells #[.int .i64 (wrap64 (rd x0_1 0)), .int .i64 0] 41 (0, 0)) (by (with_reducible repeat (first | refine blk_drewN ?_ _ | refine blk_drew ?_ | refine blk_alloc ?_ _)); exact BK235.out)) : gb235 ≠ gb242)); have n8_ := Aside0.mk ((by rw [hg]; exact Nat.ne_of_gt (blk_lt (g := gb235) (o := .cells #[.int .i64 (wrap64 (rd x0_1 0)), .int .i64 0] 41 (0, 0)) (by (with_reducible repeat (first | refine blk_drewN ?_ _ | refine blk_drew ?_ | refine blk_alloc ?_ _)); exact BK235.out)) : gb242 ≠ gb235)); clear HO_0; clear HO_4; clear BK235; clear HB; have HO_0 := n0_; have HO_4 := n1_; have BK235 := n2_; have HB := n3_; have BK242 := n4_; have GW242 := n5_; have GE242 := n6_; have NB235_242 := n7_; have NB242_235 := n8_; clear n0_ n1_ n2_ n3_ n4_ n5_ n6_ n7_ n8_; clear hb hbox hg; have hnb16 := NB242_235.out; have hnc16 := NB235_242.out; have hcz17_0 : w15.cell? ⟨gb242, 0, none⟩ = some (.int .i64 0) := (blk_cell BK242.out 0).trans rfl; have hcz17_1 : w15.cell? ⟨gb242, 1, none⟩ = some (.int .i64 0) := (blk_cell BK242.out 1).trans rfl; have hcz17_2 : w15.cell? ⟨gb242, 2, none⟩ = some (.int .i64 0) := (blk_cell BK242.out 2).trans rfl; have hcz17_3 : w15.cell? ⟨gb242, 3, none⟩ = some (.int .i64 0) := (blk_cell BK242.out 3).trans rfl; have hcz17_4 : w15.cell? ⟨gb242, 4, none⟩ = some (.bool false) := (blk_cell BK242.out 4).trans rfl; have hfz17_0 := blk_frozen BK242.out 0; have hfz17_1 := blk_frozen BK242.out 1; have hfz17_2 := blk_frozen BK242.out 2; have hfz17_3 := blk_frozen BK242.out 3; have hfz17_4 := blk_frozen BK242.out 4) | ((with_reducible refine gate_store (t := 56) (p := 6) rfl ?_); refine store_event (t := 56) (p := 6) (v := ?vo_w18) (w1 := (((((w15.setCell ⟨gb242, 0, none⟩ (.int .i64 t236)).setCell ⟨gb242, 1, none⟩ (.int .i64 t237)).setCell ⟨gb242, 2, none⟩ (.int .i64 t238)).setCell ⟨gb242, 3, none⟩ (.int .i64 t239)).setCell ⟨gb242, 4, none⟩ (.bool t240))) ?hg ?ho ?hn ?hr ?_; (case ho => rfl); (case hg => rfl); (case hn => rfl); (case hr => first | (go_simp; done) | (go_simp; rfl)); intro w18 hw; have n0_ : Aside0 (Kd.V (Kd.int .u8) 5 w18 w.heap.size (fun k_ => (P0_ k_ ∨ w.heap.size ≤ k_) ∧ some k_ ≠ (.slice Ao11 x4_1.length co11 : Value).ownBlock ∧ k_ ≠ gb235 ∧ k_ ≠ gb242) (.slice (some ad234) x0_1.length co10) x0_1) := ⟨(by rw [hw]; exact (by (with_reducible repeat (first | apply Kd.V_alloc | apply Kd.V_drewN | apply Kd.V_drew)); exact Kd.V_mono (Kd.V_far (p := ⟨gb242, 4, none⟩) (Kd.V_far (p := ⟨gb242, 3, none⟩) (Kd.V_far (p := ⟨gb242, 2, none⟩) (Kd.V_far (p := ⟨gb242, 1, none⟩) (Kd.V_far (p := ⟨gb242, 0, none⟩) (Kd.V_mono HO_0.out (fun k_ hk => (⟨hk, hk.2⟩ : _ ∧ k_ ≠ gb242))) (fun _ hk => hk.2) (.int .i64 t236)) (fun _ hk => hk.2) (.int .i64 t237)) (fun _ hk => hk.2) (.int .i64 t238)) (fun _ hk => hk.2) (.int .i64 t239)) (fun _ hk => hk.2) (.bool t240)) (fun _ hk => ⟨hk.1.1.1.1, ⟨hk.1.1.1.2, ⟨hk.1.1.2, hk.1.2⟩⟩⟩)))⟩; have n1_ : Aside0 (Kd.R k41 41 w18 w.heap.size (fun k_ => (w.heap.size ≤ k_) ∧ k_ ≠ gb235) (.slice Ao11 x4_1.length co11) x4_1) := ⟨(by rw [hw]; exact (by (with_reducible repeat (first | apply Kd.R_alloc | apply Kd.R_drewN | apply Kd.R_drew)); exact Kd.R_mono (Kd.R_far (p := ⟨gb242, 4, none⟩) (Kd.R_far (p := ⟨gb242, 3, none⟩) (Kd.R_far (p := ⟨gb242, 2, none⟩) (Kd.R_far (p := ⟨gb242, 1, none⟩) (Kd.R_far (p := ⟨gb242, 0, none⟩) (Kd.R_types HO_4.out BK242.out (by decide)) (fun _ hk => hk.2) (.int .i64 t236)) (fun _ hk => hk.2) (.int .i64 t237)) (fun _ hk => hk.2) (.int .i64 t238)) (fun _ hk => hk.2) (.int .i64 t239)) (fun _ hk => hk.2) (.bool t240)) (fun _ hk => ⟨hk.1.1, hk.1.2⟩)))⟩; have n2_ : Aside0 (w18.heap[gb235]? = some (.cells #[.int .i64 (wrap64 (rd x0_1 0)), .int .i64 0] 41 (0, 0))) := ⟨(by rw [hw]; exact (by (with_reducible repeat (first | refine blk_drewN ?_ _ | refine blk_drew ?_ | refine blk_alloc ?_ _)); refine blk_far ?_ NB235_242.out _; (with_reducible repeat (first | refine blk_drewN ?_ _ | refine blk_drew ?_ | refine blk_alloc ?_ _)); refine blk_far ?_ NB235_242.out _; (with_reducible repeat (first | refine blk_drewN ?_ _ | refine blk_drew ?_ | refine blk_alloc ?_ _)); refine blk_far ?_ NB235_242.out _; (with_reducible repeat (first | refine blk_drewN ?_ _ | refine blk_drew ?_ | refine blk_alloc ?_ _)); refine blk_far ?_ NB235_242.out _; (with_reducible repeat (first | refine blk_drewN ?_ _ | refine blk_drew ?_ | refine blk_alloc ?_ _)); refine blk_far ?_ NB235_242.out _; (with_reducible repeat (first | refine blk_drewN ?_ _ | refine blk_drew ?_ | refine blk_alloc ?_ _)); exact BK235.out))⟩; have n3_ : Aside0 (w18.heap[gb242]? = some (.cells #[.int .i64 t236, .int .i64 t237, .int .i64 t238, .int .i64 t239, .bool t240] 56 (0, 0))) := ⟨(by rw [hw]; exact (by (with_reducible repeat (first | refine blk_drewN ?_ _ | refine blk_drew ?_ | refine blk_alloc ?_ _)); refine blk_put (cs := #[.int .i64 t236, .int .i64 t237, .int .i64 t238, .int .i64 t239, .bool false]) ?_ 4 _ rfl; (with_reducible repeat (first | refine blk_drewN ?_ _ | refine blk_drew ?_ | refine blk_alloc ?_ _)); refine blk_put (cs := #[.int .i64 t236, .int .i64 t237, .int .i64 t238, .int .i64 0, .bool false]) ?_ 3 _ rfl; (with_reducible repeat (first | refine blk_drewN ?_ _ | refine blk_drew ?_ | refine blk_alloc ?_ _)); refine blk_put (cs := #[.int .i64 t236, .int .i64 t237, .int .i64 0, .int .i64 0, .bool false]) ?_ 2 _ rfl; (with_reducible repeat (first | refine blk_drewN ?_ _ | refine blk_drew ?_ | refine blk_alloc ?_ _)); refine blk_put (cs := #[.int .i64 t236, .int .i64 0, .int .i64 0, .int .i64 0, .bool false]) ?_ 1 _ rfl; (with_reducible repeat (first | refine blk_drewN ?_ _ | refine blk_drew ?_ | refine blk_alloc ?_ _)); refine blk_put (cs := #[.int .i64 0, .int .i64 0, .int .i64 0, .int .i64 0, .bool false]) ?_ 0 _ rfl; (with_reducible repeat (first | refine blk_drewN ?_ _ | refine blk_drew ?_ | refine blk_alloc ?_ _)); exact BK242.out))⟩; have n4_ : Aside0 (Below w.heap.size w w18) := ⟨(by rw [hw]; exact (by repeat (first | (with_reducible first | exact HB.out | apply below_alloc | apply pw_below_drewN | apply below_drew1 | refine below_set ?_ GE235.out | refine below_set ?_ GE242.out) | exact HB.out)))⟩; clear hw; clear HO_0; clear HO_4; clear BK235; clear BK242; clear HB; have HO_0 := n0_; have HO_4 := n1_; have BK235 := n2_; have BK242 := n3_; have HB := n4_; clear n0_ n1_ n2_ n3_ n4_; have q19 : (1 : Int) ≤ ((x0_1.length : Int) : Int) := of_decide_eq_true (by first | (with_reducible assumption) | assumption); obtain ⟨i019, hi019, _, hsz19, _⟩ := info_parts info5; have hroom19 : x0_1.length ≤ co10 := (Kd.V_reads' HO_0.out).2.1; have hC19 : Kd.F (Kd.int .u8) _ _ (some ad234) x0_1.length x0_1 := (Kd.V_at (base := w.heap.size) HO_0.out).2.2; have hcut19 := cut_from (P := Try.prog) 43 5 .i64 Try.underlying43 hi019 1 hsz19 (some ad234) x0_1.length co10 1 (by omega) q19; have hr19 := Kd.F_cut (m := (1 : Int).toNat) (c := co10) hC19 (by omega) hroom19; obtain ⟨A19, hA19⟩ : ∃ A1, A1 = (if co10 = (1 : Int).toNat then (some ad234) else ((some ad234) : Option Addr).map (·.add ((1 : Int).toNat * 1))) := ⟨_, rfl⟩; obtain ⟨c19, hc19⟩ : ∃ c1, c1 = co10 - (1 : Int).toNat := ⟨_, rfl⟩; have hy19 : y243.length = x0_1.length - (1 : Int).toNat := (by rw [Ny243.out, List.length_drop] <;> omega); rw [show (x0_1).drop (1 : Int).toNat = y243 from Ny243.out.symm] at hr19; replace hr19 : Kd.F (Kd.int .u8) _ _ A19 y243.length y243 := (by rw [hA19]; exact hr19); rw [← hy19, ← hA19, ← hc19] at hcut19; have HO247 := Aside0.mk (show Kd.V (Kd.int .u8) 5 _ w.heap.size _ (.slice A19 y243.length c19) y243 from Kd.V_mk (by rw [hy19, hc19]; exact Nat.sub_le_sub_right hroom19 _) hr19); have HC247 := Aside0.mk (show y243.length ≤ c19 from by rw [hy19, hc19]; exact Nat.sub_le_sub_right hroom19 _); clear hr19 hC19 hroom19 hi019 hsz19 hc19; have KY19 := Aside0.mk hy19; have KA19 := Aside0.mk hA19; clear hy19 hA19; replace q19 := eq_true q19))
              (try simp only [Act.put, List.setIfInBounds_toArray, List.set_cons_zero, List.set_cons_succ])
              go_cut [32] (fun v32 wc => ∃ (kq : Nat) (x32_8 : Bool), v32 = .bool x32_8 ∧ Aside0 (code_Decode.j1 kq y243 x4_1 x32_8 (wrap64 (rd x0_1 0)) 0 = some (r1, r2)) ∧ Aside0 (kq ≤ k1) ∧ Aside0 (Kd.V (Kd.int .u8) 5 wc w.heap.size (fun k_ => (P0_ k_ ∨ w.heap.size ≤ k_) ∧ some k_ ≠ ((.slice Ao11 x4_1.length co11) : Value).ownBlock ∧ k_ ≠ gb235 ∧ k_ ≠ gb242) (.slice A19 y243.length c19) y243) ∧ Aside0 (Kd.R k41 41 wc w.heap.size (fun k_ => (w.heap.size ≤ k_) ∧ k_ ≠ gb235) (.slice Ao11 x4_1.length co11) x4_1) ∧ Aside0 (wc.heap[gb235]? = some (.cells #[.int .i64 (wrap64 (rd x0_1 0)), .int .i64 0] 41 (0, 0))) ∧ Aside0 (wc.heap[gb242]? = some (.cells #[.int .i64 t236, .int .i64 t237, .int .i64 t238, .int .i64 t239, .bool t240] 56 (0, 0))) ∧ Aside0 (Below w.heap.size w wc))
              case first =>
                have H := HC9.out
                clear HC9
                by_cases c20 : t241 = true
                · subst c20
                  have H1 : (code_Decode.j1 k1 y243 x4_1 t240 (wrap64 (rd x0_1 0)) 0) = some (r1, r2) := by rw [if_pos rfl] at H; exact H
                  clear H
                  have H := H1
                  clear H1
                  have H' := Aside0.mk H
                  clear H
                  have hnb21 := NB242_235.out
                  have hnc21 := NB235_242.out
                  have hcz22_0 : w18.cell? ⟨gb242, 0, none⟩ = some (.int .i64 t236) := (blk_cell BK242.out 0).trans rfl
                  have hcz22_1 : w18.cell? ⟨gb242, 1, none⟩ = some (.int .i64 t237) := (blk_cell BK242.out 1).trans rfl
                  have hcz22_2 : w18.cell? ⟨gb242, 2, none⟩ = some (.int .i64 t238) := (blk_cell BK242.out 2).trans rfl
                  have hcz22_3 : w18.cell? ⟨gb242, 3, none⟩ = some (.int .i64 t239) := (blk_cell BK242.out 3).trans rfl
                  have hcz22_4 : w18.cell? ⟨gb242, 4, none⟩ = some (.bool t240) := (blk_cell BK242.out 4).trans rfl
                  have hfz22_0 := blk_frozen BK242.out 0
                  have hfz22_1 := blk_frozen BK242.out 1
                  have hfz22_2 := blk_frozen BK242.out 2
                  have hfz22_3 := blk_frozen BK242.out 3
                  have hfz22_4 := blk_frozen BK242.out 4
                  go_wp2
                  go_meet
                  case rel => exact ⟨_, (t240), (by first | rfl | (simp; done) | (simp [*]; done)), H', ⟨by have := HK1.out; first | omega | exact Nat.le_refl _⟩, ⟨by (with_reducible repeat (first | apply Kd.V_alloc | apply Kd.V_drewN | apply Kd.V_drew)); exact HO247.out⟩, ⟨by (with_reducible repeat (first | apply Kd.R_alloc | apply Kd.R_drewN | apply Kd.R_drew)); exact HO_4.out⟩, ⟨by (with_reducible repeat (first | refine blk_drewN ?_ _ | refine blk_drew ?_ | refine blk_alloc ?_ _)); exact BK235.out⟩, ⟨by (with_reducible repeat (first | refine blk_drewN ?_ _ | refine blk_drew ?_ | refine blk_alloc ?_ _)); exact BK242.out⟩, ⟨by repeat (first | (with_reducible first | exact HB.out | apply below_alloc | apply pw_below_drewN | apply below_drew1 | refine below_set ?_ GE235.out | refine below_set ?_ GE242.out) | exact HB.out)⟩⟩
                · replace c20 := Bool.eq_false_iff.mpr c20
                  subst c20
                  have H1 : (code_Decode.j1 k1 y243 x4_1 false (wrap64 (rd x0_1 0)) 0) = some (r1, r2) := by rw [if_neg (show ¬ (false = true) by decide)] at H; exact H
                  clear H
                  have H := H1
                  clear H1
                  have H' := Aside0.mk H
                  clear H
                  go_wp2
                  go_meet
                  case rel => exact ⟨_, (false), (by first | rfl | (simp; done) | (simp [*]; done)), H', ⟨by have := HK1.out; first | omega | exact Nat.le_refl _⟩, ⟨by (with_reducible repeat (first | apply Kd.V_alloc | apply Kd.V_drewN | apply Kd.V_drew)); exact HO247.out⟩, ⟨by (with_reducible repeat (first | apply Kd.R_alloc | apply Kd.R_drewN | apply Kd.R_drew)); exact HO_4.out⟩, ⟨by (with_reducible repeat (first | refine blk_drewN ?_ _ | refine blk_drew ?_ | refine blk_alloc ?_ _)); exact BK235.out⟩, ⟨by (with_reducible repeat (first | refine blk_drewN ?_ _ | refine blk_drew ?_ | refine blk_alloc ?_ _)); exact BK242.out⟩, ⟨by repeat (first | (with_reducible first | exact HB.out | apply below_alloc | apply pw_below_drewN | apply below_drew1 | refine below_set ?_ GE235.out | refine below_set ?_ GE242.out) | exact HB.out)⟩⟩
              case rest =>
                clear HC9
                (try clear c1); (try clear q1); (try clear c2); (try clear c2b0); (try clear c2b1); (try clear p2); (try clear q2); (try clear hx2); (try clear qi2); (try clear c3); (try clear c3b0); (try clear c3b1); (try clear c6); (try clear c6b0); (try clear c6b1); (try clear p6); (try clear c8); (try clear c8b0); (try clear c8b1); (try clear c16); (try clear c19); (try clear q19); (try clear c20); (try clear c21); (try clear hcz13_0); (try clear hcz13_1); (try clear hcz17_0); (try clear hcz17_1); (try clear hcz17_2); (try clear hcz17_3); (try clear hcz17_4); (try clear hcz22_0); (try clear hcz22_1); (try clear hcz22_2); (try clear hcz22_3); (try clear hcz22_4); (try clear hfz13_0); (try clear hfz13_1); (try clear hfz17_0); (try clear hfz17_1); (try clear hfz17_2); (try clear hfz17_3); (try clear hfz17_4); (try clear hfz22_0); (try clear hfz22_1); (try clear hfz22_2); (try clear hfz22_3); (try clear hfz22_4); (try clear hx234_0); (try clear p234); (try clear q234)
                obtain ⟨kq, x32_8, rfl, HA, HJ8, HO_0, HO_4, BK235, BK242, HB⟩ := hcut
                cases kq with
                | zero => exact absurd HA.out (by simp [code_Decode.j1])
                | succ kj8 =>
                  have H := HA.out
                  clear HA
                  simp only [code_Decode.j1] at H
                  by_cases c23 : x32_8 = true
                  · subst c23
                    have H1 : (if (y243.length : Int) < 2 then (some (([] : List (S41)), 12)) else (if 0 < (y243.length : Int) then (if 1 < (y243.length : Int) then (if (wrap64 (rd x0_1 0)) = 1 then (if 2 ≤ (y243.length : Int) then ((code_may.f (wrap64 (rd x0_1 0)) (wrap64 (IntKind.i16.wrap (Go.bits .or .i64 (wrap64 ((wrap64 (rd y243 0)) * 256)) (wrap64 (rd y243 1)))))).bind fun bt255 => (if bt255.2.2.2.2.2 = true then (if x4_1.length < 8796093022208 then (code_Decode.l0 kj8 (y243.drop 2) (x4_1 ++ [(⟨(wrap64 (rd x0_1 0)), wrap64 (IntKind.i16.wrap (Go.bits .or .i64 (wrap64 ((wrap64 (rd y243 0)) * 256)) (wrap64 (rd y243 1))))⟩ : S41)])) else (none)) else (some (([] : List (S41)), 12)))) else (none)) else (if 2 ≤ (y243.length : Int) then ((code_may.f (wrap64 (rd x0_1 0)) (Go.bits .or .i64 (wrap64 ((wrap64 (rd y243 0)) * 256)) (wrap64 (rd y243 1)))).bind fun bt270 => (if bt270.2.2.2.2.2 = true then (if x4_1.length < 8796093022208 then (code_Decode.l0 kj8 (y243.drop 2) (x4_1 ++ [(⟨(wrap64 (rd x0_1 0)), Go.bits .or .i64 (wrap64 ((wrap64 (rd y243 0)) * 256)) (wrap64 (rd y243 1))⟩ : S41)])) else (none)) else (some (([] : List (S41)), 12)))) else (none))) else (none)) else (none))) = some (r1, r2) := by rw [if_pos rfl] at H; exact H
                    clear H
                    have H := H1
                    clear H1
                    by_cases c24 : (y243.length : Int) < 2
                    · rw [if_pos c24] at H
                      have c24b0 : decide ((y243.length : Int) < 2) = true := decide_eq_true c24
                      have c24b1 : decide (y243.length < 2) = true := decide_eq_true (by omega)
                      clear c24
                      simp only [Option.some.injEq, Prod.mk.injEq] at H
                      obtain ⟨rfl, rfl⟩ := H
                      go_wp2
                      go_ret2
                      exact ⟨_, by first | rfl | (simp [errW_none, errW_some] <;> rfl) | (simp [*, errW_none, errW_some] <;> rfl), by first | exact Kd.R_nil _ _ _ _ _ | exact Kd.N_nil _ _ _ _ _ | exact Kd.V_nil _ _ _ _ _ | exact Kd.Q_nil _ _ _ _ _ | exact Kd.S_nil _ _ _ _ _, by repeat (first | (with_reducible first | exact HB.out | apply below_alloc | apply pw_below_drewN | apply below_drew1 | refine below_set ?_ GE235.out | refine below_set ?_ GE242.out) | exact HB.out)⟩
                    · rw [if_neg c24] at H
                      have c24b0 : decide ((y243.length : Int) < 2) = false := decide_eq_false c24
                      have c24b1 : decide (y243.length < 2) = false := decide_eq_false (by omega)
                      clear c24
                      by_cases c25 : 0 < (y243.length : Int)
                      · rw [if_pos c25] at H
                        have c25b0 : decide (0 < (y243.length : Int)) = true := decide_eq_true c25
                        have c25b1 : decide (0 < y243.length) = true := decide_eq_true (by omega)
                        clear c25
                        by_cases c26 : 1 < (y243.length : Int)
                        · rw [if_pos c26] at H
                          have c26b0 : decide (1 < (y243.length : Int)) = true := decide_eq_true c26
                          have c26b1 : decide (1 < y243.length) = true := decide_eq_true (by omega)
                          clear c26
                          by_cases c27 : (wrap64 (rd x0_1 0)) = 1
                          · rw [if_pos c27] at H
                            have c27b0 : ((wrap64 (rd x0_1 0)) == 1) = true := beq_iff_eq.mpr c27
                            have c27b1 : ((wrap64 (rd x0_1 0)) != 1) = false := bne_eq_false_iff_eq.mpr c27
                            clear c27
                            by_cases c28 : 2 ≤ (y243.length : Int)
                            · rw [if_pos c28] at H
                              have c28b0 := eq_true c28
                              have c28b1 : decide (2 ≤ (y243.length : Int)) = true := decide_eq_true c28
                              clear c28
                              obtain ⟨y250, hy250⟩ : ∃ y_ : List Int, y_ = (y243.drop 2) := ⟨_, rfl⟩
                              replace H : ((code_may.f (wrap64 (rd x0_1 0)) (wrap64 (IntKind.i16.wrap (Go.bits .or .i64 (wrap64 ((wrap64 (rd y243 0)) * 256)) (wrap64 (rd y243 1)))))).bind fun bt255 => (if bt255.2.2.2.2.2 = true then (if x4_1.length < 8796093022208 then (code_Decode.l0 kj8 y250 (x4_1 ++ [(⟨(wrap64 (rd x0_1 0)), wrap64 (IntKind.i16.wrap (Go.bits .or .i64 (wrap64 ((wrap64 (rd y243 0)) * 256)) (wrap64 (rd y243 1))))⟩ : S41)])) else (none)) else (some (([] : List (S41)), 12)))) = some (r1, r2) := by first | (rw [hy250]; with_reducible exact H) | (have H2_ := (Option.bind_some _ _).symm.trans H; rw [hy250]; with_reducible exact H2_) | (have H2_ := (Option.bind_some _ _).symm.trans H; with_reducible exact H2_) | with_reducible exact H | (rw [hy250]; exact H) | exact H
                              have Ny250 := Aside0.mk hy250
                              clear hy250
                              replace H := Option.bind_eq_some_iff.mp H
                              obtain ⟨⟨t255, t256, t257, t258, t259, t260⟩, A290, H⟩ := H
                              replace H : (if t260 = true then (if x4_1.length < 8796093022208 then (code_Decode.l0 kj8 y250 (x4_1 ++ [(⟨(wrap64 (rd x0_1 0)), wrap64 (IntKind.i16.wrap (Go.bits .or .i64 (wrap64 ((wrap64 (rd y243 0)) * 256)) (wrap64 (rd y243 1))))⟩ : S41)])) else (none)) else (some (([] : List (S41)), 12))) = some (r1, r2) := H
                              have A29 := Aside0.mk A290
                              clear A290
                              by_cases c30 : t260 = true
                              · subst c30
                                have H1 : (if x4_1.length < 8796093022208 then (code_Decode.l0 kj8 y250 (x4_1 ++ [(⟨(wrap64 (rd x0_1 0)), wrap64 (IntKind.i16.wrap (Go.bits .or .i64 (wrap64 ((wrap64 (rd y243 0)) * 256)) (wrap64 (rd y243 1))))⟩ : S41)])) else (none)) = some (r1, r2) := by rw [if_pos rfl] at H; exact H
                                clear H
                                have H := H1
                                clear H1
                                by_cases c31 : x4_1.length < 8796093022208
                                · rw [if_pos c31] at H
                                  have LMc31 := Aside0.mk c31
                                  clear c31
                                  obtain ⟨y262, hy262⟩ : ∃ y_ : List (S41), y_ = (x4_1 ++ [(⟨(wrap64 (rd x0_1 0)), wrap64 (IntKind.i16.wrap (Go.bits .or .i64 (wrap64 ((wrap64 (rd y243 0)) * 256)) (wrap64 (rd y243 1))))⟩ : S41)]) := ⟨_, rfl⟩
                                  replace H : (code_Decode.l0 kj8 y250 y262) = some (r1, r2) := by first | (rw [hy262]; with_reducible exact H) | (have H2_ := (Option.bind_some _ _).symm.trans H; rw [hy262]; with_reducible exact H2_) | (have H2_ := (Option.bind_some _ _).symm.trans H; with_reducible exact H2_) | with_reducible exact H | (rw [hy262]; exact H) | exact H
                                  have Ny262 := Aside0.mk hy262
                                  clear hy262
                                  have H' := Aside0.mk H
                                  clear H
                                  try go_wp2
                                  have n0_ := Aside0.mk (Kd.V_drew HO_0.out)
                                  have n1_ := Aside0.mk (Kd.R_drew HO_4.out)
                                  have n2_ := Aside0.mk (blk_drew BK235.out)
                                  have n3_ := Aside0.mk (blk_drew BK242.out)
                                  have n4_ := Aside0.mk (below_drew1 HB.out)
                                  clear HO_0
                                  clear HO_4
                                  clear BK235
                                  clear BK242
                                  clear HB
                                  have HO_0 := n0_
                                  have HO_4 := n1_
                                  have BK235 := n2_
                                  have BK242 := n3_
                                  have HB := n4_
                                  clear n0_ n1_ n2_ n3_ n4_
                                  have p248 : 0 ≤ (0 : Int) := (by omega)
                                  have q248 : 0 < (y243.length : Int) := of_decide_eq_true (by first | (with_reducible assumption) | assumption)
                                  obtain ⟨ad248, e248, hx248_0⟩ := Kd.at_int (Kd.V_reads' HO_0.out).2.2 0 p248 q248
                                  cases e248
                                  have qi248 : (0 < y243.length) = True := eq_true (by omega)
                                  (try rw [show ((0 : Int)).toNat = 0 from rfl] at hx248_0)
                                  (try rw [Addr.add_zero'] at hx248_0)
                                  replace p248 := eq_true p248
                                  replace q248 := eq_true q248
                                  have p249 : 0 ≤ (1 : Int) := (by omega)
                                  have q249 : 1 < (y243.length : Int) := of_decide_eq_true (by first | (with_reducible assumption) | assumption)
                                  obtain ⟨ad249, e249, hx249_0⟩ := Kd.at_int (Kd.V_reads' HO_0.out).2.2 1 p249 q249
                                  obtain rfl : ad248 = ad249 := (by injection e249)
                                  (try simp only [show (1 : Int).toNat = 1 from rfl, Nat.reduceMul, Nat.reduceEqDiff, Go.Addr.add, ↓reduceIte] at hx249_0)
                                  have qi249 : (1 < y243.length) = True := eq_true (by omega)
                                  (try rw [show ((1 : Int)).toNat = 1 from rfl] at hx249_0)
                                  replace p249 := eq_true p249
                                  replace q249 := eq_true q249
                                  refine start_ (n := 12) (S := fun w' => w'.cell? ad248 = some (.int .u8 (rd y243 0)) ∧ w'.cell? ⟨ad248.block, ad248.off + 1, none⟩ = some (.int .u8 (rd y243 1))) (ds := []) #[false, false, false, false, false, false, false, false, false, false, false, false] (by kernel_rfl) rfl rfl ⟨hx248_0, hx249_0⟩ (fun hHeld => ?_); refine with_tabW code_Decode.tab11 code_Decode.bits11 (fun HT_ HW_ => ?_)
                                  generalize wc.drew = w32 at HO_0 HO_4 BK235 BK242 HB hx248_0 hx249_0 hHeld ⊢
                                  refine pure_ (i := 0) (N := some 36) (v := ?_) (a' := ?_) #[true, false, false, false, false, false, false, false, false, false, false, false] rfl rfl (any_of HT_.out (by kernel_rfl)) (fun _ _ _ h => h) (Or.inl ⟨by rfl, ?_⟩) ?_ ?_
                                  rotate_left
                                  · intro w'
                                    go_simp
                                    with_reducible rfl
                                  rotate_left
                                  · simp only [Act.put, List.setIfInBounds_toArray, List.set_cons_zero, List.set_cons_succ, i64_w, i32_w]
                                    rfl
                                  refine pure_ (i := 1) (N := some 37) (v := ?_) (a' := ?_) #[true, true, false, false, false, false, false, false, false, false, false, false] rfl rfl (any_of HT_.out (by kernel_rfl)) (fun _ _ _ h => h) (Or.inl ⟨by rfl, ?_⟩) ?_ ?_
                                  rotate_left
                                  · intro w'
                                    go_simp
                                    with_reducible rfl
                                  rotate_left
                                  · simp only [Act.put, List.setIfInBounds_toArray, List.set_cons_zero, List.set_cons_succ, i64_w, i32_w]
                                    rfl
                                  refine pure_ (i := 5) (N := some 41) (v := ?_) (a' := ?_) #[true, true, false, false, false, true, false, false, false, false, false, false] rfl rfl (any_of HT_.out (by kernel_rfl)) (fun _ _ _ h => h) (Or.inl ⟨by rfl, ?_⟩) ?_ ?_
                                  rotate_left
                                  · intro w'
                                    go_simp
                                    with_reducible rfl
                                  rotate_left
                                  · simp only [Act.put, List.setIfInBounds_toArray, List.set_cons_zero, List.set_cons_succ, i64_w, i32_w]
                                    rfl
                                  refine pure_ (i := 6) (N := some 42) (v := ?_) (a' := ?_) #[true, true, false, false, false, true, true, false, false, false, false, false] rfl rfl (any_of HT_.out (by kernel_rfl)) (fun _ _ _ h => h) (Or.inl ⟨by rfl, ?_⟩) ?_ ?_
                                  rotate_left
                                  · intro w'
                                    go_simp
                                    with_reducible rfl
                                  rotate_left
                                  · simp only [Act.put, List.setIfInBounds_toArray, List.set_cons_zero, List.set_cons_succ, i64_w, i32_w]
                                    rfl
                                  refine take_ (i := 2) (N := some 38) (v := ?_) (a' := ?_) #[true, true, true, false, false, true, true, false, false, false, false, false] rfl rfl (take_ofW HT_.out HW_.out (by kernel_rfl)) (fun _ _ _ h => h) (Or.inl ⟨by rfl, ?_⟩) hHeld ?_ ?_
                                  rotate_left
                                  · rintro w' ⟨s0, s1⟩
                                    go_simp
                                    with_reducible rfl
                                  rotate_left
                                  · simp only [Act.put, List.setIfInBounds_toArray, List.set_cons_zero, List.set_cons_succ, i64_w, i32_w]
                                    rfl
                                  refine pure_ (i := 3) (N := some 39) (v := ?_) (a' := ?_) #[true, true, true, true, false, true, true, false, false, false, false, false] rfl rfl (any_of HT_.out (by kernel_rfl)) (fun _ _ _ h => h) (Or.inl ⟨by rfl, ?_⟩) ?_ ?_
                                  rotate_left
                                  · intro w'
                                    go_simp
                                    with_reducible rfl
                                  rotate_left
                                  · simp only [Act.put, List.setIfInBounds_toArray, List.set_cons_zero, List.set_cons_succ, i64_w, i32_w]
                                    rfl
                                  refine pure_ (i := 4) (N := some 40) (v := ?_) (a' := ?_) #[true, true, true, true, true, true, true, false, false, false, false, false] rfl rfl (any_of HT_.out (by kernel_rfl)) (fun _ _ _ h => h) (Or.inl ⟨by rfl, ?_⟩) ?_ ?_
                                  rotate_left
                                  · intro w'
                                    go_simp
                                    with_reducible rfl
                                  rotate_left
                                  · simp only [Act.put, List.setIfInBounds_toArray, List.set_cons_zero, List.set_cons_succ, i64_w, i32_w]
                                    rfl
                                  refine take_ (i := 7) (N := some 43) (v := ?_) (a' := ?_) #[true, true, true, true, true, true, true, true, false, false, false, false] rfl rfl (take_ofW HT_.out HW_.out (by kernel_rfl)) (fun _ _ _ h => h) (Or.inl ⟨by rfl, ?_⟩) hHeld ?_ ?_
                                  rotate_left
                                  · rintro w' ⟨s0, s1⟩
                                    go_simp
                                    with_reducible rfl
                                  rotate_left
                                  · simp only [Act.put, List.setIfInBounds_toArray, List.set_cons_zero, List.set_cons_succ, i64_w, i32_w]
                                    rfl
                                  refine pure_ (i := 8) (N := some 44) (v := ?_) (a' := ?_) #[true, true, true, true, true, true, true, true, true, false, false, false] rfl rfl (any_of HT_.out (by kernel_rfl)) (fun _ _ _ h => h) (Or.inl ⟨by rfl, ?_⟩) ?_ ?_
                                  rotate_left
                                  · intro w'
                                    go_simp
                                    with_reducible rfl
                                  rotate_left
                                  · simp only [Act.put, List.setIfInBounds_toArray, List.set_cons_zero, List.set_cons_succ, i64_w, i32_w]
                                    rfl
                                  refine pure_ (i := 9) (N := some 45) (v := ?_) (a' := ?_) #[true, true, true, true, true, true, true, true, true, true, false, false] rfl rfl (any_of HT_.out (by kernel_rfl)) (fun _ _ _ h => h) (Or.inl ⟨by rfl, ?_⟩) ?_ ?_
                                  rotate_left
                                  · intro w'
                                    go_simp
                                    with_reducible rfl
                                  rotate_left
                                  · simp only [Act.put, List.setIfInBounds_toArray, List.set_cons_zero, List.set_cons_succ, i64_w, i32_w]
                                    rfl
                                  refine pure_ (i := 10) (N := some 46) (v := ?_) (a' := ?_) #[true, true, true, true, true, true, true, true, true, true, true, false] rfl rfl (any_of HT_.out (by kernel_rfl)) (fun _ _ _ h => h) (Or.inl ⟨by rfl, ?_⟩) ?_ ?_
                                  rotate_left
                                  · intro w'
                                    go_simp
                                    with_reducible rfl
                                  rotate_left
                                  · simp only [Act.put, List.setIfInBounds_toArray, List.set_cons_zero, List.set_cons_succ, i64_w, i32_w]
                                    rfl
                                  refine one_ (i := 11) (N := none) #[true, true, true, true, true, true, true, true, true, true, true, true] rfl rfl (one_of HT_.out (by kernel_rfl)) (by decide) (fun K hK => ?_)
                                  have hs33 : w32.cell? ⟨gb235, 1, none⟩ = some (.int .i64 0) := (blk_cell BK235.out 1).trans rfl
                                  have hfs33 := blk_frozen BK235.out 1
                                  have hns33_1 := NB242_235.out
                                  have hms33_1 := NB235_242.out
                                  refine skip_ (w1 := ?_) (by rfl) rfl ?_ ?_
                                  rotate_left
                                  · go_simp
                                    rfl
                                  refine hK.out _ _ ⟨((cell_far (p := ⟨gb235, _, none⟩) (by first | exact Kd.own_blk (Kd.V_away HO_0.out (fun _ hk => hk.2.2.1)) | (rw [add_block]; exact Kd.own_blk (Kd.V_away HO_0.out (fun _ hk => hk.2.2.1))) | (show (Addr.add _ _).block ≠ _; rw [add_block]; exact Kd.own_blk (Kd.V_away HO_0.out (fun _ hk => hk.2.2.1))) | (dsimp only; exact Kd.own_blk (Kd.V_away HO_0.out (fun _ hk => hk.2.2.1)))) _).trans (hHeld.1)), ((cell_far (p := ⟨gb235, _, none⟩) (by first | exact Kd.own_blk (Kd.V_away HO_0.out (fun _ hk => hk.2.2.1)) | (rw [add_block]; exact Kd.own_blk (Kd.V_away HO_0.out (fun _ hk => hk.2.2.1))) | (show (Addr.add _ _).block ≠ _; rw [add_block]; exact Kd.own_blk (Kd.V_away HO_0.out (fun _ hk => hk.2.2.1))) | (dsimp only; exact Kd.own_blk (Kd.V_away HO_0.out (fun _ hk => hk.2.2.1)))) _).trans (hHeld.2))⟩ (fun hHeld => ?_)
                                  clear hK K
                                  refine done_ (done_of HT_.out (by kernel_rfl)) ?_
                                  have n0_ : Aside0 (Kd.V (Kd.int .u8) 5 (w32.setCell ⟨gb235, 1, none⟩ (.int .i64 (Go.bits .or .i64 (wrap64 ((wrap64 (rd y243 0)) * 256)) (wrap64 (rd y243 1))))) w.heap.size (fun k_ => (P0_ k_ ∨ w.heap.size ≤ k_) ∧ some k_ ≠ (.slice Ao11 x4_1.length co11 : Value).ownBlock ∧ k_ ≠ gb235 ∧ k_ ≠ gb242) (.slice (some ad248) y243.length c19) y243) := ⟨by (with_reducible repeat (first | apply Kd.V_alloc | apply Kd.V_drewN | apply Kd.V_drew)); exact Kd.V_mono (Kd.V_far (p := ⟨gb235, 1, none⟩) (Kd.V_mono HO_0.out (fun k_ hk => (⟨hk, hk.2.2.1⟩ : _ ∧ k_ ≠ gb235))) (fun _ hk => hk.2) (.int .i64 (Go.bits .or .i64 (wrap64 ((wrap64 (rd y243 0)) * 256)) (wrap64 (rd y243 1))))) (fun _ hk => ⟨hk.1.1, ⟨hk.1.2.1, ⟨hk.1.2.2.1, hk.1.2.2.2⟩⟩⟩)⟩
                                  have n1_ : Aside0 (Kd.R k41 41 (w32.setCell ⟨gb235, 1, none⟩ (.int .i64 (Go.bits .or .i64 (wrap64 ((wrap64 (rd y243 0)) * 256)) (wrap64 (rd y243 1))))) w.heap.size (fun k_ => (w.heap.size ≤ k_) ∧ k_ ≠ gb235) (.slice Ao11 x4_1.length co11) x4_1) := ⟨by (with_reducible repeat (first | apply Kd.R_alloc | apply Kd.R_drewN | apply Kd.R_drew)); exact Kd.R_mono (Kd.R_far (p := ⟨gb235, 1, none⟩) (Kd.R_mono HO_4.out (fun k_ hk => (⟨hk, hk.2⟩ : _ ∧ k_ ≠ gb235))) (fun _ hk => hk.2) (.int .i64 (Go.bits .or .i64 (wrap64 ((wrap64 (rd y243 0)) * 256)) (wrap64 (rd y243 1))))) (fun _ hk => ⟨hk.1.1, hk.1.2⟩)⟩
                                  have n2_ : Aside0 ((w32.setCell ⟨gb235, 1, none⟩ (.int .i64 (Go.bits .or .i64 (wrap64 ((wrap64 (rd y243 0)) * 256)) (wrap64 (rd y243 1))))).heap[gb235]? = some (.cells #[.int .i64 (wrap64 (rd x0_1 0)), .int .i64 (Go.bits .or .i64 (wrap64 ((wrap64 (rd y243 0)) * 256)) (wrap64 (rd y243 1)))] 41 (0, 0))) := ⟨by (with_reducible repeat (first | refine blk_drewN ?_ _ | refine blk_drew ?_ | refine blk_alloc ?_ _)); refine blk_put (cs := #[.int .i64 (wrap64 (rd x0_1 0)), .int .i64 0]) ?_ 1 _ rfl; (with_reducible repeat (first | refine blk_drewN ?_ _ | refine blk_drew ?_ | refine blk_alloc ?_ _)); exact BK235.out⟩
                                  have n3_ : Aside0 ((w32.setCell ⟨gb235, 1, none⟩ (.int .i64 (Go.bits .or .i64 (wrap64 ((wrap64 (rd y243 0)) * 256)) (wrap64 (rd y243 1))))).heap[gb242]? = some (.cells #[.int .i64 t236, .int .i64 t237, .int .i64 t238, .int .i64 t239, .bool t240] 56 (0, 0))) := ⟨by (with_reducible repeat (first | refine blk_drewN ?_ _ | refine blk_drew ?_ | refine blk_alloc ?_ _)); refine blk_far ?_ NB242_235.out _; (with_reducible repeat (first | refine blk_drewN ?_ _ | refine blk_drew ?_ | refine blk_alloc ?_ _)); exact BK242.out⟩
                                  have n4_ : Aside0 (Below w.heap.size w (w32.setCell ⟨gb235, 1, none⟩ (.int .i64 (Go.bits .or .i64 (wrap64 ((wrap64 (rd y243 0)) * 256)) (wrap64 (rd y243 1)))))) := ⟨by repeat (first | (with_reducible first | exact HB.out | apply below_alloc | apply pw_below_drewN | apply below_drew1 | refine below_set ?_ GE235.out | refine below_set ?_ GE242.out) | exact HB.out)⟩
                                  (try clear HO_0)
                                  (try clear HO_4)
                                  (try clear BK235)
                                  (try clear BK242)
                                  (try clear HB)
                                  generalize (w32.setCell ⟨gb235, 1, none⟩ (.int .i64 (Go.bits .or .i64 (wrap64 ((wrap64 (rd y243 0)) * 256)) (wrap64 (rd y243 1))))) = w34 at n0_ n1_ n2_ n3_ n4_ ⊢
                                  have HO_0 := n0_
                                  have HO_4 := n1_
                                  have BK235 := n2_
                                  have BK242 := n3_
                                  have HB := n4_
                                  clear n0_ n1_ n2_ n3_ n4_
                                  have hnb35 := NB235_242.out
                                  have hnc35 := NB242_235.out
                                  have hcz36_0 : w34.cell? ⟨gb235, 0, none⟩ = some (.int .i64 (wrap64 (rd x0_1 0))) := (blk_cell BK235.out 0).trans rfl
                                  have hcz36_1 : w34.cell? ⟨gb235, 1, none⟩ = some (.int .i64 (Go.bits .or .i64 (wrap64 ((wrap64 (rd y243 0)) * 256)) (wrap64 (rd y243 1)))) := (blk_cell BK235.out 1).trans rfl
                                  have hfz36_0 := blk_frozen BK235.out 0
                                  have hfz36_1 := blk_frozen BK235.out 1
                                  try go_wp2_with (first | ((with_reducible refine gate_store (t := 3) (p := 54) rfl ?_); refine store_event (t := 3) (p := 54) (v := ?vo_w37) (w1 := (w34.setCell ⟨gb235, 1, none⟩ (.int .i64 (wrap64 (IntKind.i16.wrap (Go.bits .or .i64 (wrap64 ((wrap64 (rd y243 0)) * 256)) (wrap64 (rd y243 1)))))))) ?hg ?ho ?hn ?hr ?_; (case ho => rfl); (case hg => rfl); (case hn => rfl); (case hr => first | (go_simp; done) | (go_simp; rfl)); intro w37 hw; have n0_ : Aside0 (Kd.V (Kd.int .u8) 5 w37 w.heap.size (fun k_ => (P0_ k_ ∨ w.heap.size ≤ k_) ∧ some k_ ≠ (.slice Ao11 x4_1.length co11 : Value).ownBlock ∧ k_ ≠ gb235 ∧ k_ ≠ gb242) (.slice (some ad248) y243.length c19) y243) := ⟨(by rw [hw]; exact (by (with_reducible repeat (first | apply Kd.V_alloc | apply Kd.V_drewN | apply Kd.V_drew)); exact Kd.V_mono (Kd.V_far (p := ⟨gb235, 1, none⟩) (Kd.V_mono HO_0.out (fun k_ hk => (⟨hk, hk.2.2.1⟩ : _ ∧ k_ ≠ gb235))) (fun _ hk => hk.2) (.int .i64 (wrap64 (IntKind.i16.wrap (Go.bits .or .i64 (wrap64 ((wrap64 (rd y243 0)) * 256)) (wrap64 (rd y243 1))))))) (fun _ hk => ⟨hk.1.1, ⟨hk.1.2.1, ⟨hk.1.2.2.1, hk.1.2.2.2⟩⟩⟩)))⟩; have n1_ : Aside0 (Kd.R k41 41 w37 w.heap.size (fun k_ => (w.heap.size ≤ k_) ∧ k_ ≠ gb235) (.slice Ao11 x4_1.length co11) x4_1) := ⟨(by rw [hw]; exact (by (with_reducible repeat (first | apply Kd.R_alloc | apply Kd.R_drewN | apply Kd.R_drew)); exact Kd.R_mono (Kd.R_far (p := ⟨gb235, 1, none⟩) (Kd.R_mono HO_4.out (fun k_ hk => (⟨hk, hk.2⟩ : _ ∧ k_ ≠ gb235))) (fun _ hk => hk.2) (.int .i64 (wrap64 (IntKind.i16.wrap (Go.bits .or .i64 (wrap64 ((wrap64 (rd y243 0)) * 256)) (wrap64 (rd y243 1))))))) (fun _ hk => ⟨hk.1.1, hk.1.2⟩)))⟩; have n2_ : Aside0 (w37.heap[gb235]? = some (.cells #[.int .i64 (wrap64 (rd x0_1 0)), .int .i64 (wrap64 (IntKind.i16.wrap (Go.bits .or .i64 (wrap64 ((wrap64 (rd y243 0)) * 256)) (wrap64 (rd y243 1)))))] 41 (0, 0))) := ⟨(by rw [hw]; exact (by (with_reducible repeat (first | refine blk_drewN ?_ _ | refine blk_drew ?_ | refine blk_alloc ?_ _)); refine blk_put (cs := #[.int .i64 (wrap64 (rd x0_1 0)), .int .i64 (Go.bits .or .i64 (wrap64 ((wrap64 (rd y243 0)) * 256)) (wrap64 (rd y243 1)))]) ?_ 1 _ rfl; (with_reducible repeat (first | refine blk_drewN ?_ _ | refine blk_drew ?_ | refine blk_alloc ?_ _)); exact BK235.out))⟩; have n3_ : Aside0 (w37.heap[gb242]? = some (.cells #[.int .i64 t236, .int .i64 t237, .int .i64 t238, .int .i64 t239, .bool t240] 56 (0, 0))) := ⟨(by rw [hw]; exact (by (with_reducible repeat (first | refine blk_drewN ?_ _ | refine blk_drew ?_ | refine blk_alloc ?_ _)); refine blk_far ?_ NB242_235.out _; (with_reducible repeat (first | refine blk_drewN ?_ _ | refine blk_drew ?_ | refine blk_alloc ?_ _)); exact BK242.out))⟩; have n4_ : Aside0 (Below w.heap.size w w37) := ⟨(by rw [hw]; exact (by repeat (first | (with_reducible first | exact HB.out | apply below_alloc | apply pw_below_drewN | apply below_drew1 | refine below_set ?_ GE235.out | refine below_set ?_ GE242.out) | exact HB.out)))⟩; clear hw; clear HO_0; clear HO_4; clear BK235; clear BK242; clear HB; have HO_0 := n0_; have HO_4 := n1_; have BK235 := n2_; have BK242 := n3_; have HB := n4_; clear n0_ n1_ n2_ n3_ n4_; have q38 : (2 : Int) ≤ ((y243.length : Int) : Int) := of_decide_eq_true (by first | (with_reducible assumption) | assumption); obtain ⟨i038, hi038, _, hsz38, _⟩ := info_parts info5; have hroom38 : y243.length ≤ c19 := (Kd.V_reads' HO_0.out).2.1; have hC38 : Kd.F (Kd.int .u8) _ _ (some ad248) y243.length y243 := (Kd.V_at (base := w.heap.size) HO_0.out).2.2; have hcut38 := cut_from (P := Try.prog) 43 5 .i64 Try.underlying43 hi038 1 hsz38 (some ad248) y243.length c19 2 (by omega) q38; have hr38 := Kd.F_cut (m := (2 : Int).toNat) (c := c19) hC38 (by omega) hroom38; obtain ⟨A38, hA38⟩ : ∃ A1, A1 = (if c19 = (2 : Int).toNat then (some ad248) else ((some ad248) : Option Addr).map (·.add ((2 : Int).toNat * 1))) := ⟨_, rfl⟩; obtain ⟨c38, hc38⟩ : ∃ c1, c1 = c19 - (2 : Int).toNat := ⟨_, rfl⟩; have hy38 : y250.length = y243.length - (2 : Int).toNat := (by rw [Ny250.out, List.length_drop] <;> omega); rw [show (y243).drop (2 : Int).toNat = y250 from Ny250.out.symm] at hr38; replace hr38 : Kd.F (Kd.int .u8) _ _ A38 y250.length y250 := (by rw [hA38]; exact hr38); rw [← hy38, ← hA38, ← hc38] at hcut38; have HO254 := Aside0.mk (show Kd.V (Kd.int .u8) 5 _ w.heap.size _ (.slice A38 y250.length c38) y250 from Kd.V_mk (by rw [hy38, hc38]; exact Nat.sub_le_sub_right hroom38 _) hr38); have HC254 := Aside0.mk (show y250.length ≤ c38 from by rw [hy38, hc38]; exact Nat.sub_le_sub_right hroom38 _); clear hr38 hC38 hroom38 hi038 hsz38 hc38; have KY38 := Aside0.mk hy38; have KA38 := Aside0.mk hA38; clear hy38 hA38; replace q38 := eq_true q38; have hcz39_0 : w37.cell? ⟨gb235, 0, none⟩ = some (.int .i64 (wrap64 (rd x0_1 0))) := (blk_cell BK235.out 0).trans rfl; have hcz39_1 : w37.cell? ⟨gb235, 1, none⟩ = some (.int .i64 (wrap64 (IntKind.i16.wrap (Go.bits .or .i64 (wrap64 ((wrap64 (rd y243 0)) * 256)) (wrap64 (rd y243 1)))))) := (blk_cell BK235.out 1).trans rfl; have hfz39_0 := blk_frozen BK235.out 0; have hfz39_1 := blk_frozen BK235.out 1) | ((with_reducible refine gate_callee (f := 25) rfl ?_); refine goesL_ (some 59) rfl rfl Try.func25 (by kernel_rfl) rfl #[.agg #[.int .i64 (wrap64 (rd x0_1 0)), .int .i64 (wrap64 (IntKind.i16.wrap (Go.bits .or .i64 (wrap64 ((wrap64 (rd y243 0)) * 256)) (wrap64 (rd y243 1)))))]] rfl (by (try simp only [List.map_toArray, List.map_cons, List.map_nil]); first | done | rfl | (simp only [List.length_drop, List.length_take]; rfl)) ?_; (with_reducible refine (code_may.calls (wrap64 (rd x0_1 0)) (wrap64 (IntKind.i16.wrap (Go.bits .or .i64 (wrap64 ((wrap64 (rd y243 0)) * 256)) (wrap64 (rd y243 1))))) t255 t256 t257 t258 t259 true _ A29.out).mono ?_); rintro e w40 ⟨rfl, hb⟩; refine ⟨_, rfl, ?_⟩; have n0_ := Aside0.mk (Kd.V_below (by (with_reducible repeat (first | apply Kd.V_alloc | apply Kd.V_drewN | apply Kd.V_drew)); exact HO_0.out) hb); have n1_ := Aside0.mk (Kd.R_below (by (with_reducible repeat (first | apply Kd.R_alloc | apply Kd.R_drewN | apply Kd.R_drew)); exact HO_4.out) hb); have n2_ := Aside0.mk (Kd.V_below (by (with_reducible repeat (first | apply Kd.V_alloc | apply Kd.V_drewN | apply Kd.V_drew)); exact HO254.out) hb); have n3_ := Aside0.mk (blk_below (g := gb235) (o := .cells #[.int .i64 (wrap64 (rd x0_1 0)), .int .i64 (wrap64 (IntKind.i16.wrap (Go.bits .or .i64 (wrap64 ((wrap64 (rd y243 0)) * 256)) (wrap64 (rd y243 1)))))] 41 (0, 0)) (by (with_reducible repeat (first | refine blk_drewN ?_ _ | refine blk_drew ?_ | refine blk_alloc ?_ _)); exact BK235.out) hb); have n4_ := Aside0.mk (blk_below (g := gb242) (o := .cells #[.int .i64 t236, .int .i64 t237, .int .i64 t238, .int .i64 t239, .bool t240] 56 (0, 0)) (by (with_reducible repeat (first | refine blk_drewN ?_ _ | refine blk_drew ?_ | refine blk_alloc ?_ _)); exact BK242.out) hb); have n5_ := Aside0.mk (below_step (by repeat (first | (with_reducible first | exact HB.out | apply below_alloc | apply pw_below_drewN | apply below_drew1 | refine below_set ?_ GE235.out | refine below_set ?_ GE242.out) | exact HB.out)) hb); clear HO_0; clear HO_4; clear HO254; clear BK235; clear BK242; clear HB; have HO_0 := n0_; have HO_4 := n1_; have HO254 := n2_; have BK235 := n3_; have BK242 := n4_; have HB := n5_; clear n0_ n1_ n2_ n3_ n4_ n5_; (try clear hb); (try clear hb2); (try clear hk); (try clear hi)) | ((with_reducible refine gate_dst (N := 8) rfl ?_); refine box_event ?hg (N := 8) ?hd (cs := #[.int .i64 0, .int .i64 0, .int .i64 0, .int .i64 0, .bool false]) (t := 56) ?hr ?_; (case hd => rfl); (case hg => rfl); (case hr => first | (go_simp; done) | (go_simp; rfl)); intro gb261 hg w41 hbox hb; have n0_ := Aside0.mk (Kd.V_below (Kd.V_elderB (by (with_reducible repeat (first | apply Kd.V_alloc | apply Kd.V_drewN | apply Kd.V_drew)); exact HO_0.out) gb261 (Nat.le_of_eq hg.symm)) hb); have n1_ := Aside0.mk (Kd.R_below (by (with_reducible repeat (first | apply Kd.R_alloc | apply Kd.R_drewN | apply Kd.R_drew)); exact HO_4.out) hb); have n2_ := Aside0.mk (Kd.V_below (Kd.V_elderB (by (with_reducible repeat (first | apply Kd.V_alloc | apply Kd.V_drewN | apply Kd.V_drew)); exact HO254.out) gb261 (Nat.le_of_eq hg.symm)) hb); have n3_ := Aside0.mk (blk_below (g := gb235) (o := .cells #[.int .i64 (wrap64 (rd x0_1 0)), .int .i64 (wrap64 (IntKind.i16.wrap (Go.bits .or .i64 (wrap64 ((wrap64 (rd y243 0)) * 256)) (wrap64 (rd y243 1)))))] 41 (0, 0)) (by (with_reducible repeat (first | refine blk_drewN ?_ _ | refine blk_drew ?_ | refine blk_alloc ?_ _)); exact BK235.out) hb); have n4_ := Aside0.mk (blk_below (g := gb242) (o := .cells #[.int .i64 t236, .int .i64 t237, .int .i64 t238, .int .i64 t239, .bool t240] 56 (0, 0)) (by (with_reducible repeat (first | refine blk_drewN ?_ _ | refine blk_drew ?_ | refine blk_alloc ?_ _)); exact BK242.out) hb); have n5_ := Aside0.mk (below_step (by repeat (first | (with_reducible first | exact HB.out | apply below_alloc | apply pw_below_drewN | apply below_drew1 | refine below_set ?_ GE235.out | refine below_set ?_ GE242.out) | exact HB.out)) hb); have n6_ := Aside0.mk (hbox); have n7_ := Aside0.mk ((by rw [hg]; exact (below_size (by repeat (first | (with_reducible first | exact HB.out | apply below_alloc | apply pw_below_drewN | apply below_drew1 | refine below_set ?_ GE235.out | refine below_set ?_ GE242.out) | exact HB.out))) : w.heap.size ≤ gb261)); have n8_ := Aside0.mk ((by rw [hg]; exact (below_size (by repeat (first | (with_reducible first | exact HB.out | apply below_alloc | apply pw_below_drewN | apply below_drew1 | refine below_set ?_ GE235.out | refine below_set ?_ GE242.out) | exact HB.out))) : w.heap.size ≤ gb261)); have n9_ := Aside0.mk ((by rw [hg]; exact Nat.ne_of_lt (blk_lt (g := gb235) (o := .cells #[.int .i64 (wrap64 (rd x0_1 0)), .int .i64 (wrap64 (IntKind.i16.wrap (Go.bits .or .i64 (wrap64 ((wrap64 (rd y243 0)) * 256)) (wrap64 (rd y243 1)))))] 41 (0, 0)) (by (with_reducible repeat (first | refine blk_drewN ?_ _ | refine blk_drew ?_ | refine blk_alloc ?_ _)); exact BK235.out)) : gb235 ≠ gb261)); have n10_ := Aside0.mk ((by rw [hg]; exact Nat.ne_of_gt (blk_lt (g := gb235) (o := .cells #[.int .i64 (wrap64 (rd x0_1 0)), .int .i64 (wrap64 (IntKind.i16.wrap (Go.bits .or .i64 (wrap64 ((wrap64 (rd y243 0)) * 256)) (wrap64 (rd y243 1)))))] 41 (0, 0)) (by (with_reducible repeat (first | refine blk_drewN ?_ _ | refine blk_drew ?_ | refine blk_alloc ?_ _)); exact BK235.out)) : gb261 ≠ gb235)); have n11_ := Aside0.mk ((by rw [hg]; exact Nat.ne_of_lt (blk_lt (g := gb242) (o := .cells #[.int .i64 t236, .int .i64 t237, .int .i64 t238, .int .i64 t239, .bool t240] 56 (0, 0)) (by (with_reducible repeat (first | refine blk_drewN ?_ _ | refine blk_drew ?_ | refine blk_alloc ?_ _)); exact BK242.out)) : gb242 ≠ gb261)); have n12_ := Aside0.mk ((by rw [hg]; exact Nat.ne_of_gt (blk_lt (g := gb242) (o := .cells #[.int .i64 t236, .int .i64 t237, .int .i64 t238, .int .i64 t239, .bool t240] 56 (0, 0)) (by (with_reducible repeat (first | refine blk_drewN ?_ _ | refine blk_drew ?_ | refine blk_alloc ?_ _)); exact BK242.out)) : gb261 ≠ gb242)); clear HO_0; clear HO_4; clear HO254; clear BK235; clear BK242; clear HB; have HO_0 := n0_; have HO_4 := n1_; have HO254 := n2_; have BK235 := n3_; have BK242 := n4_; have HB := n5_; have BK261 := n6_; have GW261 := n7_; have GE261 := n8_; have NB235_261 := n9_; have NB261_235 := n10_; have NB242_261 := n11_; have NB261_242 := n12_; clear n0_ n1_ n2_ n3_ n4_ n5_ n6_ n7_ n8_ n9_ n10_ n11_ n12_; clear hb hbox hg; have hnb42 := NB261_235.out; have hnc42 := NB235_261.out; have hnb43 := NB261_242.out; have hnc43 := NB242_261.out; have hcz44_0 : w41.cell? ⟨gb261, 0, none⟩ = some (.int .i64 0) := (blk_cell BK261.out 0).trans rfl; have hcz44_1 : w41.cell? ⟨gb261, 1, none⟩ = some (.int .i64 0) := (blk_cell BK261.out 1).trans rfl; have hcz44_2 : w41.cell? ⟨gb261, 2, none⟩ = some (.int .i64 0) := (blk_cell BK261.out 2).trans rfl; have hcz44_3 : w41.cell? ⟨gb261, 3, none⟩ = some (.int .i64 0) := (blk_cell BK261.out 3).trans rfl; have hcz44_4 : w41.cell? ⟨gb261, 4, none⟩ = some (.bool false) := (blk_cell BK261.out 4).trans rfl; have hfz44_0 := blk_frozen BK261.out 0; have hfz44_1 := blk_frozen BK261.out 1; have hfz44_2 := blk_frozen BK261.out 2; have hfz44_3 := blk_frozen BK261.out 3; have hfz44_4 := blk_frozen BK261.out 4; have hcz45_0 : w41.cell? ⟨gb235, 0, none⟩ = some (.int .i64 (wrap64 (rd x0_1 0))) := (blk_cell BK235.out 0).trans rfl; have hcz45_1 : w41.cell? ⟨gb235, 1, none⟩ = some (.int .i64 (wrap64 (IntKind.i16.wrap (Go.bits .or .i64 (wrap64 ((wrap64 (rd y243 0)) * 256)) (wrap64 (rd y243 1)))))) := (blk_cell BK235.out 1).trans rfl; have hfz45_0 := blk_frozen BK235.out 0; have hfz45_1 := blk_frozen BK235.out 1) | ((with_reducible refine gate_builtin (b := .append) (xs := #[.tmp 64, .tmp 66]) rfl ?_); at_builtin; refine Kd.R_append k41 (w0 := w) w.heap.size rfl (.tmp 64) (.tmp 66) 28 41 (.agg #[(.int .i64 0), (.int .i64 0)]) 16 rfl Try.underlying28 info41 rfl (by decide) (by omega) (.slice Ao11 x4_1.length co11) x4_1 (⟨(wrap64 (rd x0_1 0)), wrap64 (IntKind.i16.wrap (Go.bits .or .i64 (wrap64 ((wrap64 (rd y243 0)) * 256)) (wrap64 (rd y243 1))))⟩ : S41) [.int .i64 (wrap64 (rd x0_1 0)), .int .i64 (wrap64 (IntKind.i16.wrap (Go.bits .or .i64 (wrap64 ((wrap64 (rd y243 0)) * 256)) (wrap64 (rd y243 1)))))] (fun k_ => (w.heap.size ≤ k_) ∧ k_ ≠ gb235) (fun _ => False) rfl (by first | (go_simp; done) | (go_simp; rfl)) ?aP (fun _ hk => hk.elim) ?aF ?aO ?aB ?aS ?aL ?_; (case aP => exact k41_mkM _ _ _ (⟨(wrap64 (rd x0_1 0)), wrap64 (IntKind.i16.wrap (Go.bits .or .i64 (wrap64 ((wrap64 (rd y243 0)) * 256)) (wrap64 (rd y243 1))))⟩ : S41)); (case aB => exact (by repeat (first | (with_reducible first | exact HB.out | apply below_alloc | apply pw_below_drewN | apply below_drew1 | refine below_set ?_ GE235.out | refine below_set ?_ GE242.out | refine below_set ?_ GE261.out) | exact HB.out))); (case aF => exact (fun k_ hk => ⟨(Nat.le_trans (below_size (by repeat (first | (with_reducible first | exact HB.out | apply below_alloc | apply pw_below_drewN | apply below_drew1 | refine below_set ?_ GE235.out | refine below_set ?_ GE242.out | refine below_set ?_ GE261.out) | exact HB.out))) hk), Kd.freshB (g := gb235) (o := .cells #[.int .i64 (wrap64 (rd x0_1 0)), .int .i64 (wrap64 (IntKind.i16.wrap (Go.bits .or .i64 (wrap64 ((wrap64 (rd y243 0)) * 256)) (wrap64 (rd y243 1)))))] 41 (0, 0)) (by (with_reducible repeat (first | refine blk_drewN ?_ _ | refine blk_drew ?_ | refine blk_alloc ?_ _)); refine blk_far ?_ NB235_261.out _; (with_reducible repeat (first | refine blk_drewN ?_ _ | refine blk_drew ?_ | refine blk_alloc ?_ _)); refine blk_far ?_ NB235_261.out _; (with_reducible repeat (first | refine blk_drewN ?_ _ | refine blk_drew ?_ | refine blk_alloc ?_ _)); refine blk_far ?_ NB235_261.out _; (with_reducible repeat (first | refine blk_drewN ?_ _ | refine blk_drew ?_ | refine blk_alloc ?_ _)); refine blk_far ?_ NB235_261.out _; (with_reducible repeat (first | refine blk_drewN ?_ _ | refine blk_drew ?_ | refine blk_alloc ?_ _)); refine blk_far ?_ NB235_261.out _; (with_reducible repeat (first | refine blk_drewN ?_ _ | refine blk_drew ?_ | refine blk_alloc ?_ _)); exact BK235.out) k_ hk⟩)); (case aO => exact (by (with_reducible repeat (first | apply Kd.R_alloc | apply Kd.R_drewN | apply Kd.R_drew)); exact Kd.R_mono (Kd.R_far (p := ⟨gb261, 4, none⟩) (Kd.R_far (p := ⟨gb261, 3, none⟩) (Kd.R_far (p := ⟨gb261, 2, none⟩) (Kd.R_far (p := ⟨gb261, 1, none⟩) (Kd.R_far (p := ⟨gb261, 0, none⟩) (Kd.R_types HO_4.out BK261.out (by decide)) (fun _ hk => hk.2) (.int .i64 t255)) (fun _ hk => hk.2) (.int .i64 t256)) (fun _ hk => hk.2) (.int .i64 t257)) (fun _ hk => hk.2) (.int .i64 t258)) (fun _ hk => hk.2) (.bool t259)) (fun _ hk => ⟨hk.1.1, hk.1.2⟩))); (case aS => exact (below_size (by repeat (first | (with_reducible first | exact HB.out | apply below_alloc | apply pw_below_drewN | apply below_drew1 | refine below_set ?_ GE235.out | refine below_set ?_ GE242.out | refine below_set ?_ GE261.out) | exact HB.out)))); (case aL => have := LMc31.out; omega); intro v263 w46 ho hb hg hat; rw [← Ny262.out] at ho; have n0_ := Aside0.mk (Kd.V_afterv (ok := (fun k_ => (P0_ k_ ∨ w.heap.size ≤ k_) ∧ k_ ≠ gb235 ∧ k_ ≠ gb242 ∧ k_ ≠ gb261)) (by (with_reducible repeat (first | apply Kd.V_alloc | apply Kd.V_drewN | apply Kd.V_drew)); exact Kd.V_mono (Kd.V_far (p := ⟨gb261, 4, none⟩) (Kd.V_far (p := ⟨gb261, 3, none⟩) (Kd.V_far (p := ⟨gb261, 2, none⟩) (Kd.V_far (p := ⟨gb261, 1, none⟩) (Kd.V_far (p := ⟨gb261, 0, none⟩) (Kd.V_mono HO_0.out (fun k_ hk => (⟨hk, hk.2⟩ : _ ∧ k_ ≠ gb261))) (fun _ hk => hk.2) (.int .i64 t255)) (fun _ hk => hk.2) (.int .i64 t256)) (fun _ hk => hk.2) (.int .i64 t257)) (fun _ hk => hk.2) (.int .i64 t258)) (fun _ hk => hk.2) (.bool t259)) (fun _ hk => ⟨⟨hk.1.1.1, ⟨hk.1.1.2.2.1, ⟨hk.1.1.2.2.2, hk.1.2⟩⟩⟩, hk.1.1.2.1⟩)) hg hat); have n1_ := Aside0.mk (blk_grown (g := gb235) (o := .cells #[.int .i64 (wrap64 (rd x0_1 0)), .int .i64 (wrap64 (IntKind.i16.wrap (Go.bits .or .i64 (wrap64 ((wrap64 (rd y243 0)) * 256)) (wrap64 (rd y243 1)))))] 41 (0, 0)) (by (with_reducible repeat (first | refine blk_drewN ?_ _ | refine blk_drew ?_ | refine blk_alloc ?_ _)); refine blk_far ?_ NB235_261.out _; (with_reducible repeat (first | refine blk_drewN ?_ _ | refine blk_drew ?_ | refine blk_alloc ?_ _)); refine blk_far ?_ NB235_261.out _; (with_reducible repeat (first | refine blk_drewN ?_ _ | refine blk_drew ?_ | refine blk_alloc ?_ _)); refine blk_far ?_ NB235_261.out _; (with_reducible repeat (first | refine blk_drewN ?_ _ | refine blk_drew ?_ | refine blk_alloc ?_ _)); refine blk_far ?_ NB235_261.out _; (with_reducible repeat (first | refine blk_drewN ?_ _ | refine blk_drew ?_ | refine blk_alloc ?_ _)); refine blk_far ?_ NB235_261.out _; (with_reducible repeat (first | refine blk_drewN ?_ _ | refine blk_drew ?_ | refine blk_alloc ?_ _)); exact BK235.out) hg (Kd.R_away HO_4.out (fun _ hk => hk.2))); have n2_ := Aside0.mk (blk_grown (g := gb242) (o := .cells #[.int .i64 t236, .int .i64 t237, .int .i64 t238, .int .i64 t239, .bool t240] 56 (0, 0)) (by (with_reducible repeat (first | refine blk_drewN ?_ _ | refine blk_drew ?_ | refine blk_alloc ?_ _)); refine blk_far ?_ NB242_261.out _; (with_reducible repeat (first | refine blk_drewN ?_ _ | refine blk_drew ?_ | refine blk_alloc ?_ _)); refine blk_far ?_ NB242_261.out _; (with_reducible repeat (first | refine blk_drewN ?_ _ | refine blk_drew ?_ | refine blk_alloc ?_ _)); refine blk_far ?_ NB242_261.out _; (with_reducible repeat (first | refine blk_drewN ?_ _ | refine blk_drew ?_ | refine blk_alloc ?_ _)); refine blk_far ?_ NB242_261.out _; (with_reducible repeat (first | refine blk_drewN ?_ _ | refine blk_drew ?_ | refine blk_alloc ?_ _)); refine blk_far ?_ NB242_261.out _; (with_reducible repeat (first | refine blk_drewN ?_ _ | refine blk_drew ?_ | refine blk_alloc ?_ _)); exact BK242.out) hg (Kd.R_ne HO_4.out BK242.out (by decide))); have n3_ := Aside0.mk (Kd.V_afterv (ok := (fun k_ => (P0_ k_ ∨ w.heap.size ≤ k_) ∧ k_ ≠ gb235 ∧ k_ ≠ gb242 ∧ k_ ≠ gb261)) (by (with_reducible repeat (first | apply Kd.V_alloc | apply Kd.V_drewN | apply Kd.V_drew)); exact Kd.V_mono (Kd.V_far (p := ⟨gb261, 4, none⟩) (Kd.V_far (p := ⟨gb261, 3, none⟩) (Kd.V_far (p := ⟨gb261, 2, none⟩) (Kd.V_far (p := ⟨gb261, 1, none⟩) (Kd.V_far (p := ⟨gb261, 0, none⟩) (Kd.V_mono HO254.out (fun k_ hk => (⟨hk, hk.2⟩ : _ ∧ k_ ≠ gb261))) (fun _ hk => hk.2) (.int .i64 t255)) (fun _ hk => hk.2) (.int .i64 t256)) (fun _ hk => hk.2) (.int .i64 t257)) (fun _ hk => hk.2) (.int .i64 t258)) (fun _ hk => hk.2) (.bool t259)) (fun _ hk => ⟨⟨hk.1.1.1, ⟨hk.1.1.2.2.1, ⟨hk.1.1.2.2.2, hk.1.2⟩⟩⟩, hk.1.1.2.1⟩)) hg hat); have n4_ := Aside0.mk (blk_grown (g := gb261) (o := .cells #[.int .i64 t255, .int .i64 t256, .int .i64 t257, .int .i64 t258, .bool t259] 56 (0, 0)) (by (with_reducible repeat (first | refine blk_drewN ?_ _ | refine blk_drew ?_ | refine blk_alloc ?_ _)); refine blk_put (cs := #[.int .i64 t255, .int .i64 t256, .int .i64 t257, .int .i64 t258, .bool false]) ?_ 4 _ rfl; (with_reducible repeat (first | refine blk_drewN ?_ _ | refine blk_drew ?_ | refine blk_alloc ?_ _)); refine blk_put (cs := #[.int .i64 t255, .int .i64 t256, .int .i64 t257, .int .i64 0, .bool false]) ?_ 3 _ rfl; (with_reducible repeat (first | refine blk_drewN ?_ _ | refine blk_drew ?_ | refine blk_alloc ?_ _)); refine blk_put (cs := #[.int .i64 t255, .int .i64 t256, .int .i64 0, .int .i64 0, .bool false]) ?_ 2 _ rfl; (with_reducible repeat (first | refine blk_drewN ?_ _ | refine blk_drew ?_ | refine blk_alloc ?_ _)); refine blk_put (cs := #[.int .i64 t255, .int .i64 0, .int .i64 0, .int .i64 0, .bool false]) ?_ 1 _ rfl; (with_reducible repeat (first | refine blk_drewN ?_ _ | refine blk_drew ?_ | refine blk_alloc ?_ _)); refine blk_put (cs := #[.int .i64 0, .int .i64 0, .int .i64 0, .int .i64 0, .bool false]) ?_ 0 _ rfl; (with_reducible repeat (first | refine blk_drewN ?_ _ | refine blk_drew ?_ | refine blk_alloc ?_ _)); exact BK261.out) hg (Kd.R_ne HO_4.out BK261.out (by decide))); have n5_ := Aside0.mk (hb); have n6_ := Aside0.mk (ho); clear HO_0; clear BK235; clear BK242; clear HO254; clear BK261; clear HB; clear HO_4; have HO_0 := n0_; have BK235 := n1_; have BK242 := n2_; have HO254 := n3_; have BK261 := n4_; have HB := n5_; have HO264 := n6_; clear n0_ n1_ n2_ n3_ n4_ n5_ n6_; clear ho hb hg hat))
                                  go_roundg kj8
                                  case measure => have := HK1.out; have := HJ8.out; omega
                                  case rel => exact ⟨(y250), (y262), H', ⟨by have := HK1.out; have := HJ8.out; omega⟩, ⟨by (with_reducible repeat (first | apply Kd.V_alloc | apply Kd.V_drewN | apply Kd.V_drew)); exact Kd.V_mono HO254.out (fun _ hk => ⟨hk.1.1, hk.2⟩)⟩, ⟨by (with_reducible repeat (first | apply Kd.R_alloc | apply Kd.R_drewN | apply Kd.R_drew)); exact Kd.R_mono HO264.out (fun _ hk => hk.1)⟩, ⟨by repeat (first | (with_reducible first | exact HB.out | apply below_alloc | apply pw_below_drewN | apply below_drew1 | refine below_set ?_ GE235.out | refine below_set ?_ GE242.out | refine below_set ?_ GE261.out) | exact HB.out)⟩⟩
                                · rw [if_neg c31] at H
                                  exact absurd H (by simp)
                              · replace c30 := Bool.eq_false_iff.mpr c30
                                subst c30
                                have H1 : (some (([] : List (S41)), 12)) = some (r1, r2) := by rw [if_neg (show ¬ (false = true) by decide)] at H; exact H
                                clear H
                                have H := H1
                                clear H1
                                simp only [Option.some.injEq, Prod.mk.injEq] at H
                                obtain ⟨rfl, rfl⟩ := H
                                try go_wp2
                                have n0_ := Aside0.mk (Kd.V_drew HO_0.out)
                                have n1_ := Aside0.mk (Kd.R_drew HO_4.out)
                                have n2_ := Aside0.mk (blk_drew BK235.out)
                                have n3_ := Aside0.mk (blk_drew BK242.out)
                                have n4_ := Aside0.mk (below_drew1 HB.out)
                                clear HO_0
                                clear HO_4
                                clear BK235
                                clear BK242
                                clear HB
                                have HO_0 := n0_
                                have HO_4 := n1_
                                have BK235 := n2_
                                have BK242 := n3_
                                have HB := n4_
                                clear n0_ n1_ n2_ n3_ n4_
                                have p248 : 0 ≤ (0 : Int) := (by omega)
                                have q248 : 0 < (y243.length : Int) := of_decide_eq_true (by first | (with_reducible assumption) | assumption)
                                obtain ⟨ad248, e248, hx248_0⟩ := Kd.at_int (Kd.V_reads' HO_0.out).2.2 0 p248 q248
                                cases e248
                                have qi248 : (0 < y243.length) = True := eq_true (by omega)
                                (try rw [show ((0 : Int)).toNat = 0 from rfl] at hx248_0)
                                (try rw [Addr.add_zero'] at hx248_0)
                                replace p248 := eq_true p248
                                replace q248 := eq_true q248
                                have p249 : 0 ≤ (1 : Int) := (by omega)
                                have q249 : 1 < (y243.length : Int) := of_decide_eq_true (by first | (with_reducible assumption) | assumption)
                                obtain ⟨ad249, e249, hx249_0⟩ := Kd.at_int (Kd.V_reads' HO_0.out).2.2 1 p249 q249
                                obtain rfl : ad248 = ad249 := (by injection e249)
                                (try simp only [show (1 : Int).toNat = 1 from rfl, Nat.reduceMul, Nat.reduceEqDiff, Go.Addr.add, ↓reduceIte] at hx249_0)
                                have qi249 : (1 < y243.length) = True := eq_true (by omega)
                                (try rw [show ((1 : Int)).toNat = 1 from rfl] at hx249_0)
                                replace p249 := eq_true p249
                                replace q249 := eq_true q249
                                refine start_ (n := 12) (S := fun w' => w'.cell? ad248 = some (.int .u8 (rd y243 0)) ∧ w'.cell? ⟨ad248.block, ad248.off + 1, none⟩ = some (.int .u8 (rd y243 1))) (ds := []) #[false, false, false, false, false, false, false, false, false, false, false, false] (by kernel_rfl) rfl rfl ⟨hx248_0, hx249_0⟩ (fun hHeld => ?_); refine with_tabW code_Decode.tab11 code_Decode.bits11 (fun HT_ HW_ => ?_)
                                generalize wc.drew = w47 at HO_0 HO_4 BK235 BK242 HB hx248_0 hx249_0 hHeld ⊢
                                refine pure_ (i := 0) (N := some 36) (v := ?_) (a' := ?_) #[true, false, false, false, false, false, false, false, false, false, false, false] rfl rfl (any_of HT_.out (by kernel_rfl)) (fun _ _ _ h => h) (Or.inl ⟨by rfl, ?_⟩) ?_ ?_
                                rotate_left
                                · intro w'
                                  go_simp
                                  with_reducible rfl
                                rotate_left
                                · simp only [Act.put, List.setIfInBounds_toArray, List.set_cons_zero, List.set_cons_succ, i64_w, i32_w]
                                  rfl
                                refine pure_ (i := 1) (N := some 37) (v := ?_) (a' := ?_) #[true, true, false, false, false, false, false, false, false, false, false, false] rfl rfl (any_of HT_.out (by kernel_rfl)) (fun _ _ _ h => h) (Or.inl ⟨by rfl, ?_⟩) ?_ ?_
                                rotate_left
                                · intro w'
                                  go_simp
                                  with_reducible rfl
                                rotate_left
                                · simp only [Act.put, List.setIfInBounds_toArray, List.set_cons_zero, List.set_cons_succ, i64_w, i32_w]
                                  rfl
                                refine pure_ (i := 5) (N := some 41) (v := ?_) (a' := ?_) #[true, true, false, false, false, true, false, false, false, false, false, false] rfl rfl (any_of HT_.out (by kernel_rfl)) (fun _ _ _ h => h) (Or.inl ⟨by rfl, ?_⟩) ?_ ?_
                                rotate_left
                                · intro w'
                                  go_simp
                                  with_reducible rfl
                                rotate_left
                                · simp only [Act.put, List.setIfInBounds_toArray, List.set_cons_zero, List.set_cons_succ, i64_w, i32_w]
                                  rfl
                                refine pure_ (i := 6) (N := some 42) (v := ?_) (a' := ?_) #[true, true, false, false, false, true, true, false, false, false, false, false] rfl rfl (any_of HT_.out (by kernel_rfl)) (fun _ _ _ h => h) (Or.inl ⟨by rfl, ?_⟩) ?_ ?_
                                rotate_left
                                · intro w'
                                  go_simp
                                  with_reducible rfl
                                rotate_left
                                · simp only [Act.put, List.setIfInBounds_toArray, List.set_cons_zero, List.set_cons_succ, i64_w, i32_w]
                                  rfl
                                refine take_ (i := 2) (N := some 38) (v := ?_) (a' := ?_) #[true, true, true, false, false, true, true, false, false, false, false, false] rfl rfl (take_ofW HT_.out HW_.out (by kernel_rfl)) (fun _ _ _ h => h) (Or.inl ⟨by rfl, ?_⟩) hHeld ?_ ?_
                                rotate_left
                                · rintro w' ⟨s0, s1⟩
                                  go_simp
                                  with_reducible rfl
                                rotate_left
                                · simp only [Act.put, List.setIfInBounds_toArray, List.set_cons_zero, List.set_cons_succ, i64_w, i32_w]
                                  rfl
                                refine pure_ (i := 3) (N := some 39) (v := ?_) (a' := ?_) #[true, true, true, true, false, true, true, false, false, false, false, false] rfl rfl (any_of HT_.out (by kernel_rfl)) (fun _ _ _ h => h) (Or.inl ⟨by rfl, ?_⟩) ?_ ?_
                                rotate_left
                                · intro w'
                                  go_simp
                                  with_reducible rfl
                                rotate_left
                                · simp only [Act.put, List.setIfInBounds_toArray, List.set_cons_zero, List.set_cons_succ, i64_w, i32_w]
                                  rfl
                                refine pure_ (i := 4) (N := some 40) (v := ?_) (a' := ?_) #[true, true, true, true, true, true, true, false, false, false, false, false] rfl rfl (any_of HT_.out (by kernel_rfl)) (fun _ _ _ h => h) (Or.inl ⟨by rfl, ?_⟩) ?_ ?_
                                rotate_left
                                · intro w'
                                  go_simp
                                  with_reducible rfl
                                rotate_left
                                · simp only [Act.put, List.setIfInBounds_toArray, List.set_cons_zero, List.set_cons_succ, i64_w, i32_w]
                                  rfl
                                refine take_ (i := 7) (N := some 43) (v := ?_) (a' := ?_) #[true, true, true, true, true, true, true, true, false, false, false, false] rfl rfl (take_ofW HT_.out HW_.out (by kernel_rfl)) (fun _ _ _ h => h) (Or.inl ⟨by rfl, ?_⟩) hHeld ?_ ?_
                                rotate_left
                                · rintro w' ⟨s0, s1⟩
                                  go_simp
                                  with_reducible rfl
                                rotate_left
                                · simp only [Act.put, List.setIfInBounds_toArray, List.set_cons_zero, List.set_cons_succ, i64_w, i32_w]
                                  rfl
                                refine pure_ (i := 8) (N := some 44) (v := ?_) (a' := ?_) #[true, true, true, true, true, true, true, true, true, false, false, false] rfl rfl (any_of HT_.out (by kernel_rfl)) (fun _ _ _ h => h) (Or.inl ⟨by rfl, ?_⟩) ?_ ?_
                                rotate_left
                                · intro w'
                                  go_simp
                                  with_reducible rfl
                                rotate_left
                                · simp only [Act.put, List.setIfInBounds_toArray, List.set_cons_zero, List.set_cons_succ, i64_w, i32_w]
                                  rfl
                                refine pure_ (i := 9) (N := some 45) (v := ?_) (a' := ?_) #[true, true, true, true, true, true, true, true, true, true, false, false] rfl rfl (any_of HT_.out (by kernel_rfl)) (fun _ _ _ h => h) (Or.inl ⟨by rfl, ?_⟩) ?_ ?_
                                rotate_left
                                · intro w'
                                  go_simp
                                  with_reducible rfl
                                rotate_left
                                · simp only [Act.put, List.setIfInBounds_toArray, List.set_cons_zero, List.set_cons_succ, i64_w, i32_w]
                                  rfl
                                refine pure_ (i := 10) (N := some 46) (v := ?_) (a' := ?_) #[true, true, true, true, true, true, true, true, true, true, true, false] rfl rfl (any_of HT_.out (by kernel_rfl)) (fun _ _ _ h => h) (Or.inl ⟨by rfl, ?_⟩) ?_ ?_
                                rotate_left
                                · intro w'
                                  go_simp
                                  with_reducible rfl
                                rotate_left
                                · simp only [Act.put, List.setIfInBounds_toArray, List.set_cons_zero, List.set_cons_succ, i64_w, i32_w]
                                  rfl
                                refine one_ (i := 11) (N := none) #[true, true, true, true, true, true, true, true, true, true, true, true] rfl rfl (one_of HT_.out (by kernel_rfl)) (by decide) (fun K hK => ?_)
                                have hs48 : w47.cell? ⟨gb235, 1, none⟩ = some (.int .i64 0) := (blk_cell BK235.out 1).trans rfl
                                have hfs48 := blk_frozen BK235.out 1
                                have hns48_1 := NB242_235.out
                                have hms48_1 := NB235_242.out
                                refine skip_ (w1 := ?_) (by rfl) rfl ?_ ?_
                                rotate_left
                                · go_simp
                                  rfl
                                refine hK.out _ _ ⟨((cell_far (p := ⟨gb235, _, none⟩) (by first | exact Kd.own_blk (Kd.V_away HO_0.out (fun _ hk => hk.2.2.1)) | (rw [add_block]; exact Kd.own_blk (Kd.V_away HO_0.out (fun _ hk => hk.2.2.1))) | (show (Addr.add _ _).block ≠ _; rw [add_block]; exact Kd.own_blk (Kd.V_away HO_0.out (fun _ hk => hk.2.2.1))) | (dsimp only; exact Kd.own_blk (Kd.V_away HO_0.out (fun _ hk => hk.2.2.1)))) _).trans (hHeld.1)), ((cell_far (p := ⟨gb235, _, none⟩) (by first | exact Kd.own_blk (Kd.V_away HO_0.out (fun _ hk => hk.2.2.1)) | (rw [add_block]; exact Kd.own_blk (Kd.V_away HO_0.out (fun _ hk => hk.2.2.1))) | (show (Addr.add _ _).block ≠ _; rw [add_block]; exact Kd.own_blk (Kd.V_away HO_0.out (fun _ hk => hk.2.2.1))) | (dsimp only; exact Kd.own_blk (Kd.V_away HO_0.out (fun _ hk => hk.2.2.1)))) _).trans (hHeld.2))⟩ (fun hHeld => ?_)
                                clear hK K
                                refine done_ (done_of HT_.out (by kernel_rfl)) ?_
                                have n0_ : Aside0 (Kd.V (Kd.int .u8) 5 (w47.setCell ⟨gb235, 1, none⟩ (.int .i64 (Go.bits .or .i64 (wrap64 ((wrap64 (rd y243 0)) * 256)) (wrap64 (rd y243 1))))) w.heap.size (fun k_ => (P0_ k_ ∨ w.heap.size ≤ k_) ∧ some k_ ≠ (.slice Ao11 x4_1.length co11 : Value).ownBlock ∧ k_ ≠ gb235 ∧ k_ ≠ gb242) (.slice (some ad248) y243.length c19) y243) := ⟨by (with_reducible repeat (first | apply Kd.V_alloc | apply Kd.V_drewN | apply Kd.V_drew)); exact Kd.V_mono (Kd.V_far (p := ⟨gb235, 1, none⟩) (Kd.V_mono HO_0.out (fun k_ hk => (⟨hk, hk.2.2.1⟩ : _ ∧ k_ ≠ gb235))) (fun _ hk => hk.2) (.int .i64 (Go.bits .or .i64 (wrap64 ((wrap64 (rd y243 0)) * 256)) (wrap64 (rd y243 1))))) (fun _ hk => ⟨hk.1.1, ⟨hk.1.2.1, ⟨hk.1.2.2.1, hk.1.2.2.2⟩⟩⟩)⟩
                                have n1_ : Aside0 (Kd.R k41 41 (w47.setCell ⟨gb235, 1, none⟩ (.int .i64 (Go.bits .or .i64 (wrap64 ((wrap64 (rd y243 0)) * 256)) (wrap64 (rd y243 1))))) w.heap.size (fun k_ => (w.heap.size ≤ k_) ∧ k_ ≠ gb235) (.slice Ao11 x4_1.length co11) x4_1) := ⟨by (with_reducible repeat (first | apply Kd.R_alloc | apply Kd.R_drewN | apply Kd.R_drew)); exact Kd.R_mono (Kd.R_far (p := ⟨gb235, 1, none⟩) (Kd.R_mono HO_4.out (fun k_ hk => (⟨hk, hk.2⟩ : _ ∧ k_ ≠ gb235))) (fun _ hk => hk.2) (.int .i64 (Go.bits .or .i64 (wrap64 ((wrap64 (rd y243 0)) * 256)) (wrap64 (rd y243 1))))) (fun _ hk => ⟨hk.1.1, hk.1.2⟩)⟩
                                have n2_ : Aside0 ((w47.setCell ⟨gb235, 1, none⟩ (.int .i64 (Go.bits .or .i64 (wrap64 ((wrap64 (rd y243 0)) * 256)) (wrap64 (rd y243 1))))).heap[gb235]? = some (.cells #[.int .i64 (wrap64 (rd x0_1 0)), .int .i64 (Go.bits .or .i64 (wrap64 ((wrap64 (rd y243 0)) * 256)) (wrap64 (rd y243 1)))] 41 (0, 0))) := ⟨by (with_reducible repeat (first | refine blk_drewN ?_ _ | refine blk_drew ?_ | refine blk_alloc ?_ _)); refine blk_put (cs := #[.int .i64 (wrap64 (rd x0_1 0)), .int .i64 0]) ?_ 1 _ rfl; (with_reducible repeat (first | refine blk_drewN ?_ _ | refine blk_drew ?_ | refine blk_alloc ?_ _)); exact BK235.out⟩
                                have n3_ : Aside0 ((w47.setCell ⟨gb235, 1, none⟩ (.int .i64 (Go.bits .or .i64 (wrap64 ((wrap64 (rd y243 0)) * 256)) (wrap64 (rd y243 1))))).heap[gb242]? = some (.cells #[.int .i64 t236, .int .i64 t237, .int .i64 t238, .int .i64 t239, .bool t240] 56 (0, 0))) := ⟨by (with_reducible repeat (first | refine blk_drewN ?_ _ | refine blk_drew ?_ | refine blk_alloc ?_ _)); refine blk_far ?_ NB242_235.out _; (with_reducible repeat (first | refine blk_drewN ?_ _ | refine blk_drew ?_ | refine blk_alloc ?_ _)); exact BK242.out⟩
                                have n4_ : Aside0 (Below w.heap.size w (w47.setCell ⟨gb235, 1, none⟩ (.int .i64 (Go.bits .or .i64 (wrap64 ((wrap64 (rd y243 0)) * 256)) (wrap64 (rd y243 1)))))) := ⟨by repeat (first | (with_reducible first | exact HB.out | apply below_alloc | apply pw_below_drewN | apply below_drew1 | refine below_set ?_ GE235.out | refine below_set ?_ GE242.out) | exact HB.out)⟩
                                (try clear HO_0)
                                (try clear HO_4)
                                (try clear BK235)
                                (try clear BK242)
                                (try clear HB)
                                generalize (w47.setCell ⟨gb235, 1, none⟩ (.int .i64 (Go.bits .or .i64 (wrap64 ((wrap64 (rd y243 0)) * 256)) (wrap64 (rd y243 1))))) = w49 at n0_ n1_ n2_ n3_ n4_ ⊢
                                have HO_0 := n0_
                                have HO_4 := n1_
                                have BK235 := n2_
                                have BK242 := n3_
                                have HB := n4_
                                clear n0_ n1_ n2_ n3_ n4_
                                have hnb50 := NB235_242.out
                                have hnc50 := NB242_235.out
                                have hcz51_0 : w49.cell? ⟨gb235, 0, none⟩ = some (.int .i64 (wrap64 (rd x0_1 0))) := (blk_cell BK235.out 0).trans rfl
                                have hcz51_1 : w49.cell? ⟨gb235, 1, none⟩ = some (.int .i64 (Go.bits .or .i64 (wrap64 ((wrap64 (rd y243 0)) * 256)) (wrap64 (rd y243 1)))) := (blk_cell BK235.out 1).trans rfl
                                have hfz51_0 := blk_frozen BK235.out 0
                                have hfz51_1 := blk_frozen BK235.out 1
                                try go_wp2_with (first | ((with_reducible refine gate_store (t := 3) (p := 54) rfl ?_); refine store_event (t := 3) (p := 54) (v := ?vo_w52) (w1 := (w49.setCell ⟨gb235, 1, none⟩ (.int .i64 (wrap64 (IntKind.i16.wrap (Go.bits .or .i64 (wrap64 ((wrap64 (rd y243 0)) * 256)) (wrap64 (rd y243 1)))))))) ?hg ?ho ?hn ?hr ?_; (case ho => rfl); (case hg => rfl); (case hn => rfl); (case hr => first | (go_simp; done) | (go_simp; rfl)); intro w52 hw; have n0_ : Aside0 (Kd.V (Kd.int .u8) 5 w52 w.heap.size (fun k_ => (P0_ k_ ∨ w.heap.size ≤ k_) ∧ some k_ ≠ (.slice Ao11 x4_1.length co11 : Value).ownBlock ∧ k_ ≠ gb235 ∧ k_ ≠ gb242) (.slice (some ad248) y243.length c19) y243) := ⟨(by rw [hw]; exact (by (with_reducible repeat (first | apply Kd.V_alloc | apply Kd.V_drewN | apply Kd.V_drew)); exact Kd.V_mono (Kd.V_far (p := ⟨gb235, 1, none⟩) (Kd.V_mono HO_0.out (fun k_ hk => (⟨hk, hk.2.2.1⟩ : _ ∧ k_ ≠ gb235))) (fun _ hk => hk.2) (.int .i64 (wrap64 (IntKind.i16.wrap (Go.bits .or .i64 (wrap64 ((wrap64 (rd y243 0)) * 256)) (wrap64 (rd y243 1))))))) (fun _ hk => ⟨hk.1.1, ⟨hk.1.2.1, ⟨hk.1.2.2.1, hk.1.2.2.2⟩⟩⟩)))⟩; have n1_ : Aside0 (Kd.R k41 41 w52 w.heap.size (fun k_ => (w.heap.size ≤ k_) ∧ k_ ≠ gb235) (.slice Ao11 x4_1.length co11) x4_1) := ⟨(by rw [hw]; exact (by (with_reducible repeat (first | apply Kd.R_alloc | apply Kd.R_drewN | apply Kd.R_drew)); exact Kd.R_mono (Kd.R_far (p := ⟨gb235, 1, none⟩) (Kd.R_mono HO_4.out (fun k_ hk => (⟨hk, hk.2⟩ : _ ∧ k_ ≠ gb235))) (fun _ hk => hk.2) (.int .i64 (wrap64 (IntKind.i16.wrap (Go.bits .or .i64 (wrap64 ((wrap64 (rd y243 0)) * 256)) (wrap64 (rd y243 1))))))) (fun _ hk => ⟨hk.1.1, hk.1.2⟩)))⟩; have n2_ : Aside0 (w52.heap[gb235]? = some (.cells #[.int .i64 (wrap64 (rd x0_1 0)), .int .i64 (wrap64 (IntKind.i16.wrap (Go.bits .or .i64 (wrap64 ((wrap64 (rd y243 0)) * 256)) (wrap64 (rd y243 1)))))] 41 (0, 0))) := ⟨(by rw [hw]; exact (by (with_reducible repeat (first | refine blk_drewN ?_ _ | refine blk_drew ?_ | refine blk_alloc ?_ _)); refine blk_put (cs := #[.int .i64 (wrap64 (rd x0_1 0)), .int .i64 (Go.bits .or .i64 (wrap64 ((wrap64 (rd y243 0)) * 256)) (wrap64 (rd y243 1)))]) ?_ 1 _ rfl; (with_reducible repeat (first | refine blk_drewN ?_ _ | refine blk_drew ?_ | refine blk_alloc ?_ _)); exact BK235.out))⟩; have n3_ : Aside0 (w52.heap[gb242]? = some (.cells #[.int .i64 t236, .int .i64 t237, .int .i64 t238, .int .i64 t239, .bool t240] 56 (0, 0))) := ⟨(by rw [hw]; exact (by (with_reducible repeat (first | refine blk_drewN ?_ _ | refine blk_drew ?_ | refine blk_alloc ?_ _)); refine blk_far ?_ NB242_235.out _; (with_reducible repeat (first | refine blk_drewN ?_ _ | refine blk_drew ?_ | refine blk_alloc ?_ _)); exact BK242.out))⟩; have n4_ : Aside0 (Below w.heap.size w w52) := ⟨(by rw [hw]; exact (by repeat (first | (with_reducible first | exact HB.out | apply below_alloc | apply pw_below_drewN | apply below_drew1 | refine below_set ?_ GE235.out | refine below_set ?_ GE242.out) | exact HB.out)))⟩; clear hw; clear HO_0; clear HO_4; clear BK235; clear BK242; clear HB; have HO_0 := n0_; have HO_4 := n1_; have BK235 := n2_; have BK242 := n3_; have HB := n4_; clear n0_ n1_ n2_ n3_ n4_; have q53 : (2 : Int) ≤ ((y243.length : Int) : Int) := of_decide_eq_true (by first | (with_reducible assumption) | assumption); obtain ⟨i053, hi053, _, hsz53, _⟩ := info_parts info5; have hroom53 : y243.length ≤ c19 := (Kd.V_reads' HO_0.out).2.1; have hC53 : Kd.F (Kd.int .u8) _ _ (some ad248) y243.length y243 := (Kd.V_at (base := w.heap.size) HO_0.out).2.2; have hcut53 := cut_from (P := Try.prog) 43 5 .i64 Try.underlying43 hi053 1 hsz53 (some ad248) y243.length c19 2 (by omega) q53; have hr53 := Kd.F_cut (m := (2 : Int).toNat) (c := c19) hC53 (by omega) hroom53; obtain ⟨A53, hA53⟩ : ∃ A1, A1 = (if c19 = (2 : Int).toNat then (some ad248) else ((some ad248) : Option Addr).map (·.add ((2 : Int).toNat * 1))) := ⟨_, rfl⟩; obtain ⟨c53, hc53⟩ : ∃ c1, c1 = c19 - (2 : Int).toNat := ⟨_, rfl⟩; have hy53 : y250.length = y243.length - (2 : Int).toNat := (by rw [Ny250.out, List.length_drop] <;> omega); rw [show (y243).drop (2 : Int).toNat = y250 from Ny250.out.symm] at hr53; replace hr53 : Kd.F (Kd.int .u8) _ _ A53 y250.length y250 := (by rw [hA53]; exact hr53); rw [← hy53, ← hA53, ← hc53] at hcut53; have HO254 := Aside0.mk (show Kd.V (Kd.int .u8) 5 _ w.heap.size _ (.slice A53 y250.length c53) y250 from Kd.V_mk (by rw [hy53, hc53]; exact Nat.sub_le_sub_right hroom53 _) hr53); have HC254 := Aside0.mk (show y250.length ≤ c53 from by rw [hy53, hc53]; exact Nat.sub_le_sub_right hroom53 _); clear hr53 hC53 hroom53 hi053 hsz53 hc53; have KY53 := Aside0.mk hy53; have KA53 := Aside0.mk hA53; clear hy53 hA53; replace q53 := eq_true q53; have hcz54_0 : w52.cell? ⟨gb235, 0, none⟩ = some (.int .i64 (wrap64 (rd x0_1 0))) := (blk_cell BK235.out 0).trans rfl; have hcz54_1 : w52.cell? ⟨gb235, 1, none⟩ = some (.int .i64 (wrap64 (IntKind.i16.wrap (Go.bits .or .i64 (wrap64 ((wrap64 (rd y243 0)) * 256)) (wrap64 (rd y243 1)))))) := (blk_cell BK235.out 1).trans rfl; have hfz54_0 := blk_frozen BK235.out 0; have hfz54_1 := blk_frozen BK235.out 1) | ((with_reducible refine gate_callee (f := 25) rfl ?_); refine goesL_ (some 59) rfl rfl Try.func25 (by kernel_rfl) rfl #[.agg #[.int .i64 (wrap64 (rd x0_1 0)), .int .i64 (wrap64 (IntKind.i16.wrap (Go.bits .or .i64 (wrap64 ((wrap64 (rd y243 0)) * 256)) (wrap64 (rd y243 1)))))]] rfl (by (try simp only [List.map_toArray, List.map_cons, List.map_nil]); first | done | rfl | (simp only [List.length_drop, List.length_take]; rfl)) ?_; (with_reducible refine (code_may.calls (wrap64 (rd x0_1 0)) (wrap64 (IntKind.i16.wrap (Go.bits .or .i64 (wrap64 ((wrap64 (rd y243 0)) * 256)) (wrap64 (rd y243 1))))) t255 t256 t257 t258 t259 false _ A29.out).mono ?_); rintro e w55 ⟨rfl, hb⟩; refine ⟨_, rfl, ?_⟩; have n0_ := Aside0.mk (Kd.V_below (by (with_reducible repeat (first | apply Kd.V_alloc | apply Kd.V_drewN | apply Kd.V_drew)); exact HO_0.out) hb); have n1_ := Aside0.mk (Kd.R_below (by (with_reducible repeat (first | apply Kd.R_alloc | apply Kd.R_drewN | apply Kd.R_drew)); exact HO_4.out) hb); have n2_ := Aside0.mk (Kd.V_below (by (with_reducible repeat (first | apply Kd.V_alloc | apply Kd.V_drewN | apply Kd.V_drew)); exact HO254.out) hb); have n3_ := Aside0.mk (blk_below (g := gb235) (o := .cells #[.int .i64 (wrap64 (rd x0_1 0)), .int .i64 (wrap64 (IntKind.i16.wrap (Go.bits .or .i64 (wrap64 ((wrap64 (rd y243 0)) * 256)) (wrap64 (rd y243 1)))))] 41 (0, 0)) (by (with_reducible repeat (first | refine blk_drewN ?_ _ | refine blk_drew ?_ | refine blk_alloc ?_ _)); exact BK235.out) hb); have n4_ := Aside0.mk (blk_below (g := gb242) (o := .cells #[.int .i64 t236, .int .i64 t237, .int .i64 t238, .int .i64 t239, .bool t240] 56 (0, 0)) (by (with_reducible repeat (first | refine blk_drewN ?_ _ | refine blk_drew ?_ | refine blk_alloc ?_ _)); exact BK242.out) hb); have n5_ := Aside0.mk (below_step (by repeat (first | (with_reducible first | exact HB.out | apply below_alloc | apply pw_below_drewN | apply below_drew1 | refine below_set ?_ GE235.out | refine below_set ?_ GE242.out) | exact HB.out)) hb); clear HO_0; clear HO_4; clear HO254; clear BK235; clear BK242; clear HB; have HO_0 := n0_; have HO_4 := n1_; have HO254 := n2_; have BK235 := n3_; have BK242 := n4_; have HB := n5_; clear n0_ n1_ n2_ n3_ n4_ n5_; (try clear hb); (try clear hb2); (try clear hk); (try clear hi)) | ((with_reducible refine gate_dst (N := 8) rfl ?_); refine box_event ?hg (N := 8) ?hd (cs := #[.int .i64 0, .int .i64 0, .int .i64 0, .int .i64 0, .bool false]) (t := 56) ?hr ?_; (case hd => rfl); (case hg => rfl); (case hr => first | (go_simp; done) | (go_simp; rfl)); intro gb261 hg w56 hbox hb; have n0_ := Aside0.mk (Kd.V_below (Kd.V_elderB (by (with_reducible repeat (first | apply Kd.V_alloc | apply Kd.V_drewN | apply Kd.V_drew)); exact HO_0.out) gb261 (Nat.le_of_eq hg.symm)) hb); have n1_ := Aside0.mk (Kd.R_below (by (with_reducible repeat (first | apply Kd.R_alloc | apply Kd.R_drewN | apply Kd.R_drew)); exact HO_4.out) hb); have n2_ := Aside0.mk (Kd.V_below (Kd.V_elderB (by (with_reducible repeat (first | apply Kd.V_alloc | apply Kd.V_drewN | apply Kd.V_drew)); exact HO254.out) gb261 (Nat.le_of_eq hg.symm)) hb); have n3_ := Aside0.mk (blk_below (g := gb235) (o := .cells #[.int .i64 (wrap64 (rd x0_1 0)), .int .i64 (wrap64 (IntKind.i16.wrap (Go.bits .or .i64 (wrap64 ((wrap64 (rd y243 0)) * 256)) (wrap64 (rd y243 1)))))] 41 (0, 0)) (by (with_reducible repeat (first | refine blk_drewN ?_ _ | refine blk_drew ?_ | refine blk_alloc ?_ _)); exact BK235.out) hb); have n4_ := Aside0.mk (blk_below (g := gb242) (o := .cells #[.int .i64 t236, .int .i64 t237, .int .i64 t238, .int .i64 t239, .bool t240] 56 (0, 0)) (by (with_reducible repeat (first | refine blk_drewN ?_ _ | refine blk_drew ?_ | refine blk_alloc ?_ _)); exact BK242.out) hb); have n5_ := Aside0.mk (below_step (by repeat (first | (with_reducible first | exact HB.out | apply below_alloc | apply pw_below_drewN | apply below_drew1 | refine below_set ?_ GE235.out | refine below_set ?_ GE242.out) | exact HB.out)) hb); have n6_ := Aside0.mk (hbox); have n7_ := Aside0.mk ((by rw [hg]; exact (below_size (by repeat (first | (with_reducible first | exact HB.out | apply below_alloc | apply pw_below_drewN | apply below_drew1 | refine below_set ?_ GE235.out | refine below_set ?_ GE242.out) | exact HB.out))) : w.heap.size ≤ gb261)); have n8_ := Aside0.mk ((by rw [hg]; exact (below_size (by repeat (first | (with_reducible first | exact HB.out | apply below_alloc | apply pw_below_drewN | apply below_drew1 | refine below_set ?_ GE235.out | refine below_set ?_ GE242.out) | exact HB.out))) : w.heap.size ≤ gb261)); have n9_ := Aside0.mk ((by rw [hg]; exact Nat.ne_of_lt (blk_lt (g := gb235) (o := .cells #[.int .i64 (wrap64 (rd x0_1 0)), .int .i64 (wrap64 (IntKind.i16.wrap (Go.bits .or .i64 (wrap64 ((wrap64 (rd y243 0)) * 256)) (wrap64 (rd y243 1)))))] 41 (0, 0)) (by (with_reducible repeat (first | refine blk_drewN ?_ _ | refine blk_drew ?_ | refine blk_alloc ?_ _)); exact BK235.out)) : gb235 ≠ gb261)); have n10_ := Aside0.mk ((by rw [hg]; exact Nat.ne_of_gt (blk_lt (g := gb235) (o := .cells #[.int .i64 (wrap64 (rd x0_1 0)), .int .i64 (wrap64 (IntKind.i16.wrap (Go.bits .or .i64 (wrap64 ((wrap64 (rd y243 0)) * 256)) (wrap64 (rd y243 1)))))] 41 (0, 0)) (by (with_reducible repeat (first | refine blk_drewN ?_ _ | refine blk_drew ?_ | refine blk_alloc ?_ _)); exact BK235.out)) : gb261 ≠ gb235)); have n11_ := Aside0.mk ((by rw [hg]; exact Nat.ne_of_lt (blk_lt (g := gb242) (o := .cells #[.int .i64 t236, .int .i64 t237, .int .i64 t238, .int .i64 t239, .bool t240] 56 (0, 0)) (by (with_reducible repeat (first | refine blk_drewN ?_ _ | refine blk_drew ?_ | refine blk_alloc ?_ _)); exact BK242.out)) : gb242 ≠ gb261)); have n12_ := Aside0.mk ((by rw [hg]; exact Nat.ne_of_gt (blk_lt (g := gb242) (o := .cells #[.int .i64 t236, .int .i64 t237, .int .i64 t238, .int .i64 t239, .bool t240] 56 (0, 0)) (by (with_reducible repeat (first | refine blk_drewN ?_ _ | refine blk_drew ?_ | refine blk_alloc ?_ _)); exact BK242.out)) : gb261 ≠ gb242)); clear HO_0; clear HO_4; clear HO254; clear BK235; clear BK242; clear HB; have HO_0 := n0_; have HO_4 := n1_; have HO254 := n2_; have BK235 := n3_; have BK242 := n4_; have HB := n5_; have BK261 := n6_; have GW261 := n7_; have GE261 := n8_; have NB235_261 := n9_; have NB261_235 := n10_; have NB242_261 := n11_; have NB261_242 := n12_; clear n0_ n1_ n2_ n3_ n4_ n5_ n6_ n7_ n8_ n9_ n10_ n11_ n12_; clear hb hbox hg; have hnb57 := NB261_235.out; have hnc57 := NB235_261.out; have hnb58 := NB261_242.out; have hnc58 := NB242_261.out; have hcz59_0 : w56.cell? ⟨gb261, 0, none⟩ = some (.int .i64 0) := (blk_cell BK261.out 0).trans rfl; have hcz59_1 : w56.cell? ⟨gb261, 1, none⟩ = some (.int .i64 0) := (blk_cell BK261.out 1).trans rfl; have hcz59_2 : w56.cell? ⟨gb261, 2, none⟩ = some (.int .i64 0) := (blk_cell BK261.out 2).trans rfl; have hcz59_3 : w56.cell? ⟨gb261, 3, none⟩ = some (.int .i64 0) := (blk_cell BK261.out 3).trans rfl; have hcz59_4 : w56.cell? ⟨gb261, 4, none⟩ = some (.bool false) := (blk_cell BK261.out 4).trans rfl; have hfz59_0 := blk_frozen BK261.out 0; have hfz59_1 := blk_frozen BK261.out 1; have hfz59_2 := blk_frozen BK261.out 2; have hfz59_3 := blk_frozen BK261.out 3; have hfz59_4 := blk_frozen BK261.out 4))
                                go_ret2
                                exact ⟨_, by first | rfl | (simp [errW_none, errW_some] <;> rfl) | (simp [*, errW_none, errW_some] <;> rfl), by first | exact Kd.R_nil _ _ _ _ _ | exact Kd.N_nil _ _ _ _ _ | exact Kd.V_nil _ _ _ _ _ | exact Kd.Q_nil _ _ _ _ _ | exact Kd.S_nil _ _ _ _ _, by repeat (first | (with_reducible first | exact HB.out | apply below_alloc | apply pw_below_drewN | apply below_drew1 | refine below_set ?_ GE235.out | refine below_set ?_ GE242.out | refine below_set ?_ GE261.out) | exact HB.out)⟩
                            · rw [if_neg c28] at H
                              exact absurd H (by simp)
                          · rw [if_neg c27] at H
                            have c27b0 : ((wrap64 (rd x0_1 0)) == 1) = false := beq_eq_false_iff_ne.mpr c27
                            have c27b1 : ((wrap64 (rd x0_1 0)) != 1) = true := bne_iff_ne.mpr c27
                            by_cases c60 : 2 ≤ (y243.length : Int)
                            · rw [if_pos c60] at H
                              have c60b0 := eq_true c60
                              have c60b1 : decide (2 ≤ (y243.length : Int)) = true := decide_eq_true c60
                              clear c60
                              obtain ⟨y265, hy265⟩ : ∃ y_ : List Int, y_ = (y243.drop 2) := ⟨_, rfl⟩
                              replace H : ((code_may.f (wrap64 (rd x0_1 0)) (Go.bits .or .i64 (wrap64 ((wrap64 (rd y243 0)) * 256)) (wrap64 (rd y243 1)))).bind fun bt270 => (if bt270.2.2.2.2.2 = true then (if x4_1.length < 8796093022208 then (code_Decode.l0 kj8 y265 (x4_1 ++ [(⟨(wrap64 (rd x0_1 0)), Go.bits .or .i64 (wrap64 ((wrap64 (rd y243 0)) * 256)) (wrap64 (rd y243 1))⟩ : S41)])) else (none)) else (some (([] : List (S41)), 12)))) = some (r1, r2) := by first | (rw [hy265]; with_reducible exact H) | (have H2_ := (Option.bind_some _ _).symm.trans H; rw [hy265]; with_reducible exact H2_) | (have H2_ := (Option.bind_some _ _).symm.trans H; with_reducible exact H2_) | with_reducible exact H | (rw [hy265]; exact H) | exact H
                              have Ny265 := Aside0.mk hy265
                              clear hy265
                              replace H := Option.bind_eq_some_iff.mp H
                              obtain ⟨⟨t270, t271, t272, t273, t274, t275⟩, A610, H⟩ := H
                              replace H : (if t275 = true then (if x4_1.length < 8796093022208 then (code_Decode.l0 kj8 y265 (x4_1 ++ [(⟨(wrap64 (rd x0_1 0)), Go.bits .or .i64 (wrap64 ((wrap64 (rd y243 0)) * 256)) (wrap64 (rd y243 1))⟩ : S41)])) else (none)) else (some (([] : List (S41)), 12))) = some (r1, r2) := H
                              have A61 := Aside0.mk A610
                              clear A610
                              by_cases c62 : t275 = true
                              · subst c62
                                have H1 : (if x4_1.length < 8796093022208 then (code_Decode.l0 kj8 y265 (x4_1 ++ [(⟨(wrap64 (rd x0_1 0)), Go.bits .or .i64 (wrap64 ((wrap64 (rd y243 0)) * 256)) (wrap64 (rd y243 1))⟩ : S41)])) else (none)) = some (r1, r2) := by rw [if_pos rfl] at H; exact H
                                clear H
                                have H := H1
                                clear H1
                                by_cases c63 : x4_1.length < 8796093022208
                                · rw [if_pos c63] at H
                                  have LMc63 := Aside0.mk c63
                                  clear c63
                                  obtain ⟨y277, hy277⟩ : ∃ y_ : List (S41), y_ = (x4_1 ++ [(⟨(wrap64 (rd x0_1 0)), Go.bits .or .i64 (wrap64 ((wrap64 (rd y243 0)) * 256)) (wrap64 (rd y243 1))⟩ : S41)]) := ⟨_, rfl⟩
                                  replace H : (code_Decode.l0 kj8 y265 y277) = some (r1, r2) := by first | (rw [hy277]; with_reducible exact H) | (have H2_ := (Option.bind_some _ _).symm.trans H; rw [hy277]; with_reducible exact H2_) | (have H2_ := (Option.bind_some _ _).symm.trans H; with_reducible exact H2_) | with_reducible exact H | (rw [hy277]; exact H) | exact H
                                  have Ny277 := Aside0.mk hy277
                                  clear hy277
                                  have H' := Aside0.mk H
                                  clear H
                                  try go_wp2
                                  have n0_ := Aside0.mk (Kd.V_drew HO_0.out)
                                  have n1_ := Aside0.mk (Kd.R_drew HO_4.out)
                                  have n2_ := Aside0.mk (blk_drew BK235.out)
                                  have n3_ := Aside0.mk (blk_drew BK242.out)
                                  have n4_ := Aside0.mk (below_drew1 HB.out)
                                  clear HO_0
                                  clear HO_4
                                  clear BK235
                                  clear BK242
                                  clear HB
                                  have HO_0 := n0_
                                  have HO_4 := n1_
                                  have BK235 := n2_
                                  have BK242 := n3_
                                  have HB := n4_
                                  clear n0_ n1_ n2_ n3_ n4_
                                  have p248 : 0 ≤ (0 : Int) := (by omega)
                                  have q248 : 0 < (y243.length : Int) := of_decide_eq_true (by first | (with_reducible assumption) | assumption)
                                  obtain ⟨ad248, e248, hx248_0⟩ := Kd.at_int (Kd.V_reads' HO_0.out).2.2 0 p248 q248
                                  cases e248
                                  have qi248 : (0 < y243.length) = True := eq_true (by omega)
                                  (try rw [show ((0 : Int)).toNat = 0 from rfl] at hx248_0)
                                  (try rw [Addr.add_zero'] at hx248_0)
                                  replace p248 := eq_true p248
                                  replace q248 := eq_true q248
                                  have p249 : 0 ≤ (1 : Int) := (by omega)
                                  have q249 : 1 < (y243.length : Int) := of_decide_eq_true (by first | (with_reducible assumption) | assumption)
                                  obtain ⟨ad249, e249, hx249_0⟩ := Kd.at_int (Kd.V_reads' HO_0.out).2.2 1 p249 q249
                                  obtain rfl : ad248 = ad249 := (by injection e249)
                                  (try simp only [show (1 : Int).toNat = 1 from rfl, Nat.reduceMul, Nat.reduceEqDiff, Go.Addr.add, ↓reduceIte] at hx249_0)
                                  have qi249 : (1 < y243.length) = True := eq_true (by omega)
                                  (try rw [show ((1 : Int)).toNat = 1 from rfl] at hx249_0)
                                  replace p249 := eq_true p249
                                  replace q249 := eq_true q249
                                  refine start_ (n := 12) (S := fun w' => w'.cell? ad248 = some (.int .u8 (rd y243 0)) ∧ w'.cell? ⟨ad248.block, ad248.off + 1, none⟩ = some (.int .u8 (rd y243 1))) (ds := []) #[false, false, false, false, false, false, false, false, false, false, false, false] (by kernel_rfl) rfl rfl ⟨hx248_0, hx249_0⟩ (fun hHeld => ?_); refine with_tabW code_Decode.tab11 code_Decode.bits11 (fun HT_ HW_ => ?_)
                                  generalize wc.drew = w64 at HO_0 HO_4 BK235 BK242 HB hx248_0 hx249_0 hHeld ⊢
                                  refine pure_ (i := 0) (N := some 36) (v := ?_) (a' := ?_) #[true, false, false, false, false, false, false, false, false, false, false, false] rfl rfl (any_of HT_.out (by kernel_rfl)) (fun _ _ _ h => h) (Or.inl ⟨by rfl, ?_⟩) ?_ ?_
                                  rotate_left
                                  · intro w'
                                    go_simp
                                    with_reducible rfl
                                  rotate_left
                                  · simp only [Act.put, List.setIfInBounds_toArray, List.set_cons_zero, List.set_cons_succ, i64_w, i32_w]
                                    rfl
                                  refine pure_ (i := 1) (N := some 37) (v := ?_) (a' := ?_) #[true, true, false, false, false, false, false, false, false, false, false, false] rfl rfl (any_of HT_.out (by kernel_rfl)) (fun _ _ _ h => h) (Or.inl ⟨by rfl, ?_⟩) ?_ ?_
                                  rotate_left
                                  · intro w'
                                    go_simp
                                    with_reducible rfl
                                  rotate_left
                                  · simp only [Act.put, List.setIfInBounds_toArray, List.set_cons_zero, List.set_cons_succ, i64_w, i32_w]
                                    rfl
                                  refine pure_ (i := 5) (N := some 41) (v := ?_) (a' := ?_) #[true, true, false, false, false, true, false, false, false, false, false, false] rfl rfl (any_of HT_.out (by kernel_rfl)) (fun _ _ _ h => h) (Or.inl ⟨by rfl, ?_⟩) ?_ ?_
                                  rotate_left
                                  · intro w'
                                    go_simp
                                    with_reducible rfl
                                  rotate_left
                                  · simp only [Act.put, List.setIfInBounds_toArray, List.set_cons_zero, List.set_cons_succ, i64_w, i32_w]
                                    rfl
                                  refine pure_ (i := 6) (N := some 42) (v := ?_) (a' := ?_) #[true, true, false, false, false, true, true, false, false, false, false, false] rfl rfl (any_of HT_.out (by kernel_rfl)) (fun _ _ _ h => h) (Or.inl ⟨by rfl, ?_⟩) ?_ ?_
                                  rotate_left
                                  · intro w'
                                    go_simp
                                    with_reducible rfl
                                  rotate_left
                                  · simp only [Act.put, List.setIfInBounds_toArray, List.set_cons_zero, List.set_cons_succ, i64_w, i32_w]
                                    rfl
                                  refine take_ (i := 2) (N := some 38) (v := ?_) (a' := ?_) #[true, true, true, false, false, true, true, false, false, false, false, false] rfl rfl (take_ofW HT_.out HW_.out (by kernel_rfl)) (fun _ _ _ h => h) (Or.inl ⟨by rfl, ?_⟩) hHeld ?_ ?_
                                  rotate_left
                                  · rintro w' ⟨s0, s1⟩
                                    go_simp
                                    with_reducible rfl
                                  rotate_left
                                  · simp only [Act.put, List.setIfInBounds_toArray, List.set_cons_zero, List.set_cons_succ, i64_w, i32_w]
                                    rfl
                                  refine pure_ (i := 3) (N := some 39) (v := ?_) (a' := ?_) #[true, true, true, true, false, true, true, false, false, false, false, false] rfl rfl (any_of HT_.out (by kernel_rfl)) (fun _ _ _ h => h) (Or.inl ⟨by rfl, ?_⟩) ?_ ?_
                                  rotate_left
                                  · intro w'
                                    go_simp
                                    with_reducible rfl
                                  rotate_left
                                  · simp only [Act.put, List.setIfInBounds_toArray, List.set_cons_zero, List.set_cons_succ, i64_w, i32_w]
                                    rfl
                                  refine pure_ (i := 4) (N := some 40) (v := ?_) (a' := ?_) #[true, true, true, true, true, true, true, false, false, false, false, false] rfl rfl (any_of HT_.out (by kernel_rfl)) (fun _ _ _ h => h) (Or.inl ⟨by rfl, ?_⟩) ?_ ?_
                                  rotate_left
                                  · intro w'
                                    go_simp
                                    with_reducible rfl
                                  rotate_left
                                  · simp only [Act.put, List.setIfInBounds_toArray, List.set_cons_zero, List.set_cons_succ, i64_w, i32_w]
                                    rfl
                                  refine take_ (i := 7) (N := some 43) (v := ?_) (a' := ?_) #[true, true, true, true, true, true, true, true, false, false, false, false] rfl rfl (take_ofW HT_.out HW_.out (by kernel_rfl)) (fun _ _ _ h => h) (Or.inl ⟨by rfl, ?_⟩) hHeld ?_ ?_
                                  rotate_left
                                  · rintro w' ⟨s0, s1⟩
                                    go_simp
                                    with_reducible rfl
                                  rotate_left
                                  · simp only [Act.put, List.setIfInBounds_toArray, List.set_cons_zero, List.set_cons_succ, i64_w, i32_w]
                                    rfl
                                  refine pure_ (i := 8) (N := some 44) (v := ?_) (a' := ?_) #[true, true, true, true, true, true, true, true, true, false, false, false] rfl rfl (any_of HT_.out (by kernel_rfl)) (fun _ _ _ h => h) (Or.inl ⟨by rfl, ?_⟩) ?_ ?_
                                  rotate_left
                                  · intro w'
                                    go_simp
                                    with_reducible rfl
                                  rotate_left
                                  · simp only [Act.put, List.setIfInBounds_toArray, List.set_cons_zero, List.set_cons_succ, i64_w, i32_w]
                                    rfl
                                  refine pure_ (i := 9) (N := some 45) (v := ?_) (a' := ?_) #[true, true, true, true, true, true, true, true, true, true, false, false] rfl rfl (any_of HT_.out (by kernel_rfl)) (fun _ _ _ h => h) (Or.inl ⟨by rfl, ?_⟩) ?_ ?_
                                  rotate_left
                                  · intro w'
                                    go_simp
                                    with_reducible rfl
                                  rotate_left
                                  · simp only [Act.put, List.setIfInBounds_toArray, List.set_cons_zero, List.set_cons_succ, i64_w, i32_w]
                                    rfl
                                  refine pure_ (i := 10) (N := some 46) (v := ?_) (a' := ?_) #[true, true, true, true, true, true, true, true, true, true, true, false] rfl rfl (any_of HT_.out (by kernel_rfl)) (fun _ _ _ h => h) (Or.inl ⟨by rfl, ?_⟩) ?_ ?_
                                  rotate_left
                                  · intro w'
                                    go_simp
                                    with_reducible rfl
                                  rotate_left
                                  · simp only [Act.put, List.setIfInBounds_toArray, List.set_cons_zero, List.set_cons_succ, i64_w, i32_w]
                                    rfl
                                  refine one_ (i := 11) (N := none) #[true, true, true, true, true, true, true, true, true, true, true, true] rfl rfl (one_of HT_.out (by kernel_rfl)) (by decide) (fun K hK => ?_)
                                  have hs65 : w64.cell? ⟨gb235, 1, none⟩ = some (.int .i64 0) := (blk_cell BK235.out 1).trans rfl
                                  have hfs65 := blk_frozen BK235.out 1
                                  have hns65_1 := NB242_235.out
                                  have hms65_1 := NB235_242.out
                                  refine skip_ (w1 := ?_) (by rfl) rfl ?_ ?_
                                  rotate_left
                                  · go_simp
                                    rfl
                                  refine hK.out _ _ ⟨((cell_far (p := ⟨gb235, _, none⟩) (by first | exact Kd.own_blk (Kd.V_away HO_0.out (fun _ hk => hk.2.2.1)) | (rw [add_block]; exact Kd.own_blk (Kd.V_away HO_0.out (fun _ hk => hk.2.2.1))) | (show (Addr.add _ _).block ≠ _; rw [add_block]; exact Kd.own_blk (Kd.V_away HO_0.out (fun _ hk => hk.2.2.1))) | (dsimp only; exact Kd.own_blk (Kd.V_away HO_0.out (fun _ hk => hk.2.2.1)))) _).trans (hHeld.1)), ((cell_far (p := ⟨gb235, _, none⟩) (by first | exact Kd.own_blk (Kd.V_away HO_0.out (fun _ hk => hk.2.2.1)) | (rw [add_block]; exact Kd.own_blk (Kd.V_away HO_0.out (fun _ hk => hk.2.2.1))) | (show (Addr.add _ _).block ≠ _; rw [add_block]; exact Kd.own_blk (Kd.V_away HO_0.out (fun _ hk => hk.2.2.1))) | (dsimp only; exact Kd.own_blk (Kd.V_away HO_0.out (fun _ hk => hk.2.2.1)))) _).trans (hHeld.2))⟩ (fun hHeld => ?_)
                                  clear hK K
                                  refine done_ (done_of HT_.out (by kernel_rfl)) ?_
                                  have n0_ : Aside0 (Kd.V (Kd.int .u8) 5 (w64.setCell ⟨gb235, 1, none⟩ (.int .i64 (Go.bits .or .i64 (wrap64 ((wrap64 (rd y243 0)) * 256)) (wrap64 (rd y243 1))))) w.heap.size (fun k_ => (P0_ k_ ∨ w.heap.size ≤ k_) ∧ some k_ ≠ (.slice Ao11 x4_1.length co11 : Value).ownBlock ∧ k_ ≠ gb235 ∧ k_ ≠ gb242) (.slice (some ad248) y243.length c19) y243) := ⟨by (with_reducible repeat (first | apply Kd.V_alloc | apply Kd.V_drewN | apply Kd.V_drew)); exact Kd.V_mono (Kd.V_far (p := ⟨gb235, 1, none⟩) (Kd.V_mono HO_0.out (fun k_ hk => (⟨hk, hk.2.2.1⟩ : _ ∧ k_ ≠ gb235))) (fun _ hk => hk.2) (.int .i64 (Go.bits .or .i64 (wrap64 ((wrap64 (rd y243 0)) * 256)) (wrap64 (rd y243 1))))) (fun _ hk => ⟨hk.1.1, ⟨hk.1.2.1, ⟨hk.1.2.2.1, hk.1.2.2.2⟩⟩⟩)⟩
                                  have n1_ : Aside0 (Kd.R k41 41 (w64.setCell ⟨gb235, 1, none⟩ (.int .i64 (Go.bits .or .i64 (wrap64 ((wrap64 (rd y243 0)) * 256)) (wrap64 (rd y243 1))))) w.heap.size (fun k_ => (w.heap.size ≤ k_) ∧ k_ ≠ gb235) (.slice Ao11 x4_1.length co11) x4_1) := ⟨by (with_reducible repeat (first | apply Kd.R_alloc | apply Kd.R_drewN | apply Kd.R_drew)); exact Kd.R_mono (Kd.R_far (p := ⟨gb235, 1, none⟩) (Kd.R_mono HO_4.out (fun k_ hk => (⟨hk, hk.2⟩ : _ ∧ k_ ≠ gb235))) (fun _ hk => hk.2) (.int .i64 (Go.bits .or .i64 (wrap64 ((wrap64 (rd y243 0)) * 256)) (wrap64 (rd y243 1))))) (fun _ hk => ⟨hk.1.1, hk.1.2⟩)⟩
                                  have n2_ : Aside0 ((w64.setCell ⟨gb235, 1, none⟩ (.int .i64 (Go.bits .or .i64 (wrap64 ((wrap64 (rd y243 0)) * 256)) (wrap64 (rd y243 1))))).heap[gb235]? = some (.cells #[.int .i64 (wrap64 (rd x0_1 0)), .int .i64 (Go.bits .or .i64 (wrap64 ((wrap64 (rd y243 0)) * 256)) (wrap64 (rd y243 1)))] 41 (0, 0))) := ⟨by (with_reducible repeat (first | refine blk_drewN ?_ _ | refine blk_drew ?_ | refine blk_alloc ?_ _)); refine blk_put (cs := #[.int .i64 (wrap64 (rd x0_1 0)), .int .i64 0]) ?_ 1 _ rfl; (with_reducible repeat (first | refine blk_drewN ?_ _ | refine blk_drew ?_ | refine blk_alloc ?_ _)); exact BK235.out⟩
                                  have n3_ : Aside0 ((w64.setCell ⟨gb235, 1, none⟩ (.int .i64 (Go.bits .or .i64 (wrap64 ((wrap64 (rd y243 0)) * 256)) (wrap64 (rd y243 1))))).heap[gb242]? = some (.cells #[.int .i64 t236, .int .i64 t237, .int .i64 t238, .int .i64 t239, .bool t240] 56 (0, 0))) := ⟨by (with_reducible repeat (first | refine blk_drewN ?_ _ | refine blk_drew ?_ | refine blk_alloc ?_ _)); refine blk_far ?_ NB242_235.out _; (with_reducible repeat (first | refine blk_drewN ?_ _ | refine blk_drew ?_ | refine blk_alloc ?_ _)); exact BK242.out⟩
                                  have n4_ : Aside0 (Below w.heap.size w (w64.setCell ⟨gb235, 1, none⟩ (.int .i64 (Go.bits .or .i64 (wrap64 ((wrap64 (rd y243 0)) * 256)) (wrap64 (rd y243 1)))))) := ⟨by repeat (first | (with_reducible first | exact HB.out | apply below_alloc | apply pw_below_drewN | apply below_drew1 | refine below_set ?_ GE235.out | refine below_set ?_ GE242.out) | exact HB.out)⟩
                                  (try clear HO_0)
                                  (try clear HO_4)
                                  (try clear BK235)
                                  (try clear BK242)
                                  (try clear HB)
                                  generalize (w64.setCell ⟨gb235, 1, none⟩ (.int .i64 (Go.bits .or .i64 (wrap64 ((wrap64 (rd y243 0)) * 256)) (wrap64 (rd y243 1))))) = w66 at n0_ n1_ n2_ n3_ n4_ ⊢
                                  have HO_0 := n0_
                                  have HO_4 := n1_
                                  have BK235 := n2_
                                  have BK242 := n3_
                                  have HB := n4_
                                  clear n0_ n1_ n2_ n3_ n4_
                                  have hnb67 := NB235_242.out
                                  have hnc67 := NB242_235.out
                                  have hcz68_0 : w66.cell? ⟨gb235, 0, none⟩ = some (.int .i64 (wrap64 (rd x0_1 0))) := (blk_cell BK235.out 0).trans rfl
                                  have hcz68_1 : w66.cell? ⟨gb235, 1, none⟩ = some (.int .i64 (Go.bits .or .i64 (wrap64 ((wrap64 (rd y243 0)) * 256)) (wrap64 (rd y243 1)))) := (blk_cell BK235.out 1).trans rfl
                                  have hfz68_0 := blk_frozen BK235.out 0
                                  have hfz68_1 := blk_frozen BK235.out 1
                                  have q69 : (2 : Int) ≤ ((y243.length : Int) : Int) := of_decide_eq_true (by first | (with_reducible assumption) | assumption)
                                  obtain ⟨i069, hi069, _, hsz69, _⟩ := info_parts info5
                                  have hroom69 : y243.length ≤ c19 := (Kd.V_reads' HO_0.out).2.1
                                  have hC69 : Kd.F (Kd.int .u8) _ _ (some ad248) y243.length y243 := (Kd.V_at (base := w.heap.size) HO_0.out).2.2
                                  have hcut69 := cut_from (P := Try.prog) 43 5 .i64 Try.underlying43 hi069 1 hsz69 (some ad248) y243.length c19 2 (by omega) q69
                                  have hr69 := Kd.F_cut (m := (2 : Int).toNat) (c := c19) hC69 (by omega) hroom69
                                  obtain ⟨A69, hA69⟩ : ∃ A1, A1 = (if c19 = (2 : Int).toNat then (some ad248) else ((some ad248) : Option Addr).map (·.add ((2 : Int).toNat * 1))) := ⟨_, rfl⟩
                                  obtain ⟨c69, hc69⟩ : ∃ c1, c1 = c19 - (2 : Int).toNat := ⟨_, rfl⟩
                                  have hy69 : y265.length = y243.length - (2 : Int).toNat := (by rw [Ny265.out, List.length_drop] <;> omega)
                                  rw [show (y243).drop (2 : Int).toNat = y265 from Ny265.out.symm] at hr69
                                  replace hr69 : Kd.F (Kd.int .u8) _ _ A69 y265.length y265 := (by rw [hA69]; exact hr69)
                                  rw [← hy69, ← hA69, ← hc69] at hcut69
                                  have HO269 := Aside0.mk (show Kd.V (Kd.int .u8) 5 _ w.heap.size _ (.slice A69 y265.length c69) y265 from Kd.V_mk (by rw [hy69, hc69]; exact Nat.sub_le_sub_right hroom69 _) hr69)
                                  have HC269 := Aside0.mk (show y265.length ≤ c69 from by rw [hy69, hc69]; exact Nat.sub_le_sub_right hroom69 _)
                                  clear hr69 hC69 hroom69 hi069 hsz69 hc69
                                  have KY69 := Aside0.mk hy69
                                  have KA69 := Aside0.mk hA69
                                  clear hy69 hA69
                                  replace q69 := eq_true q69
                                  try go_wp2_with (first | ((with_reducible refine gate_callee (f := 25) rfl ?_); refine goesL_ (some 59) rfl rfl Try.func25 (by kernel_rfl) rfl #[.agg #[.int .i64 (wrap64 (rd x0_1 0)), .int .i64 (Go.bits .or .i64 (wrap64 ((wrap64 (rd y243 0)) * 256)) (wrap64 (rd y243 1)))]] rfl (by (try simp only [List.map_toArray, List.map_cons, List.map_nil]); first | done | rfl | (simp only [List.length_drop, List.length_take]; rfl)) ?_; (with_reducible refine (code_may.calls (wrap64 (rd x0_1 0)) (Go.bits .or .i64 (wrap64 ((wrap64 (rd y243 0)) * 256)) (wrap64 (rd y243 1))) t270 t271 t272 t273 t274 true _ A61.out).mono ?_); rintro e w70 ⟨rfl, hb⟩; refine ⟨_, rfl, ?_⟩; have n0_ := Aside0.mk (Kd.V_below (by (with_reducible repeat (first | apply Kd.V_alloc | apply Kd.V_drewN | apply Kd.V_drew)); exact HO_0.out) hb); have n1_ := Aside0.mk (Kd.R_below (by (with_reducible repeat (first | apply Kd.R_alloc | apply Kd.R_drewN | apply Kd.R_drew)); exact HO_4.out) hb); have n2_ := Aside0.mk (Kd.V_below (by (with_reducible repeat (first | apply Kd.V_alloc | apply Kd.V_drewN | apply Kd.V_drew)); exact HO269.out) hb); have n3_ := Aside0.mk (blk_below (g := gb235) (o := .cells #[.int .i64 (wrap64 (rd x0_1 0)), .int .i64 (Go.bits .or .i64 (wrap64 ((wrap64 (rd y243 0)) * 256)) (wrap64 (rd y243 1)))] 41 (0, 0)) (by (with_reducible repeat (first | refine blk_drewN ?_ _ | refine blk_drew ?_ | refine blk_alloc ?_ _)); exact BK235.out) hb); have n4_ := Aside0.mk (blk_below (g := gb242) (o := .cells #[.int .i64 t236, .int .i64 t237, .int .i64 t238, .int .i64 t239, .bool t240] 56 (0, 0)) (by (with_reducible repeat (first | refine blk_drewN ?_ _ | refine blk_drew ?_ | refine blk_alloc ?_ _)); exact BK242.out) hb); have n5_ := Aside0.mk (below_step (by repeat (first | (with_reducible first | exact HB.out | apply below_alloc | apply pw_below_drewN | apply below_drew1 | refine below_set ?_ GE235.out | refine below_set ?_ GE242.out) | exact HB.out)) hb); clear HO_0; clear HO_4; clear HO269; clear BK235; clear BK242; clear HB; have HO_0 := n0_; have HO_4 := n1_; have HO269 := n2_; have BK235 := n3_; have BK242 := n4_; have HB := n5_; clear n0_ n1_ n2_ n3_ n4_ n5_; (try clear hb); (try clear hb2); (try clear hk); (try clear hi)) | ((with_reducible refine gate_dst (N := 8) rfl ?_); refine box_event ?hg (N := 8) ?hd (cs := #[.int .i64 0, .int .i64 0, .int .i64 0, .int .i64 0, .bool false]) (t := 56) ?hr ?_; (case hd => rfl); (case hg => rfl); (case hr => first | (go_simp; done) | (go_simp; rfl)); intro gb276 hg w71 hbox hb; have n0_ := Aside0.mk (Kd.V_below (Kd.V_elderB (by (with_reducible repeat (first | apply Kd.V_alloc | apply Kd.V_drewN | apply Kd.V_drew)); exact HO_0.out) gb276 (Nat.le_of_eq hg.symm)) hb); have n1_ := Aside0.mk (Kd.R_below (by (with_reducible repeat (first | apply Kd.R_alloc | apply Kd.R_drewN | apply Kd.R_drew)); exact HO_4.out) hb); have n2_ := Aside0.mk (Kd.V_below (Kd.V_elderB (by (with_reducible repeat (first | apply Kd.V_alloc | apply Kd.V_drewN | apply Kd.V_drew)); exact HO269.out) gb276 (Nat.le_of_eq hg.symm)) hb); have n3_ := Aside0.mk (blk_below (g := gb235) (o := .cells #[.int .i64 (wrap64 (rd x0_1 0)), .int .i64 (Go.bits .or .i64 (wrap64 ((wrap64 (rd y243 0)) * 256)) (wrap64 (rd y243 1)))] 41 (0, 0)) (by (with_reducible repeat (first | refine blk_drewN ?_ _ | refine blk_drew ?_ | refine blk_alloc ?_ _)); exact BK235.out) hb); have n4_ := Aside0.mk (blk_below (g := gb242) (o := .cells #[.int .i64 t236, .int .i64 t237, .int .i64 t238, .int .i64 t239, .bool t240] 56 (0, 0)) (by (with_reducible repeat (first | refine blk_drewN ?_ _ | refine blk_drew ?_ | refine blk_alloc ?_ _)); exact BK242.out) hb); have n5_ := Aside0.mk (below_step (by repeat (first | (with_reducible first | exact HB.out | apply below_alloc | apply pw_below_drewN | apply below_drew1 | refine below_set ?_ GE235.out | refine below_set ?_ GE242.out) | exact HB.out)) hb); have n6_ := Aside0.mk (hbox); have n7_ := Aside0.mk ((by rw [hg]; exact (below_size (by repeat (first | (with_reducible first | exact HB.out | apply below_alloc | apply pw_below_drewN | apply below_drew1 | refine below_set ?_ GE235.out | refine below_set ?_ GE242.out) | exact HB.out))) : w.heap.size ≤ gb276)); have n8_ := Aside0.mk ((by rw [hg]; exact (below_size (by repeat (first | (with_reducible first | exact HB.out | apply below_alloc | apply pw_below_drewN | apply below_drew1 | refine below_set ?_ GE235.out | refine below_set ?_ GE242.out) | exact HB.out))) : w.heap.size ≤ gb276)); have n9_ := Aside0.mk ((by rw [hg]; exact Nat.ne_of_lt (blk_lt (g := gb235) (o := .cells #[.int .i64 (wrap64 (rd x0_1 0)), .int .i64 (Go.bits .or .i64 (wrap64 ((wrap64 (rd y243 0)) * 256)) (wrap64 (rd y243 1)))] 41 (0, 0)) (by (with_reducible repeat (first | refine blk_drewN ?_ _ | refine blk_drew ?_ | refine blk_alloc ?_ _)); exact BK235.out)) : gb235 ≠ gb276)); have n10_ := Aside0.mk ((by rw [hg]; exact Nat.ne_of_gt (blk_lt (g := gb235) (o := .cells #[.int .i64 (wrap64 (rd x0_1 0)), .int .i64 (Go.bits .or .i64 (wrap64 ((wrap64 (rd y243 0)) * 256)) (wrap64 (rd y243 1)))] 41 (0, 0)) (by (with_reducible repeat (first | refine blk_drewN ?_ _ | refine blk_drew ?_ | refine blk_alloc ?_ _)); exact BK235.out)) : gb276 ≠ gb235)); have n11_ := Aside0.mk ((by rw [hg]; exact Nat.ne_of_lt (blk_lt (g := gb242) (o := .cells #[.int .i64 t236, .int .i64 t237, .int .i64 t238, .int .i64 t239, .bool t240] 56 (0, 0)) (by (with_reducible repeat (first | refine blk_drewN ?_ _ | refine blk_drew ?_ | refine blk_alloc ?_ _)); exact BK242.out)) : gb242 ≠ gb276)); have n12_ := Aside0.mk ((by rw [hg]; exact Nat.ne_of_gt (blk_lt (g := gb242) (o := .cells #[.int .i64 t236, .int .i64 t237, .int .i64 t238, .int .i64 t239, .bool t240] 56 (0, 0)) (by (with_reducible repeat (first | refine blk_drewN ?_ _ | refine blk_drew ?_ | refine blk_alloc ?_ _)); exact BK242.out)) : gb276 ≠ gb242)); clear HO_0; clear HO_4; clear HO269; clear BK235; clear BK242; clear HB; have HO_0 := n0_; have HO_4 := n1_; have HO269 := n2_; have BK235 := n3_; have BK242 := n4_; have HB := n5_; have BK276 := n6_; have GW276 := n7_; have GE276 := n8_; have NB235_276 := n9_; have NB276_235 := n10_; have NB242_276 := n11_; have NB276_242 := n12_; clear n0_ n1_ n2_ n3_ n4_ n5_ n6_ n7_ n8_ n9_ n10_ n11_ n12_; clear hb hbox hg; have hnb72 := NB276_235.out; have hnc72 := NB235_276.out; have hnb73 := NB276_242.out; have hnc73 := NB242_276.out; have hcz74_0 : w71.cell? ⟨gb276, 0, none⟩ = some (.int .i64 0) := (blk_cell BK276.out 0).trans rfl; have hcz74_1 : w71.cell? ⟨gb276, 1, none⟩ = some (.int .i64 0) := (blk_cell BK276.out 1).trans rfl; have hcz74_2 : w71.cell? ⟨gb276, 2, none⟩ = some (.int .i64 0) := (blk_cell BK276.out 2).trans rfl; have hcz74_3 : w71.cell? ⟨gb276, 3, none⟩ = some (.int .i64 0) := (blk_cell BK276.out 3).trans rfl; have hcz74_4 : w71.cell? ⟨gb276, 4, none⟩ = some (.bool false) := (blk_cell BK276.out 4).trans rfl; have hfz74_0 := blk_frozen BK276.out 0; have hfz74_1 := blk_frozen BK276.out 1; have hfz74_2 := blk_frozen BK276.out 2; have hfz74_3 := blk_frozen BK276.out 3; have hfz74_4 := blk_frozen BK276.out 4; have hcz75_0 : w71.cell? ⟨gb235, 0, none⟩ = some (.int .i64 (wrap64 (rd x0_1 0))) := (blk_cell BK235.out 0).trans rfl; have hcz75_1 : w71.cell? ⟨gb235, 1, none⟩ = some (.int .i64 (Go.bits .or .i64 (wrap64 ((wrap64 (rd y243 0)) * 256)) (wrap64 (rd y243 1)))) := (blk_cell BK235.out 1).trans rfl; have hfz75_0 := blk_frozen BK235.out 0; have hfz75_1 := blk_frozen BK235.out 1) | ((with_reducible refine gate_builtin (b := .append) (xs := #[.tmp 64, .tmp 66]) rfl ?_); at_builtin; refine Kd.R_append k41 (w0 := w) w.heap.size rfl (.tmp 64) (.tmp 66) 28 41 (.agg #[(.int .i64 0), (.int .i64 0)]) 16 rfl Try.underlying28 info41 rfl (by decide) (by omega) (.slice Ao11 x4_1.length co11) x4_1 (⟨(wrap64 (rd x0_1 0)), Go.bits .or .i64 (wrap64 ((wrap64 (rd y243 0)) * 256)) (wrap64 (rd y243 1))⟩ : S41) [.int .i64 (wrap64 (rd x0_1 0)), .int .i64 (Go.bits .or .i64 (wrap64 ((wrap64 (rd y243 0)) * 256)) (wrap64 (rd y243 1)))] (fun k_ => (w.heap.size ≤ k_) ∧ k_ ≠ gb235) (fun _ => False) rfl (by first | (go_simp; done) | (go_simp; rfl)) ?aP (fun _ hk => hk.elim) ?aF ?aO ?aB ?aS ?aL ?_; (case aP => exact k41_mkM _ _ _ (⟨(wrap64 (rd x0_1 0)), Go.bits .or .i64 (wrap64 ((wrap64 (rd y243 0)) * 256)) (wrap64 (rd y243 1))⟩ : S41)); (case aB => exact (by repeat (first | (with_reducible first | exact HB.out | apply below_alloc | apply pw_below_drewN | apply below_drew1 | refine below_set ?_ GE235.out | refine below_set ?_ GE242.out | refine below_set ?_ GE276.out) | exact HB.out))); (case aF => exact (fun k_ hk => ⟨(Nat.le_trans (below_size (by repeat (first | (with_reducible first | exact HB.out | apply below_alloc | apply pw_below_drewN | apply below_drew1 | refine below_set ?_ GE235.out | refine below_set ?_ GE242.out | refine below_set ?_ GE276.out) | exact HB.out))) hk), Kd.freshB (g := gb235) (o := .cells #[.int .i64 (wrap64 (rd x0_1 0)), .int .i64 (Go.bits .or .i64 (wrap64 ((wrap64 (rd y243 0)) * 256)) (wrap64 (rd y243 1)))] 41 (0, 0)) (by (with_reducible repeat (first | refine blk_drewN ?_ _ | refine blk_drew ?_ | refine blk_alloc ?_ _)); refine blk_far ?_ NB235_276.out _; (with_reducible repeat (first | refine blk_drewN ?_ _ | refine blk_drew ?_ | refine blk_alloc ?_ _)); refine blk_far ?_ NB235_276.out _; (with_reducible repeat (first | refine blk_drewN ?_ _ | refine blk_drew ?_ | refine blk_alloc ?_ _)); refine blk_far ?_ NB235_276.out _; (with_reducible repeat (first | refine blk_drewN ?_ _ | refine blk_drew ?_ | refine blk_alloc ?_ _)); refine blk_far ?_ NB235_276.out _; (with_reducible repeat (first | refine blk_drewN ?_ _ | refine blk_drew ?_ | refine blk_alloc ?_ _)); refine blk_far ?_ NB235_276.out _; (with_reducible repeat (first | refine blk_drewN ?_ _ | refine blk_drew ?_ | refine blk_alloc ?_ _)); exact BK235.out) k_ hk⟩)); (case aO => exact (by (with_reducible repeat (first | apply Kd.R_alloc | apply Kd.R_drewN | apply Kd.R_drew)); exact Kd.R_mono (Kd.R_far (p := ⟨gb276, 4, none⟩) (Kd.R_far (p := ⟨gb276, 3, none⟩) (Kd.R_far (p := ⟨gb276, 2, none⟩) (Kd.R_far (p := ⟨gb276, 1, none⟩) (Kd.R_far (p := ⟨gb276, 0, none⟩) (Kd.R_types HO_4.out BK276.out (by decide)) (fun _ hk => hk.2) (.int .i64 t270)) (fun _ hk => hk.2) (.int .i64 t271)) (fun _ hk => hk.2) (.int .i64 t272)) (fun _ hk => hk.2) (.int .i64 t273)) (fun _ hk => hk.2) (.bool t274)) (fun _ hk => ⟨hk.1.1, hk.1.2⟩))); (case aS => exact (below_size (by repeat (first | (with_reducible first | exact HB.out | apply below_alloc | apply pw_below_drewN | apply below_drew1 | refine below_set ?_ GE235.out | refine below_set ?_ GE242.out | refine below_set ?_ GE276.out) | exact HB.out)))); (case aL => have := LMc63.out; omega); intro v278 w76 ho hb hg hat; rw [← Ny277.out] at ho; have n0_ := Aside0.mk (Kd.V_afterv (ok := (fun k_ => (P0_ k_ ∨ w.heap.size ≤ k_) ∧ k_ ≠ gb235 ∧ k_ ≠ gb242 ∧ k_ ≠ gb276)) (by (with_reducible repeat (first | apply Kd.V_alloc | apply Kd.V_drewN | apply Kd.V_drew)); exact Kd.V_mono (Kd.V_far (p := ⟨gb276, 4, none⟩) (Kd.V_far (p := ⟨gb276, 3, none⟩) (Kd.V_far (p := ⟨gb276, 2, none⟩) (Kd.V_far (p := ⟨gb276, 1, none⟩) (Kd.V_far (p := ⟨gb276, 0, none⟩) (Kd.V_mono HO_0.out (fun k_ hk => (⟨hk, hk.2⟩ : _ ∧ k_ ≠ gb276))) (fun _ hk => hk.2) (.int .i64 t270)) (fun _ hk => hk.2) (.int .i64 t271)) (fun _ hk => hk.2) (.int .i64 t272)) (fun _ hk => hk.2) (.int .i64 t273)) (fun _ hk => hk.2) (.bool t274)) (fun _ hk => ⟨⟨hk.1.1.1, ⟨hk.1.1.2.2.1, ⟨hk.1.1.2.2.2, hk.1.2⟩⟩⟩, hk.1.1.2.1⟩)) hg hat); have n1_ := Aside0.mk (blk_grown (g := gb235) (o := .cells #[.int .i64 (wrap64 (rd x0_1 0)), .int .i64 (Go.bits .or .i64 (wrap64 ((wrap64 (rd y243 0)) * 256)) (wrap64 (rd y243 1)))] 41 (0, 0)) (by (with_reducible repeat (first | refine blk_drewN ?_ _ | refine blk_drew ?_ | refine blk_alloc ?_ _)); refine blk_far ?_ NB235_276.out _; (with_reducible repeat (first | refine blk_drewN ?_ _ | refine blk_drew ?_ | refine blk_alloc ?_ _)); refine blk_far ?_ NB235_276.out _; (with_reducible repeat (first | refine blk_drewN ?_ _ | refine blk_drew ?_ | refine blk_alloc ?_ _)); refine blk_far ?_ NB235_276.out _; (with_reducible repeat (first | refine blk_drewN ?_ _ | refine blk_drew ?_ | refine blk_alloc ?_ _)); refine blk_far ?_ NB235_276.out _; (with_reducible repeat (first | refine blk_drewN ?_ _ | refine blk_drew ?_ | refine blk_alloc ?_ _)); refine blk_far ?_ NB235_276.out _; (with_reducible repeat (first | refine blk_drewN ?_ _ | refine blk_drew ?_ | refine blk_alloc ?_ _)); exact BK235.out) hg (Kd.R_away HO_4.out (fun _ hk => hk.2))); have n2_ := Aside0.mk (blk_grown (g := gb242) (o := .cells #[.int .i64 t236, .int .i64 t237, .int .i64 t238, .int .i64 t239, .bool t240] 56 (0, 0)) (by (with_reducible repeat (first | refine blk_drewN ?_ _ | refine blk_drew ?_ | refine blk_alloc ?_ _)); refine blk_far ?_ NB242_276.out _; (with_reducible repeat (first | refine blk_drewN ?_ _ | refine blk_drew ?_ | refine blk_alloc ?_ _)); refine blk_far ?_ NB242_276.out _; (with_reducible repeat (first | refine blk_drewN ?_ _ | refine blk_drew ?_ | refine blk_alloc ?_ _)); refine blk_far ?_ NB242_276.out _; (with_reducible repeat (first | refine blk_drewN ?_ _ | refine blk_drew ?_ | refine blk_alloc ?_ _)); refine blk_far ?_ NB242_276.out _; (with_reducible repeat (first | refine blk_drewN ?_ _ | refine blk_drew ?_ | refine blk_alloc ?_ _)); refine blk_far ?_ NB242_276.out _; (with_reducible repeat (first | refine blk_drewN ?_ _ | refine blk_drew ?_ | refine blk_alloc ?_ _)); exact BK242.out) hg (Kd.R_ne HO_4.out BK242.out (by decide))); have n3_ := Aside0.mk (Kd.V_afterv (ok := (fun k_ => (P0_ k_ ∨ w.heap.size ≤ k_) ∧ k_ ≠ gb235 ∧ k_ ≠ gb242 ∧ k_ ≠ gb276)) (by (with_reducible repeat (first | apply Kd.V_alloc | apply Kd.V_drewN | apply Kd.V_drew)); exact Kd.V_mono (Kd.V_far (p := ⟨gb276, 4, none⟩) (Kd.V_far (p := ⟨gb276, 3, none⟩) (Kd.V_far (p := ⟨gb276, 2, none⟩) (Kd.V_far (p := ⟨gb276, 1, none⟩) (Kd.V_far (p := ⟨gb276, 0, none⟩) (Kd.V_mono HO269.out (fun k_ hk => (⟨hk, hk.2⟩ : _ ∧ k_ ≠ gb276))) (fun _ hk => hk.2) (.int .i64 t270)) (fun _ hk => hk.2) (.int .i64 t271)) (fun _ hk => hk.2) (.int .i64 t272)) (fun _ hk => hk.2) (.int .i64 t273)) (fun _ hk => hk.2) (.bool t274)) (fun _ hk => ⟨⟨hk.1.1.1, ⟨hk.1.1.2.2.1, ⟨hk.1.1.2.2.2, hk.1.2⟩⟩⟩, hk.1.1.2.1⟩)) hg hat); have n4_ := Aside0.mk (blk_grown (g := gb276) (o := .cells #[.int .i64 t270, .int .i64 t271, .int .i64 t272, .int .i64 t273, .bool t274] 56 (0, 0)) (by (with_reducible repeat (first | refine blk_drewN ?_ _ | refine blk_drew ?_ | refine blk_alloc ?_ _)); refine blk_put (cs := #[.int .i64 t270, .int .i64 t271, .int .i64 t272, .int .i64 t273, .bool false]) ?_ 4 _ rfl; (with_reducible repeat (first | refine blk_drewN ?_ _ | refine blk_drew ?_ | refine blk_alloc ?_ _)); refine blk_put (cs := #[.int .i64 t270, .int .i64 t271, .int .i64 t272, .int .i64 0, .bool false]) ?_ 3 _ rfl; (with_reducible repeat (first | refine blk_drewN ?_ _ | refine blk_drew ?_ | refine blk_alloc ?_ _)); refine blk_put (cs := #[.int .i64 t270, .int .i64 t271, .int .i64 0, .int .i64 0, .bool false]) ?_ 2 _ rfl; (with_reducible repeat (first | refine blk_drewN ?_ _ | refine blk_drew ?_ | refine blk_alloc ?_ _)); refine blk_put (cs := #[.int .i64 t270, .int .i64 0, .int .i64 0, .int .i64 0, .bool false]) ?_ 1 _ rfl; (with_reducible repeat (first | refine blk_drewN ?_ _ | refine blk_drew ?_ | refine blk_alloc ?_ _)); refine blk_put (cs := #[.int .i64 0, .int .i64 0, .int .i64 0, .int .i64 0, .bool false]) ?_ 0 _ rfl; (with_reducible repeat (first | refine blk_drewN ?_ _ | refine blk_drew ?_ | refine blk_alloc ?_ _)); exact BK276.out) hg (Kd.R_ne HO_4.out BK276.out (by decide))); have n5_ := Aside0.mk (hb); have n6_ := Aside0.mk (ho); clear HO_0; clear BK235; clear BK242; clear HO269; clear BK276; clear HB; clear HO_4; have HO_0 := n0_; have BK235 := n1_; have BK242 := n2_; have HO269 := n3_; have BK276 := n4_; have HB := n5_; have HO279 := n6_; clear n0_ n1_ n2_ n3_ n4_ n5_ n6_; clear ho hb hg hat))
                                  go_roundg kj8
                                  case measure => have := HK1.out; have := HJ8.out; omega
                                  case rel => exact ⟨(y265), (y277), H', ⟨by have := HK1.out; have := HJ8.out; omega⟩, ⟨by (with_reducible repeat (first | apply Kd.V_alloc | apply Kd.V_drewN | apply Kd.V_drew)); exact Kd.V_mono HO269.out (fun _ hk => ⟨hk.1.1, hk.2⟩)⟩, ⟨by (with_reducible repeat (first | apply Kd.R_alloc | apply Kd.R_drewN | apply Kd.R_drew)); exact Kd.R_mono HO279.out (fun _ hk => hk.1)⟩, ⟨by repeat (first | (with_reducible first | exact HB.out | apply below_alloc | apply pw_below_drewN | apply below_drew1 | refine below_set ?_ GE235.out | refine below_set ?_ GE242.out | refine below_set ?_ GE276.out) | exact HB.out)⟩⟩
                                · rw [if_neg c63] at H
                                  exact absurd H (by simp)
                              · replace c62 := Bool.eq_false_iff.mpr c62
                                subst c62
                                have H1 : (some (([] : List (S41)), 12)) = some (r1, r2) := by rw [if_neg (show ¬ (false = true) by decide)] at H; exact H
                                clear H
                                have H := H1
                                clear H1
                                simp only [Option.some.injEq, Prod.mk.injEq] at H
                                obtain ⟨rfl, rfl⟩ := H
                                try go_wp2
                                have n0_ := Aside0.mk (Kd.V_drew HO_0.out)
                                have n1_ := Aside0.mk (Kd.R_drew HO_4.out)
                                have n2_ := Aside0.mk (blk_drew BK235.out)
                                have n3_ := Aside0.mk (blk_drew BK242.out)
                                have n4_ := Aside0.mk (below_drew1 HB.out)
                                clear HO_0
                                clear HO_4
                                clear BK235
                                clear BK242
                                clear HB
                                have HO_0 := n0_
                                have HO_4 := n1_
                                have BK235 := n2_
                                have BK242 := n3_
                                have HB := n4_
                                clear n0_ n1_ n2_ n3_ n4_
                                have p248 : 0 ≤ (0 : Int) := (by omega)
                                have q248 : 0 < (y243.length : Int) := of_decide_eq_true (by first | (with_reducible assumption) | assumption)
                                obtain ⟨ad248, e248, hx248_0⟩ := Kd.at_int (Kd.V_reads' HO_0.out).2.2 0 p248 q248
                                cases e248
                                have qi248 : (0 < y243.length) = True := eq_true (by omega)
                                (try rw [show ((0 : Int)).toNat = 0 from rfl] at hx248_0)
                                (try rw [Addr.add_zero'] at hx248_0)
                                replace p248 := eq_true p248
                                replace q248 := eq_true q248
                                have p249 : 0 ≤ (1 : Int) := (by omega)
                                have q249 : 1 < (y243.length : Int) := of_decide_eq_true (by first | (with_reducible assumption) | assumption)
                                obtain ⟨ad249, e249, hx249_0⟩ := Kd.at_int (Kd.V_reads' HO_0.out).2.2 1 p249 q249
                                obtain rfl : ad248 = ad249 := (by injection e249)
                                (try simp only [show (1 : Int).toNat = 1 from rfl, Nat.reduceMul, Nat.reduceEqDiff, Go.Addr.add, ↓reduceIte] at hx249_0)
                                have qi249 : (1 < y243.length) = True := eq_true (by omega)
                                (try rw [show ((1 : Int)).toNat = 1 from rfl] at hx249_0)
                                replace p249 := eq_true p249
                                replace q249 := eq_true q249
                                refine start_ (n := 12) (S := fun w' => w'.cell? ad248 = some (.int .u8 (rd y243 0)) ∧ w'.cell? ⟨ad248.block, ad248.off + 1, none⟩ = some (.int .u8 (rd y243 1))) (ds := []) #[false, false, false, false, false, false, false, false, false, false, false, false] (by kernel_rfl) rfl rfl ⟨hx248_0, hx249_0⟩ (fun hHeld => ?_); refine with_tabW code_Decode.tab11 code_Decode.bits11 (fun HT_ HW_ => ?_)
                                generalize wc.drew = w77 at HO_0 HO_4 BK235 BK242 HB hx248_0 hx249_0 hHeld ⊢
                                refine pure_ (i := 0) (N := some 36) (v := ?_) (a' := ?_) #[true, false, false, false, false, false, false, false, false, false, false, false] rfl rfl (any_of HT_.out (by kernel_rfl)) (fun _ _ _ h => h) (Or.inl ⟨by rfl, ?_⟩) ?_ ?_
                                rotate_left
                                · intro w'
                                  go_simp
                                  with_reducible rfl
                                rotate_left
                                · simp only [Act.put, List.setIfInBounds_toArray, List.set_cons_zero, List.set_cons_succ, i64_w, i32_w]
                                  rfl
                                refine pure_ (i := 1) (N := some 37) (v := ?_) (a' := ?_) #[true, true, false, false, false, false, false, false, false, false, false, false] rfl rfl (any_of HT_.out (by kernel_rfl)) (fun _ _ _ h => h) (Or.inl ⟨by rfl, ?_⟩) ?_ ?_
                                rotate_left
                                · intro w'
                                  go_simp
                                  with_reducible rfl
                                rotate_left
                                · simp only [Act.put, List.setIfInBounds_toArray, List.set_cons_zero, List.set_cons_succ, i64_w, i32_w]
                                  rfl
                                refine pure_ (i := 5) (N := some 41) (v := ?_) (a' := ?_) #[true, true, false, false, false, true, false, false, false, false, false, false] rfl rfl (any_of HT_.out (by kernel_rfl)) (fun _ _ _ h => h) (Or.inl ⟨by rfl, ?_⟩) ?_ ?_
                                rotate_left
                                · intro w'
                                  go_simp
                                  with_reducible rfl
                                rotate_left
                                · simp only [Act.put, List.setIfInBounds_toArray, List.set_cons_zero, List.set_cons_succ, i64_w, i32_w]
                                  rfl
                                refine pure_ (i := 6) (N := some 42) (v := ?_) (a' := ?_) #[true, true, false, false, false, true, true, false, false, false, false, false] rfl rfl (any_of HT_.out (by kernel_rfl)) (fun _ _ _ h => h) (Or.inl ⟨by rfl, ?_⟩) ?_ ?_
                                rotate_left
                                · intro w'
                                  go_simp
                                  with_reducible rfl
                                rotate_left
                                · simp only [Act.put, List.setIfInBounds_toArray, List.set_cons_zero, List.set_cons_succ, i64_w, i32_w]
                                  rfl
                                refine take_ (i := 2) (N := some 38) (v := ?_) (a' := ?_) #[true, true, true, false, false, true, true, false, false, false, false, false] rfl rfl (take_ofW HT_.out HW_.out (by kernel_rfl)) (fun _ _ _ h => h) (Or.inl ⟨by rfl, ?_⟩) hHeld ?_ ?_
                                rotate_left
                                · rintro w' ⟨s0, s1⟩
                                  go_simp
                                  with_reducible rfl
                                rotate_left
                                · simp only [Act.put, List.setIfInBounds_toArray, List.set_cons_zero, List.set_cons_succ, i64_w, i32_w]
                                  rfl
                                refine pure_ (i := 3) (N := some 39) (v := ?_) (a' := ?_) #[true, true, true, true, false, true, true, false, false, false, false, false] rfl rfl (any_of HT_.out (by kernel_rfl)) (fun _ _ _ h => h) (Or.inl ⟨by rfl, ?_⟩) ?_ ?_
                                rotate_left
                                · intro w'
                                  go_simp
                                  with_reducible rfl
                                rotate_left
                                · simp only [Act.put, List.setIfInBounds_toArray, List.set_cons_zero, List.set_cons_succ, i64_w, i32_w]
                                  rfl
                                refine pure_ (i := 4) (N := some 40) (v := ?_) (a' := ?_) #[true, true, true, true, true, true, true, false, false, false, false, false] rfl rfl (any_of HT_.out (by kernel_rfl)) (fun _ _ _ h => h) (Or.inl ⟨by rfl, ?_⟩) ?_ ?_
                                rotate_left
                                · intro w'
                                  go_simp
                                  with_reducible rfl
                                rotate_left
                                · simp only [Act.put, List.setIfInBounds_toArray, List.set_cons_zero, List.set_cons_succ, i64_w, i32_w]
                                  rfl
                                refine take_ (i := 7) (N := some 43) (v := ?_) (a' := ?_) #[true, true, true, true, true, true, true, true, false, false, false, false] rfl rfl (take_ofW HT_.out HW_.out (by kernel_rfl)) (fun _ _ _ h => h) (Or.inl ⟨by rfl, ?_⟩) hHeld ?_ ?_
                                rotate_left
                                · rintro w' ⟨s0, s1⟩
                                  go_simp
                                  with_reducible rfl
                                rotate_left
                                · simp only [Act.put, List.setIfInBounds_toArray, List.set_cons_zero, List.set_cons_succ, i64_w, i32_w]
                                  rfl
                                refine pure_ (i := 8) (N := some 44) (v := ?_) (a' := ?_) #[true, true, true, true, true, true, true, true, true, false, false, false] rfl rfl (any_of HT_.out (by kernel_rfl)) (fun _ _ _ h => h) (Or.inl ⟨by rfl, ?_⟩) ?_ ?_
                                rotate_left
                                · intro w'
                                  go_simp
                                  with_reducible rfl
                                rotate_left
                                · simp only [Act.put, List.setIfInBounds_toArray, List.set_cons_zero, List.set_cons_succ, i64_w, i32_w]
                                  rfl
                                refine pure_ (i := 9) (N := some 45) (v := ?_) (a' := ?_) #[true, true, true, true, true, true, true, true, true, true, false, false] rfl rfl (any_of HT_.out (by kernel_rfl)) (fun _ _ _ h => h) (Or.inl ⟨by rfl, ?_⟩) ?_ ?_
                                rotate_left
                                · intro w'
                                  go_simp
                                  with_reducible rfl
                                rotate_left
                                · simp only [Act.put, List.setIfInBounds_toArray, List.set_cons_zero, List.set_cons_succ, i64_w, i32_w]
                                  rfl
                                refine pure_ (i := 10) (N := some 46) (v := ?_) (a' := ?_) #[true, true, true, true, true, true, true, true, true, true, true, false] rfl rfl (any_of HT_.out (by kernel_rfl)) (fun _ _ _ h => h) (Or.inl ⟨by rfl, ?_⟩) ?_ ?_
                                rotate_left
                                · intro w'
                                  go_simp
                                  with_reducible rfl
                                rotate_left
                                · simp only [Act.put, List.setIfInBounds_toArray, List.set_cons_zero, List.set_cons_succ, i64_w, i32_w]
                                  rfl
                                refine one_ (i := 11) (N := none) #[true, true, true, true, true, true, true, true, true, true, true, true] rfl rfl (one_of HT_.out (by kernel_rfl)) (by decide) (fun K hK => ?_)
                                have hs78 : w77.cell? ⟨gb235, 1, none⟩ = some (.int .i64 0) := (blk_cell BK235.out 1).trans rfl
                                have hfs78 := blk_frozen BK235.out 1
                                have hns78_1 := NB242_235.out
                                have hms78_1 := NB235_242.out
                                refine skip_ (w1 := ?_) (by rfl) rfl ?_ ?_
                                rotate_left
                                · go_simp
                                  rfl
                                refine hK.out _ _ ⟨((cell_far (p := ⟨gb235, _, none⟩) (by first | exact Kd.own_blk (Kd.V_away HO_0.out (fun _ hk => hk.2.2.1)) | (rw [add_block]; exact Kd.own_blk (Kd.V_away HO_0.out (fun _ hk => hk.2.2.1))) | (show (Addr.add _ _).block ≠ _; rw [add_block]; exact Kd.own_blk (Kd.V_away HO_0.out (fun _ hk => hk.2.2.1))) | (dsimp only; exact Kd.own_blk (Kd.V_away HO_0.out (fun _ hk => hk.2.2.1)))) _).trans (hHeld.1)), ((cell_far (p := ⟨gb235, _, none⟩) (by first | exact Kd.own_blk (Kd.V_away HO_0.out (fun _ hk => hk.2.2.1)) | (rw [add_block]; exact Kd.own_blk (Kd.V_away HO_0.out (fun _ hk => hk.2.2.1))) | (show (Addr.add _ _).block ≠ _; rw [add_block]; exact Kd.own_blk (Kd.V_away HO_0.out (fun _ hk => hk.2.2.1))) | (dsimp only; exact Kd.own_blk (Kd.V_away HO_0.out (fun _ hk => hk.2.2.1)))) _).trans (hHeld.2))⟩ (fun hHeld => ?_)
                                clear hK K
                                refine done_ (done_of HT_.out (by kernel_rfl)) ?_
                                have n0_ : Aside0 (Kd.V (Kd.int .u8) 5 (w77.setCell ⟨gb235, 1, none⟩ (.int .i64 (Go.bits .or .i64 (wrap64 ((wrap64 (rd y243 0)) * 256)) (wrap64 (rd y243 1))))) w.heap.size (fun k_ => (P0_ k_ ∨ w.heap.size ≤ k_) ∧ some k_ ≠ (.slice Ao11 x4_1.length co11 : Value).ownBlock ∧ k_ ≠ gb235 ∧ k_ ≠ gb242) (.slice (some ad248) y243.length c19) y243) := ⟨by (with_reducible repeat (first | apply Kd.V_alloc | apply Kd.V_drewN | apply Kd.V_drew)); exact Kd.V_mono (Kd.V_far (p := ⟨gb235, 1, none⟩) (Kd.V_mono HO_0.out (fun k_ hk => (⟨hk, hk.2.2.1⟩ : _ ∧ k_ ≠ gb235))) (fun _ hk => hk.2) (.int .i64 (Go.bits .or .i64 (wrap64 ((wrap64 (rd y243 0)) * 256)) (wrap64 (rd y243 1))))) (fun _ hk => ⟨hk.1.1, ⟨hk.1.2.1, ⟨hk.1.2.2.1, hk.1.2.2.2⟩⟩⟩)⟩
                                have n1_ : Aside0 (Kd.R k41 41 (w77.setCell ⟨gb235, 1, none⟩ (.int .i64 (Go.bits .or .i64 (wrap64 ((wrap64 (rd y243 0)) * 256)) (wrap64 (rd y243 1))))) w.heap.size (fun k_ => (w.heap.size ≤ k_) ∧ k_ ≠ gb235) (.slice Ao11 x4_1.length co11) x4_1) := ⟨by (with_reducible repeat (first | apply Kd.R_alloc | apply Kd.R_drewN | apply Kd.R_drew)); exact Kd.R_mono (Kd.R_far (p := ⟨gb235, 1, none⟩) (Kd.R_mono HO_4.out (fun k_ hk => (⟨hk, hk.2⟩ : _ ∧ k_ ≠ gb235))) (fun _ hk => hk.2) (.int .i64 (Go.bits .or .i64 (wrap64 ((wrap64 (rd y243 0)) * 256)) (wrap64 (rd y243 1))))) (fun _ hk => ⟨hk.1.1, hk.1.2⟩)⟩
                                have n2_ : Aside0 ((w77.setCell ⟨gb235, 1, none⟩ (.int .i64 (Go.bits .or .i64 (wrap64 ((wrap64 (rd y243 0)) * 256)) (wrap64 (rd y243 1))))).heap[gb235]? = some (.cells #[.int .i64 (wrap64 (rd x0_1 0)), .int .i64 (Go.bits .or .i64 (wrap64 ((wrap64 (rd y243 0)) * 256)) (wrap64 (rd y243 1)))] 41 (0, 0))) := ⟨by (with_reducible repeat (first | refine blk_drewN ?_ _ | refine blk_drew ?_ | refine blk_alloc ?_ _)); refine blk_put (cs := #[.int .i64 (wrap64 (rd x0_1 0)), .int .i64 0]) ?_ 1 _ rfl; (with_reducible repeat (first | refine blk_drewN ?_ _ | refine blk_drew ?_ | refine blk_alloc ?_ _)); exact BK235.out⟩
                                have n3_ : Aside0 ((w77.setCell ⟨gb235, 1, none⟩ (.int .i64 (Go.bits .or .i64 (wrap64 ((wrap64 (rd y243 0)) * 256)) (wrap64 (rd y243 1))))).heap[gb242]? = some (.cells #[.int .i64 t236, .int .i64 t237, .int .i64 t238, .int .i64 t239, .bool t240] 56 (0, 0))) := ⟨by (with_reducible repeat (first | refine blk_drewN ?_ _ | refine blk_drew ?_ | refine blk_alloc ?_ _)); refine blk_far ?_ NB242_235.out _; (with_reducible repeat (first | refine blk_drewN ?_ _ | refine blk_drew ?_ | refine blk_alloc ?_ _)); exact BK242.out⟩
                                have n4_ : Aside0 (Below w.heap.size w (w77.setCell ⟨gb235, 1, none⟩ (.int .i64 (Go.bits .or .i64 (wrap64 ((wrap64 (rd y243 0)) * 256)) (wrap64 (rd y243 1)))))) := ⟨by repeat (first | (with_reducible first | exact HB.out | apply below_alloc | apply pw_below_drewN | apply below_drew1 | refine below_set ?_ GE235.out | refine below_set ?_ GE242.out) | exact HB.out)⟩
                                (try clear HO_0)
                                (try clear HO_4)
                                (try clear BK235)
                                (try clear BK242)
                                (try clear HB)
                                generalize (w77.setCell ⟨gb235, 1, none⟩ (.int .i64 (Go.bits .or .i64 (wrap64 ((wrap64 (rd y243 0)) * 256)) (wrap64 (rd y243 1))))) = w79 at n0_ n1_ n2_ n3_ n4_ ⊢
                                have HO_0 := n0_
                                have HO_4 := n1_
                                have BK235 := n2_
                                have BK242 := n3_
                                have HB := n4_
                                clear n0_ n1_ n2_ n3_ n4_
                                have hnb80 := NB235_242.out
                                have hnc80 := NB242_235.out
                                have hcz81_0 : w79.cell? ⟨gb235, 0, none⟩ = some (.int .i64 (wrap64 (rd x0_1 0))) := (blk_cell BK235.out 0).trans rfl
                                have hcz81_1 : w79.cell? ⟨gb235, 1, none⟩ = some (.int .i64 (Go.bits .or .i64 (wrap64 ((wrap64 (rd y243 0)) * 256)) (wrap64 (rd y243 1)))) := (blk_cell BK235.out 1).trans rfl
                                have hfz81_0 := blk_frozen BK235.out 0
                                have hfz81_1 := blk_frozen BK235.out 1
                                have q82 : (2 : Int) ≤ ((y243.length : Int) : Int) := of_decide_eq_true (by first | (with_reducible assumption) | assumption)
                                obtain ⟨i082, hi082, _, hsz82, _⟩ := info_parts info5
                                have hroom82 : y243.length ≤ c19 := (Kd.V_reads' HO_0.out).2.1
                                have hC82 : Kd.F (Kd.int .u8) _ _ (some ad248) y243.length y243 := (Kd.V_at (base := w.heap.size) HO_0.out).2.2
                                have hcut82 := cut_from (P := Try.prog) 43 5 .i64 Try.underlying43 hi082 1 hsz82 (some ad248) y243.length c19 2 (by omega) q82
                                have hr82 := Kd.F_cut (m := (2 : Int).toNat) (c := c19) hC82 (by omega) hroom82
                                obtain ⟨A82, hA82⟩ : ∃ A1, A1 = (if c19 = (2 : Int).toNat then (some ad248) else ((some ad248) : Option Addr).map (·.add ((2 : Int).toNat * 1))) := ⟨_, rfl⟩
                                obtain ⟨c82, hc82⟩ : ∃ c1, c1 = c19 - (2 : Int).toNat := ⟨_, rfl⟩
                                have hy82 : y265.length = y243.length - (2 : Int).toNat := (by rw [Ny265.out, List.length_drop] <;> omega)
                                rw [show (y243).drop (2 : Int).toNat = y265 from Ny265.out.symm] at hr82
                                replace hr82 : Kd.F (Kd.int .u8) _ _ A82 y265.length y265 := (by rw [hA82]; exact hr82)
                                rw [← hy82, ← hA82, ← hc82] at hcut82
                                have HO269 := Aside0.mk (show Kd.V (Kd.int .u8) 5 _ w.heap.size _ (.slice A82 y265.length c82) y265 from Kd.V_mk (by rw [hy82, hc82]; exact Nat.sub_le_sub_right hroom82 _) hr82)
                                have HC269 := Aside0.mk (show y265.length ≤ c82 from by rw [hy82, hc82]; exact Nat.sub_le_sub_right hroom82 _)
                                clear hr82 hC82 hroom82 hi082 hsz82 hc82
                                have KY82 := Aside0.mk hy82
                                have KA82 := Aside0.mk hA82
                                clear hy82 hA82
                                replace q82 := eq_true q82
                                try go_wp2_with (first | ((with_reducible refine gate_callee (f := 25) rfl ?_); refine goesL_ (some 59) rfl rfl Try.func25 (by kernel_rfl) rfl #[.agg #[.int .i64 (wrap64 (rd x0_1 0)), .int .i64 (Go.bits .or .i64 (wrap64 ((wrap64 (rd y243 0)) * 256)) (wrap64 (rd y243 1)))]] rfl (by (try simp only [List.map_toArray, List.map_cons, List.map_nil]); first | done | rfl | (simp only [List.length_drop, List.length_take]; rfl)) ?_; (with_reducible refine (code_may.calls (wrap64 (rd x0_1 0)) (Go.bits .or .i64 (wrap64 ((wrap64 (rd y243 0)) * 256)) (wrap64 (rd y243 1))) t270 t271 t272 t273 t274 false _ A61.out).mono ?_); rintro e w83 ⟨rfl, hb⟩; refine ⟨_, rfl, ?_⟩; have n0_ := Aside0.mk (Kd.V_below (by (with_reducible repeat (first | apply Kd.V_alloc | apply Kd.V_drewN | apply Kd.V_drew)); exact HO_0.out) hb); have n1_ := Aside0.mk (Kd.R_below (by (with_reducible repeat (first | apply Kd.R_alloc | apply Kd.R_drewN | apply Kd.R_drew)); exact HO_4.out) hb); have n2_ := Aside0.mk (Kd.V_below (by (with_reducible repeat (first | apply Kd.V_alloc | apply Kd.V_drewN | apply Kd.V_drew)); exact HO269.out) hb); have n3_ := Aside0.mk (blk_below (g := gb235) (o := .cells #[.int .i64 (wrap64 (rd x0_1 0)), .int .i64 (Go.bits .or .i64 (wrap64 ((wrap64 (rd y243 0)) * 256)) (wrap64 (rd y243 1)))] 41 (0, 0)) (by (with_reducible repeat (first | refine blk_drewN ?_ _ | refine blk_drew ?_ | refine blk_alloc ?_ _)); exact BK235.out) hb); have n4_ := Aside0.mk (blk_below (g := gb242) (o := .cells #[.int .i64 t236, .int .i64 t237, .int .i64 t238, .int .i64 t239, .bool t240] 56 (0, 0)) (by (with_reducible repeat (first | refine blk_drewN ?_ _ | refine blk_drew ?_ | refine blk_alloc ?_ _)); exact BK242.out) hb); have n5_ := Aside0.mk (below_step (by repeat (first | (with_reducible first | exact HB.out | apply below_alloc | apply pw_below_drewN | apply below_drew1 | refine below_set ?_ GE235.out | refine below_set ?_ GE242.out) | exact HB.out)) hb); clear HO_0; clear HO_4; clear HO269; clear BK235; clear BK242; clear HB; have HO_0 := n0_; have HO_4 := n1_; have HO269 := n2_; have BK235 := n3_; have BK242 := n4_; have HB := n5_; clear n0_ n1_ n2_ n3_ n4_ n5_; (try clear hb); (try clear hb2); (try clear hk); (try clear hi)) | ((with_reducible refine gate_dst (N := 8) rfl ?_); refine box_event ?hg (N := 8) ?hd (cs := #[.int .i64 0, .int .i64 0, .int .i64 0, .int .i64 0, .bool false]) (t := 56) ?hr ?_; (case hd => rfl); (case hg => rfl); (case hr => first | (go_simp; done) | (go_simp; rfl)); intro gb276 hg w84 hbox hb; have n0_ := Aside0.mk (Kd.V_below (Kd.V_elderB (by (with_reducible repeat (first | apply Kd.V_alloc | apply Kd.V_drewN | apply Kd.V_drew)); exact HO_0.out) gb276 (Nat.le_of_eq hg.symm)) hb); have n1_ := Aside0.mk (Kd.R_below (by (with_reducible repeat (first | apply Kd.R_alloc | apply Kd.R_drewN | apply Kd.R_drew)); exact HO_4.out) hb); have n2_ := Aside0.mk (Kd.V_below (Kd.V_elderB (by (with_reducible repeat (first | apply Kd.V_alloc | apply Kd.V_drewN | apply Kd.V_drew)); exact HO269.out) gb276 (Nat.le_of_eq hg.symm)) hb); have n3_ := Aside0.mk (blk_below (g := gb235) (o := .cells #[.int .i64 (wrap64 (rd x0_1 0)), .int .i64 (Go.bits .or .i64 (wrap64 ((wrap64 (rd y243 0)) * 256)) (wrap64 (rd y243 1)))] 41 (0, 0)) (by (with_reducible repeat (first | refine blk_drewN ?_ _ | refine blk_drew ?_ | refine blk_alloc ?_ _)); exact BK235.out) hb); have n4_ := Aside0.mk (blk_below (g := gb242) (o := .cells #[.int .i64 t236, .int .i64 t237, .int .i64 t238, .int .i64 t239, .bool t240] 56 (0, 0)) (by (with_reducible repeat (first | refine blk_drewN ?_ _ | refine blk_drew ?_ | refine blk_alloc ?_ _)); exact BK242.out) hb); have n5_ := Aside0.mk (below_step (by repeat (first | (with_reducible first | exact HB.out | apply below_alloc | apply pw_below_drewN | apply below_drew1 | refine below_set ?_ GE235.out | refine below_set ?_ GE242.out) | exact HB.out)) hb); have n6_ := Aside0.mk (hbox); have n7_ := Aside0.mk ((by rw [hg]; exact (below_size (by repeat (first | (with_reducible first | exact HB.out | apply below_alloc | apply pw_below_drewN | apply below_drew1 | refine below_set ?_ GE235.out | refine below_set ?_ GE242.out) | exact HB.out))) : w.heap.size ≤ gb276)); have n8_ := Aside0.mk ((by rw [hg]; exact (below_size (by repeat (first | (with_reducible first | exact HB.out | apply below_alloc | apply pw_below_drewN | apply below_drew1 | refine below_set ?_ GE235.out | refine below_set ?_ GE242.out) | exact HB.out))) : w.heap.size ≤ gb276)); have n9_ := Aside0.mk ((by rw [hg]; exact Nat.ne_of_lt (blk_lt (g := gb235) (o := .cells #[.int .i64 (wrap64 (rd x0_1 0)), .int .i64 (Go.bits .or .i64 (wrap64 ((wrap64 (rd y243 0)) * 256)) (wrap64 (rd y243 1)))] 41 (0, 0)) (by (with_reducible repeat (first | refine blk_drewN ?_ _ | refine blk_drew ?_ | refine blk_alloc ?_ _)); exact BK235.out)) : gb235 ≠ gb276)); have n10_ := Aside0.mk ((by rw [hg]; exact Nat.ne_of_gt (blk_lt (g := gb235) (o := .cells #[.int .i64 (wrap64 (rd x0_1 0)), .int .i64 (Go.bits .or .i64 (wrap64 ((wrap64 (rd y243 0)) * 256)) (wrap64 (rd y243 1)))] 41 (0, 0)) (by (with_reducible repeat (first | refine blk_drewN ?_ _ | refine blk_drew ?_ | refine blk_alloc ?_ _)); exact BK235.out)) : gb276 ≠ gb235)); have n11_ := Aside0.mk ((by rw [hg]; exact Nat.ne_of_lt (blk_lt (g := gb242) (o := .cells #[.int .i64 t236, .int .i64 t237, .int .i64 t238, .int .i64 t239, .bool t240] 56 (0, 0)) (by (with_reducible repeat (first | refine blk_drewN ?_ _ | refine blk_drew ?_ | refine blk_alloc ?_ _)); exact BK242.out)) : gb242 ≠ gb276)); have n12_ := Aside0.mk ((by rw [hg]; exact Nat.ne_of_gt (blk_lt (g := gb242) (o := .cells #[.int .i64 t236, .int .i64 t237, .int .i64 t238, .int .i64 t239, .bool t240] 56 (0, 0)) (by (with_reducible repeat (first | refine blk_drewN ?_ _ | refine blk_drew ?_ | refine blk_alloc ?_ _)); exact BK242.out)) : gb276 ≠ gb242)); clear HO_0; clear HO_4; clear HO269; clear BK235; clear BK242; clear HB; have HO_0 := n0_; have HO_4 := n1_; have HO269 := n2_; have BK235 := n3_; have BK242 := n4_; have HB := n5_; have BK276 := n6_; have GW276 := n7_; have GE276 := n8_; have NB235_276 := n9_; have NB276_235 := n10_; have NB242_276 := n11_; have NB276_242 := n12_; clear n0_ n1_ n2_ n3_ n4_ n5_ n6_ n7_ n8_ n9_ n10_ n11_ n12_; clear hb hbox hg; have hnb85 := NB276_235.out; have hnc85 := NB235_276.out; have hnb86 := NB276_242.out; have hnc86 := NB242_276.out; have hcz87_0 : w84.cell? ⟨gb276, 0, none⟩ = some (.int .i64 0) := (blk_cell BK276.out 0).trans rfl; have hcz87_1 : w84.cell? ⟨gb276, 1, none⟩ = some (.int .i64 0) := (blk_cell BK276.out 1).trans rfl; have hcz87_2 : w84.cell? ⟨gb276, 2, none⟩ = some (.int .i64 0) := (blk_cell BK276.out 2).trans rfl; have hcz87_3 : w84.cell? ⟨gb276, 3, none⟩ = some (.int .i64 0) := (blk_cell BK276.out 3).trans rfl; have hcz87_4 : w84.cell? ⟨gb276, 4, none⟩ = some (.bool false) := (blk_cell BK276.out 4).trans rfl; have hfz87_0 := blk_frozen BK276.out 0; have hfz87_1 := blk_frozen BK276.out 1; have hfz87_2 := blk_frozen BK276.out 2; have hfz87_3 := blk_frozen BK276.out 3; have hfz87_4 := blk_frozen BK276.out 4))
                                go_ret2
                                exact ⟨_, by first | rfl | (simp [errW_none, errW_some] <;> rfl) | (simp [*, errW_none, errW_some] <;> rfl), by first | exact Kd.R_nil _ _ _ _ _ | exact Kd.N_nil _ _ _ _ _ | exact Kd.V_nil _ _ _ _ _ | exact Kd.Q_nil _ _ _ _ _ | exact Kd.S_nil _ _ _ _ _, by repeat (first | (with_reducible first | exact HB.out | apply below_alloc | apply pw_below_drewN | apply below_drew1 | refine below_set ?_ GE235.out | refine below_set ?_ GE242.out | refine below_set ?_ GE276.out) | exact HB.out)⟩
                            · rw [if_neg c60] at H
                              exact absurd H (by simp)
                        · rw [if_neg c26] at H
                          exact absurd H (by simp)
                      · rw [if_neg c25] at H
                        exact absurd H (by simp)
                  · replace c23 := Bool.eq_false_iff.mpr c23
                    subst c23
                    have H1 : ((code_may.f (wrap64 (rd x0_1 0)) 0).bind fun bt280 => (if bt280.2.2.2.2.2 = true then (if x4_1.length < 8796093022208 then (code_Decode.l0 kj8 y243 (x4_1 ++ [(⟨(wrap64 (rd x0_1 0)), 0⟩ : S41)])) else (none)) else (some (([] : List (S41)), 12)))) = some (r1, r2) := by rw [if_neg (show ¬ (false = true) by decide)] at H; exact H
                    clear H
                    have H := H1
                    clear H1
                    replace H := Option.bind_eq_some_iff.mp H
                    obtain ⟨⟨t280, t281, t282, t283, t284, t285⟩, A880, H⟩ := H
                    replace H : (if t285 = true then (if x4_1.length < 8796093022208 then (code_Decode.l0 kj8 y243 (x4_1 ++ [(⟨(wrap64 (rd x0_1 0)), 0⟩ : S41)])) else (none)) else (some (([] : List (S41)), 12))) = some (r1, r2) := H
                    have A88 := Aside0.mk A880
                    clear A880
                    by_cases c89 : t285 = true
                    · subst c89
                      have H1 : (if x4_1.length < 8796093022208 then (code_Decode.l0 kj8 y243 (x4_1 ++ [(⟨(wrap64 (rd x0_1 0)), 0⟩ : S41)])) else (none)) = some (r1, r2) := by rw [if_pos rfl] at H; exact H
                      clear H
                      have H := H1
                      clear H1
                      by_cases c90 : x4_1.length < 8796093022208
                      · rw [if_pos c90] at H
                        have LMc90 := Aside0.mk c90
                        clear c90
                        obtain ⟨y287, hy287⟩ : ∃ y_ : List (S41), y_ = (x4_1 ++ [(⟨(wrap64 (rd x0_1 0)), 0⟩ : S41)]) := ⟨_, rfl⟩
                        replace H : (code_Decode.l0 kj8 y243 y287) = some (r1, r2) := by first | (rw [hy287]; with_reducible exact H) | (have H2_ := (Option.bind_some _ _).symm.trans H; rw [hy287]; with_reducible exact H2_) | (have H2_ := (Option.bind_some _ _).symm.trans H; with_reducible exact H2_) | with_reducible exact H | (rw [hy287]; exact H) | exact H
                        have Ny287 := Aside0.mk hy287
                        clear hy287
                        have H' := Aside0.mk H
                        clear H
                        have hnb91 := NB235_242.out
                        have hnc91 := NB242_235.out
                        have hcz92_0 : wc.cell? ⟨gb235, 0, none⟩ = some (.int .i64 (wrap64 (rd x0_1 0))) := (blk_cell BK235.out 0).trans rfl
                        have hcz92_1 : wc.cell? ⟨gb235, 1, none⟩ = some (.int .i64 0) := (blk_cell BK235.out 1).trans rfl
                        have hfz92_0 := blk_frozen BK235.out 0
                        have hfz92_1 := blk_frozen BK235.out 1
                        go_wp2_with (first | ((with_reducible refine gate_callee (f := 25) rfl ?_); refine goesL_ (some 59) rfl rfl Try.func25 (by kernel_rfl) rfl #[.agg #[.int .i64 (wrap64 (rd x0_1 0)), .int .i64 0]] rfl (by (try simp only [List.map_toArray, List.map_cons, List.map_nil]); first | done | rfl | (simp only [List.length_drop, List.length_take]; rfl)) ?_; (with_reducible refine (code_may.calls (wrap64 (rd x0_1 0)) 0 t280 t281 t282 t283 t284 true _ A88.out).mono ?_); rintro e w93 ⟨rfl, hb⟩; refine ⟨_, rfl, ?_⟩; have n0_ := Aside0.mk (Kd.V_below (by (with_reducible repeat (first | apply Kd.V_alloc | apply Kd.V_drewN | apply Kd.V_drew)); exact HO_0.out) hb); have n1_ := Aside0.mk (Kd.R_below (by (with_reducible repeat (first | apply Kd.R_alloc | apply Kd.R_drewN | apply Kd.R_drew)); exact HO_4.out) hb); have n2_ := Aside0.mk (blk_below (g := gb235) (o := .cells #[.int .i64 (wrap64 (rd x0_1 0)), .int .i64 0] 41 (0, 0)) (by (with_reducible repeat (first | refine blk_drewN ?_ _ | refine blk_drew ?_ | refine blk_alloc ?_ _)); exact BK235.out) hb); have n3_ := Aside0.mk (blk_below (g := gb242) (o := .cells #[.int .i64 t236, .int .i64 t237, .int .i64 t238, .int .i64 t239, .bool t240] 56 (0, 0)) (by (with_reducible repeat (first | refine blk_drewN ?_ _ | refine blk_drew ?_ | refine blk_alloc ?_ _)); exact BK242.out) hb); have n4_ := Aside0.mk (below_step (by repeat (first | (with_reducible first | exact HB.out | apply below_alloc | apply pw_below_drewN | apply below_drew1 | refine below_set ?_ GE235.out | refine below_set ?_ GE242.out) | exact HB.out)) hb); clear HO_0; clear HO_4; clear BK235; clear BK242; clear HB; have HO_0 := n0_; have HO_4 := n1_; have BK235 := n2_; have BK242 := n3_; have HB := n4_; clear n0_ n1_ n2_ n3_ n4_; (try clear hb); (try clear hb2); (try clear hk); (try clear hi)) | ((with_reducible refine gate_dst (N := 8) rfl ?_); refine box_event ?hg (N := 8) ?hd (cs := #[.int .i64 0, .int .i64 0, .int .i64 0, .int .i64 0, .bool false]) (t := 56) ?hr ?_; (case hd => rfl); (case hg => rfl); (case hr => first | (go_simp; done) | (go_simp; rfl)); intro gb286 hg w94 hbox hb; have n0_ := Aside0.mk (Kd.V_below (Kd.V_elderB (by (with_reducible repeat (first | apply Kd.V_alloc | apply Kd.V_drewN | apply Kd.V_drew)); exact HO_0.out) gb286 (Nat.le_of_eq hg.symm)) hb); have n1_ := Aside0.mk (Kd.R_below (by (with_reducible repeat (first | apply Kd.R_alloc | apply Kd.R_drewN | apply Kd.R_drew)); exact HO_4.out) hb); have n2_ := Aside0.mk (blk_below (g := gb235) (o := .cells #[.int .i64 (wrap64 (rd x0_1 0)), .int .i64 0] 41 (0, 0)) (by (with_reducible repeat (first | refine blk_drewN ?_ _ | refine blk_drew ?_ | refine blk_alloc ?_ _)); exact BK235.out) hb); have n3_ := Aside0.mk (blk_below (g := gb242) (o := .cells #[.int .i64 t236, .int .i64 t237, .int .i64 t238, .int .i64 t239, .bool t240] 56 (0, 0)) (by (with_reducible repeat (first | refine blk_drewN ?_ _ | refine blk_drew ?_ | refine blk_alloc ?_ _)); exact BK242.out) hb); have n4_ := Aside0.mk (below_step (by repeat (first | (with_reducible first | exact HB.out | apply below_alloc | apply pw_below_drewN | apply below_drew1 | refine below_set ?_ GE235.out | refine below_set ?_ GE242.out) | exact HB.out)) hb); have n5_ := Aside0.mk (hbox); have n6_ := Aside0.mk ((by rw [hg]; exact (below_size (by repeat (first | (with_reducible first | exact HB.out | apply below_alloc | apply pw_below_drewN | apply below_drew1 | refine below_set ?_ GE235.out | refine below_set ?_ GE242.out) | exact HB.out))) : w.heap.size ≤ gb286)); have n7_ := Aside0.mk ((by rw [hg]; exact (below_size (by repeat (first | (with_reducible first | exact HB.out | apply below_alloc | apply pw_below_drewN | apply below_drew1 | refine below_set ?_ GE235.out | refine below_set ?_ GE242.out) | exact HB.out))) : w.heap.size ≤ gb286)); have n8_ := Aside0.mk ((by rw [hg]; exact Nat.ne_of_lt (blk_lt (g := gb235) (o := .cells #[.int .i64 (wrap64 (rd x0_1 0)), .int .i64 0] 41 (0, 0)) (by (with_reducible repeat (first | refine blk_drewN ?_ _ | refine blk_drew ?_ | refine blk_alloc ?_ _)); exact BK235.out)) : gb235 ≠ gb286)); have n9_ := Aside0.mk ((by rw [hg]; exact Nat.ne_of_gt (blk_lt (g := gb235) (o := .cells #[.int .i64 (wrap64 (rd x0_1 0)), .int .i64 0] 41 (0, 0)) (by (with_reducible repeat (first | refine blk_drewN ?_ _ | refine blk_drew ?_ | refine blk_alloc ?_ _)); exact BK235.out)) : gb286 ≠ gb235)); have n10_ := Aside0.mk ((by rw [hg]; exact Nat.ne_of_lt (blk_lt (g := gb242) (o := .cells #[.int .i64 t236, .int .i64 t237, .int .i64 t238, .int .i64 t239, .bool t240] 56 (0, 0)) (by (with_reducible repeat (first | refine blk_drewN ?_ _ | refine blk_drew ?_ | refine blk_alloc ?_ _)); exact BK242.out)) : gb242 ≠ gb286)); have n11_ := Aside0.mk ((by rw [hg]; exact Nat.ne_of_gt (blk_lt (g := gb242) (o := .cells #[.int .i64 t236, .int .i64 t237, .int .i64 t238, .int .i64 t239, .bool t240] 56 (0, 0)) (by (with_reducible repeat (first | refine blk_drewN ?_ _ | refine blk_drew ?_ | refine blk_alloc ?_ _)); exact BK242.out)) : gb286 ≠ gb242)); clear HO_0; clear HO_4; clear BK235; clear BK242; clear HB; have HO_0 := n0_; have HO_4 := n1_; have BK235 := n2_; have BK242 := n3_; have HB := n4_; have BK286 := n5_; have GW286 := n6_; have GE286 := n7_; have NB235_286 := n8_; have NB286_235 := n9_; have NB242_286 := n10_; have NB286_242 := n11_; clear n0_ n1_ n2_ n3_ n4_ n5_ n6_ n7_ n8_ n9_ n10_ n11_; clear hb hbox hg; have hnb95 := NB286_235.out; have hnc95 := NB235_286.out; have hnb96 := NB286_242.out; have hnc96 := NB242_286.out; have hcz97_0 : w94.cell? ⟨gb286, 0, none⟩ = some (.int .i64 0) := (blk_cell BK286.out 0).trans rfl; have hcz97_1 : w94.cell? ⟨gb286, 1, none⟩ = some (.int .i64 0) := (blk_cell BK286.out 1).trans rfl; have hcz97_2 : w94.cell? ⟨gb286, 2, none⟩ = some (.int .i64 0) := (blk_cell BK286.out 2).trans rfl; have hcz97_3 : w94.cell? ⟨gb286, 3, none⟩ = some (.int .i64 0) := (blk_cell BK286.out 3).trans rfl; have hcz97_4 : w94.cell? ⟨gb286, 4, none⟩ = some (.bool false) := (blk_cell BK286.out 4).trans rfl; have hfz97_0 := blk_frozen BK286.out 0; have hfz97_1 := blk_frozen BK286.out 1; have hfz97_2 := blk_frozen BK286.out 2; have hfz97_3 := blk_frozen BK286.out 3; have hfz97_4 := blk_frozen BK286.out 4; have hcz98_0 : w94.cell? ⟨gb235, 0, none⟩ = some (.int .i64 (wrap64 (rd x0_1 0))) := (blk_cell BK235.out 0).trans rfl; have hcz98_1 : w94.cell? ⟨gb235, 1, none⟩ = some (.int .i64 0) := (blk_cell BK235.out 1).trans rfl; have hfz98_0 := blk_frozen BK235.out 0; have hfz98_1 := blk_frozen BK235.out 1) | ((with_reducible refine gate_builtin (b := .append) (xs := #[.tmp 64, .tmp 66]) rfl ?_); at_builtin; refine Kd.R_append k41 (w0 := w) w.heap.size rfl (.tmp 64) (.tmp 66) 28 41 (.agg #[(.int .i64 0), (.int .i64 0)]) 16 rfl Try.underlying28 info41 rfl (by decide) (by omega) (.slice Ao11 x4_1.length co11) x4_1 (⟨(wrap64 (rd x0_1 0)), 0⟩ : S41) [.int .i64 (wrap64 (rd x0_1 0)), .int .i64 0] (fun k_ => (w.heap.size ≤ k_) ∧ k_ ≠ gb235) (fun _ => False) rfl (by first | (go_simp; done) | (go_simp; rfl)) ?aP (fun _ hk => hk.elim) ?aF ?aO ?aB ?aS ?aL ?_; (case aP => exact k41_mkM _ _ _ (⟨(wrap64 (rd x0_1 0)), 0⟩ : S41)); (case aB => exact (by repeat (first | (with_reducible first | exact HB.out | apply below_alloc | apply pw_below_drewN | apply below_drew1 | refine below_set ?_ GE235.out | refine below_set ?_ GE242.out | refine below_set ?_ GE286.out) | exact HB.out))); (case aF => exact (fun k_ hk => ⟨(Nat.le_trans (below_size (by repeat (first | (with_reducible first | exact HB.out | apply below_alloc | apply pw_below_drewN | apply below_drew1 | refine below_set ?_ GE235.out | refine below_set ?_ GE242.out | refine below_set ?_ GE286.out) | exact HB.out))) hk), Kd.freshB (g := gb235) (o := .cells #[.int .i64 (wrap64 (rd x0_1 0)), .int .i64 0] 41 (0, 0)) (by (with_reducible repeat (first | refine blk_drewN ?_ _ | refine blk_drew ?_ | refine blk_alloc ?_ _)); refine blk_far ?_ NB235_286.out _; (with_reducible repeat (first | refine blk_drewN ?_ _ | refine blk_drew ?_ | refine blk_alloc ?_ _)); refine blk_far ?_ NB235_286.out _; (with_reducible repeat (first | refine blk_drewN ?_ _ | refine blk_drew ?_ | refine blk_alloc ?_ _)); refine blk_far ?_ NB235_286.out _; (with_reducible repeat (first | refine blk_drewN ?_ _ | refine blk_drew ?_ | refine blk_alloc ?_ _)); refine blk_far ?_ NB235_286.out _; (with_reducible repeat (first | refine blk_drewN ?_ _ | refine blk_drew ?_ | refine blk_alloc ?_ _)); refine blk_far ?_ NB235_286.out _; (with_reducible repeat (first | refine blk_drewN ?_ _ | refine blk_drew ?_ | refine blk_alloc ?_ _)); exact BK235.out) k_ hk⟩)); (case aO => exact (by (with_reducible repeat (first | apply Kd.R_alloc | apply Kd.R_drewN | apply Kd.R_drew)); exact Kd.R_mono (Kd.R_far (p := ⟨gb286, 4, none⟩) (Kd.R_far (p := ⟨gb286, 3, none⟩) (Kd.R_far (p := ⟨gb286, 2, none⟩) (Kd.R_far (p := ⟨gb286, 1, none⟩) (Kd.R_far (p := ⟨gb286, 0, none⟩) (Kd.R_types HO_4.out BK286.out (by decide)) (fun _ hk => hk.2) (.int .i64 t280)) (fun _ hk => hk.2) (.int .i64 t281)) (fun _ hk => hk.2) (.int .i64 t282)) (fun _ hk => hk.2) (.int .i64 t283)) (fun _ hk => hk.2) (.bool t284)) (fun _ hk => ⟨hk.1.1, hk.1.2⟩))); (case aS => exact (below_size (by repeat (first | (with_reducible first | exact HB.out | apply below_alloc | apply pw_below_drewN | apply below_drew1 | refine below_set ?_ GE235.out | refine below_set ?_ GE242.out | refine below_set ?_ GE286.out) | exact HB.out)))); (case aL => have := LMc90.out; omega); intro v288 w99 ho hb hg hat; rw [← Ny287.out] at ho; have n0_ := Aside0.mk (Kd.V_afterv (ok := (fun k_ => (P0_ k_ ∨ w.heap.size ≤ k_) ∧ k_ ≠ gb235 ∧ k_ ≠ gb242 ∧ k_ ≠ gb286)) (by (with_reducible repeat (first | apply Kd.V_alloc | apply Kd.V_drewN | apply Kd.V_drew)); exact Kd.V_mono (Kd.V_far (p := ⟨gb286, 4, none⟩) (Kd.V_far (p := ⟨gb286, 3, none⟩) (Kd.V_far (p := ⟨gb286, 2, none⟩) (Kd.V_far (p := ⟨gb286, 1, none⟩) (Kd.V_far (p := ⟨gb286, 0, none⟩) (Kd.V_mono HO_0.out (fun k_ hk => (⟨hk, hk.2⟩ : _ ∧ k_ ≠ gb286))) (fun _ hk => hk.2) (.int .i64 t280)) (fun _ hk => hk.2) (.int .i64 t281)) (fun _ hk => hk.2) (.int .i64 t282)) (fun _ hk => hk.2) (.int .i64 t283)) (fun _ hk => hk.2) (.bool t284)) (fun _ hk => ⟨⟨hk.1.1.1, ⟨hk.1.1.2.2.1, ⟨hk.1.1.2.2.2, hk.1.2⟩⟩⟩, hk.1.1.2.1⟩)) hg hat); have n1_ := Aside0.mk (blk_grown (g := gb235) (o := .cells #[.int .i64 (wrap64 (rd x0_1 0)), .int .i64 0] 41 (0, 0)) (by (with_reducible repeat (first | refine blk_drewN ?_ _ | refine blk_drew ?_ | refine blk_alloc ?_ _)); refine blk_far ?_ NB235_286.out _; (with_reducible repeat (first | refine blk_drewN ?_ _ | refine blk_drew ?_ | refine blk_alloc ?_ _)); refine blk_far ?_ NB235_286.out _; (with_reducible repeat (first | refine blk_drewN ?_ _ | refine blk_drew ?_ | refine blk_alloc ?_ _)); refine blk_far ?_ NB235_286.out _; (with_reducible repeat (first | refine blk_drewN ?_ _ | refine blk_drew ?_ | refine blk_alloc ?_ _)); refine blk_far ?_ NB235_286.out _; (with_reducible repeat (first | refine blk_drewN ?_ _ | refine blk_drew ?_ | refine blk_alloc ?_ _)); refine blk_far ?_ NB235_286.out _; (with_reducible repeat (first | refine blk_drewN ?_ _ | refine blk_drew ?_ | refine blk_alloc ?_ _)); exact BK235.out) hg (Kd.R_away HO_4.out (fun _ hk => hk.2))); have n2_ := Aside0.mk (blk_grown (g := gb242) (o := .cells #[.int .i64 t236, .int .i64 t237, .int .i64 t238, .int .i64 t239, .bool t240] 56 (0, 0)) (by (with_reducible repeat (first | refine blk_drewN ?_ _ | refine blk_drew ?_ | refine blk_alloc ?_ _)); refine blk_far ?_ NB242_286.out _; (with_reducible repeat (first | refine blk_drewN ?_ _ | refine blk_drew ?_ | refine blk_alloc ?_ _)); refine blk_far ?_ NB242_286.out _; (with_reducible repeat (first | refine blk_drewN ?_ _ | refine blk_drew ?_ | refine blk_alloc ?_ _)); refine blk_far ?_ NB242_286.out _; (with_reducible repeat (first | refine blk_drewN ?_ _ | refine blk_drew ?_ | refine blk_alloc ?_ _)); refine blk_far ?_ NB242_286.out _; (with_reducible repeat (first | refine blk_drewN ?_ _ | refine blk_drew ?_ | refine blk_alloc ?_ _)); refine blk_far ?_ NB242_286.out _; (with_reducible repeat (first | refine blk_drewN ?_ _ | refine blk_drew ?_ | refine blk_alloc ?_ _)); exact BK242.out) hg (Kd.R_ne HO_4.out BK242.out (by decide))); have n3_ := Aside0.mk (blk_grown (g := gb286) (o := .cells #[.int .i64 t280, .int .i64 t281, .int .i64 t282, .int .i64 t283, .bool t284] 56 (0, 0)) (by (with_reducible repeat (first | refine blk_drewN ?_ _ | refine blk_drew ?_ | refine blk_alloc ?_ _)); refine blk_put (cs := #[.int .i64 t280, .int .i64 t281, .int .i64 t282, .int .i64 t283, .bool false]) ?_ 4 _ rfl; (with_reducible repeat (first | refine blk_drewN ?_ _ | refine blk_drew ?_ | refine blk_alloc ?_ _)); refine blk_put (cs := #[.int .i64 t280, .int .i64 t281, .int .i64 t282, .int .i64 0, .bool false]) ?_ 3 _ rfl; (with_reducible repeat (first | refine blk_drewN ?_ _ | refine blk_drew ?_ | refine blk_alloc ?_ _)); refine blk_put (cs := #[.int .i64 t280, .int .i64 t281, .int .i64 0, .int .i64 0, .bool false]) ?_ 2 _ rfl; (with_reducible repeat (first | refine blk_drewN ?_ _ | refine blk_drew ?_ | refine blk_alloc ?_ _)); refine blk_put (cs := #[.int .i64 t280, .int .i64 0, .int .i64 0, .int .i64 0, .bool false]) ?_ 1 _ rfl; (with_reducible repeat (first | refine blk_drewN ?_ _ | refine blk_drew ?_ | refine blk_alloc ?_ _)); refine blk_put (cs := #[.int .i64 0, .int .i64 0, .int .i64 0, .int .i64 0, .bool false]) ?_ 0 _ rfl; (with_reducible repeat (first | refine blk_drewN ?_ _ | refine blk_drew ?_ | refine blk_alloc ?_ _)); exact BK286.out) hg (Kd.R_ne HO_4.out BK286.out (by decide))); have n4_ := Aside0.mk (hb); have n5_ := Aside0.mk (ho); clear HO_0; clear BK235; clear BK242; clear BK286; clear HB; clear HO_4; have HO_0 := n0_; have BK235 := n1_; have BK242 := n2_; have BK286 := n3_; have HB := n4_; have HO289 := n5_; clear n0_ n1_ n2_ n3_ n4_ n5_; clear ho hb hg hat))
                        go_roundg kj8
                        case measure => have := HK1.out; have := HJ8.out; omega
                        case rel => exact ⟨(y243), (y287), H', ⟨by have := HK1.out; have := HJ8.out; omega⟩, ⟨by (with_reducible repeat (first | apply Kd.V_alloc | apply Kd.V_drewN | apply Kd.V_drew)); exact Kd.V_mono HO_0.out (fun _ hk => ⟨hk.1.1, hk.2⟩)⟩, ⟨by (with_reducible repeat (first | apply Kd.R_alloc | apply Kd.R_drewN | apply Kd.R_drew)); exact Kd.R_mono HO289.out (fun _ hk => hk.1)⟩, ⟨by repeat (first | (with_reducible first | exact HB.out | apply below_alloc | apply pw_below_drewN | apply below_drew1 | refine below_set ?_ GE235.out | refine below_set ?_ GE242.out | refine below_set ?_ GE286.out) | exact HB.out)⟩⟩
                      · rw [if_neg c90] at H
                        exact absurd H (by simp)
                    · replace c89 := Bool.eq_false_iff.mpr c89
                      subst c89
                      have H1 : (some (([] : List (S41)), 12)) = some (r1, r2) := by rw [if_neg (show ¬ (false = true) by decide)] at H; exact H
                      clear H
                      have H := H1
                      clear H1
                      simp only [Option.some.injEq, Prod.mk.injEq] at H
                      obtain ⟨rfl, rfl⟩ := H
                      have hnb100 := NB235_242.out
                      have hnc100 := NB242_235.out
                      have hcz101_0 : wc.cell? ⟨gb235, 0, none⟩ = some (.int .i64 (wrap64 (rd x0_1 0))) := (blk_cell BK235.out 0).trans rfl
                      have hcz101_1 : wc.cell? ⟨gb235, 1, none⟩ = some (.int .i64 0) := (blk_cell BK235.out 1).trans rfl
                      have hfz101_0 := blk_frozen BK235.out 0
                      have hfz101_1 := blk_frozen BK235.out 1
                      go_wp2_with (first | ((with_reducible refine gate_callee (f := 25) rfl ?_); refine goesL_ (some 59) rfl rfl Try.func25 (by kernel_rfl) rfl #[.agg #[.int .i64 (wrap64 (rd x0_1 0)), .int .i64 0]] rfl (by (try simp only [List.map_toArray, List.map_cons, List.map_nil]); first | done | rfl | (simp only [List.length_drop, List.length_take]; rfl)) ?_; (with_reducible refine (code_may.calls (wrap64 (rd x0_1 0)) 0 t280 t281 t282 t283 t284 false _ A88.out).mono ?_); rintro e w102 ⟨rfl, hb⟩; refine ⟨_, rfl, ?_⟩; have n0_ := Aside0.mk (Kd.V_below (by (with_reducible repeat (first | apply Kd.V_alloc | apply Kd.V_drewN | apply Kd.V_drew)); exact HO_0.out) hb); have n1_ := Aside0.mk (Kd.R_below (by (with_reducible repeat (first | apply Kd.R_alloc | apply Kd.R_drewN | apply Kd.R_drew)); exact HO_4.out) hb); have n2_ := Aside0.mk (blk_below (g := gb235) (o := .cells #[.int .i64 (wrap64 (rd x0_1 0)), .int .i64 0] 41 (0, 0)) (by (with_reducible repeat (first | refine blk_drewN ?_ _ | refine blk_drew ?_ | refine blk_alloc ?_ _)); exact BK235.out) hb); have n3_ := Aside0.mk (blk_below (g := gb242) (o := .cells #[.int .i64 t236, .int .i64 t237, .int .i64 t238, .int .i64 t239, .bool t240] 56 (0, 0)) (by (with_reducible repeat (first | refine blk_drewN ?_ _ | refine blk_drew ?_ | refine blk_alloc ?_ _)); exact BK242.out) hb); have n4_ := Aside0.mk (below_step (by repeat (first | (with_reducible first | exact HB.out | apply below_alloc | apply pw_below_drewN | apply below_drew1 | refine below_set ?_ GE235.out | refine below_set ?_ GE242.out) | exact HB.out)) hb); clear HO_0; clear HO_4; clear BK235; clear BK242; clear HB; have HO_0 := n0_; have HO_4 := n1_; have BK235 := n2_; have BK242 := n3_; have HB := n4_; clear n0_ n1_ n2_ n3_ n4_; (try clear hb); (try clear hb2); (try clear hk); (try clear hi)) | ((with_reducible refine gate_dst (N := 8) rfl ?_); refine box_event ?hg (N := 8) ?hd (cs := #[.int .i64 0, .int .i64 0, .int .i64 0, .int .i64 0, .bool false]) (t := 56) ?hr ?_; (case hd => rfl); (case hg => rfl); (case hr => first | (go_simp; done) | (go_simp; rfl)); intro gb286 hg w103 hbox hb; have n0_ := Aside0.mk (Kd.V_below (Kd.V_elderB (by (with_reducible repeat (first | apply Kd.V_alloc | apply Kd.V_drewN | apply Kd.V_drew)); exact HO_0.out) gb286 (Nat.le_of_eq hg.symm)) hb); have n1_ := Aside0.mk (Kd.R_below (by (with_reducible repeat (first | apply Kd.R_alloc | apply Kd.R_drewN | apply Kd.R_drew)); exact HO_4.out) hb); have n2_ := Aside0.mk (blk_below (g := gb235) (o := .cells #[.int .i64 (wrap64 (rd x0_1 0)), .int .i64 0] 41 (0, 0)) (by (with_reducible repeat (first | refine blk_drewN ?_ _ | refine blk_drew ?_ | refine blk_alloc ?_ _)); exact BK235.out) hb); have n3_ := Aside0.mk (blk_below (g := gb242) (o := .cells #[.int .i64 t236, .int .i64 t237, .int .i64 t238, .int .i64 t239, .bool t240] 56 (0, 0)) (by (with_reducible repeat (first | refine blk_drewN ?_ _ | refine blk_drew ?_ | refine blk_alloc ?_ _)); exact BK242.out) hb); have n4_ := Aside0.mk (below_step (by repeat (first | (with_reducible first | exact HB.out | apply below_alloc | apply pw_below_drewN | apply below_drew1 | refine below_set ?_ GE235.out | refine below_set ?_ GE242.out) | exact HB.out)) hb); have n5_ := Aside0.mk (hbox); have n6_ := Aside0.mk ((by rw [hg]; exact (below_size (by repeat (first | (with_reducible first | exact HB.out | apply below_alloc | apply pw_below_drewN | apply below_drew1 | refine below_set ?_ GE235.out | refine below_set ?_ GE242.out) | exact HB.out))) : w.heap.size ≤ gb286)); have n7_ := Aside0.mk ((by rw [hg]; exact (below_size (by repeat (first | (with_reducible first | exact HB.out | apply below_alloc | apply pw_below_drewN | apply below_drew1 | refine below_set ?_ GE235.out | refine below_set ?_ GE242.out) | exact HB.out))) : w.heap.size ≤ gb286)); have n8_ := Aside0.mk ((by rw [hg]; exact Nat.ne_of_lt (blk_lt (g := gb235) (o := .cells #[.int .i64 (wrap64 (rd x0_1 0)), .int .i64 0] 41 (0, 0)) (by (with_reducible repeat (first | refine blk_drewN ?_ _ | refine blk_drew ?_ | refine blk_alloc ?_ _)); exact BK235.out)) : gb235 ≠ gb286)); have n9_ := Aside0.mk ((by rw [hg]; exact Nat.ne_of_gt (blk_lt (g := gb235) (o := .cells #[.int .i64 (wrap64 (rd x0_1 0)), .int .i64 0] 41 (0, 0)) (by (with_reducible repeat (first | refine blk_drewN ?_ _ | refine blk_drew ?_ | refine blk_alloc ?_ _)); exact BK235.out)) : gb286 ≠ gb235)); have n10_ := Aside0.mk ((by rw [hg]; exact Nat.ne_of_lt (blk_lt (g := gb242) (o := .cells #[.int .i64 t236, .int .i64 t237, .int .i64 t238, .int .i64 t239, .bool t240] 56 (0, 0)) (by (with_reducible repeat (first | refine blk_drewN ?_ _ | refine blk_drew ?_ | refine blk_alloc ?_ _)); exact BK242.out)) : gb242 ≠ gb286)); have n11_ := Aside0.mk ((by rw [hg]; exact Nat.ne_of_gt (blk_lt (g := gb242) (o := .cells #[.int .i64 t236, .int .i64 t237, .int .i64 t238, .int .i64 t239, .bool t240] 56 (0, 0)) (by (with_reducible repeat (first | refine blk_drewN ?_ _ | refine blk_drew ?_ | refine blk_alloc ?_ _)); exact BK242.out)) : gb286 ≠ gb242)); clear HO_0; clear HO_4; clear BK235; clear BK242; clear HB; have HO_0 := n0_; have HO_4 := n1_; have BK235 := n2_; have BK242 := n3_; have HB := n4_; have BK286 := n5_; have GW286 := n6_; have GE286 := n7_; have NB235_286 := n8_; have NB286_235 := n9_; have NB242_286 := n10_; have NB286_242 := n11_; clear n0_ n1_ n2_ n3_ n4_ n5_ n6_ n7_ n8_ n9_ n10_ n11_; clear hb hbox hg; have hnb104 := NB286_235.out; have hnc104 := NB235_286.out; have hnb105 := NB286_242.out; have hnc105 := NB242_286.out; have hcz106_0 : w103.cell? ⟨gb286, 0, none⟩ = some (.int .i64 0) := (blk_cell BK286.out 0).trans rfl; have hcz106_1 : w103.cell? ⟨gb286, 1, none⟩ = some (.int .i64 0) := (blk_cell BK286.out 1).trans rfl; have hcz106_2 : w103.cell? ⟨gb286, 2, none⟩ = some (.int .i64 0) := (blk_cell BK286.out 2).trans rfl; have hcz106_3 : w103.cell? ⟨gb286, 3, none⟩ = some (.int .i64 0) := (blk_cell BK286.out 3).trans rfl; have hcz106_4 : w103.cell? ⟨gb286, 4, none⟩ = some (.bool false) := (blk_cell BK286.out 4).trans rfl; have hfz106_0 := blk_frozen BK286.out 0; have hfz106_1 := blk_frozen BK286.out 1; have hfz106_2 := blk_frozen BK286.out 2; have hfz106_3 := blk_frozen BK286.out 3; have hfz106_4 := blk_frozen BK286.out 4))
                      go_ret2
                      exact ⟨_, by first | rfl | (simp [errW_none, errW_some] <;> rfl) | (simp [*, errW_none, errW_some] <;> rfl), by first | exact Kd.R_nil _ _ _ _ _ | exact Kd.N_nil _ _ _ _ _ | exact Kd.V_nil _ _ _ _ _ | exact Kd.Q_nil _ _ _ _ _ | exact Kd.S_nil _ _ _ _ _, by repeat (first | (with_reducible first | exact HB.out | apply below_alloc | apply pw_below_drewN | apply below_drew1 | refine below_set ?_ GE235.out | refine below_set ?_ GE242.out | refine below_set ?_ GE286.out) | exact HB.out)⟩
            · rw [if_neg c8] at H
              exact absurd H (by simp)
          · rw [if_neg c6] at H
            exact absurd H (by simp)
      · rw [if_neg c2] at H
        have c2b0 : decide (0 < (x0_1.length : Int)) = false := decide_eq_false c2
        have c2b1 : decide (0 < x0_1.length) = false := decide_eq_false (by omega)
        clear c2
        simp only [Option.some.injEq, Prod.mk.injEq] at H
        obtain ⟨rfl, rfl⟩ := H
        obtain ⟨Ao107, co107, eo107⟩ := Kd.V_slice HO_0.out
        subst eo107
        go_wp2
        go_ret2
        exact ⟨_, by first | rfl | (simp [errW_none, errW_some] <;> rfl) | (simp [*, errW_none, errW_some] <;> rfl), by (with_reducible repeat (first | apply Kd.R_alloc | apply Kd.R_drewN | apply Kd.R_drew)); exact HO_4.out, by repeat (first | (with_reducible first | exact HB.out | apply below_alloc | apply pw_below_drewN | apply below_drew1) | exact HB.out)⟩

end Go.Proofs.Ytlpiknclbgogbaa.XBytes
