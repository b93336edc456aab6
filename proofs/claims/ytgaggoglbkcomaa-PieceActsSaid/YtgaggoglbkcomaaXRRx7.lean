-- Written by this session's program (wip/xprint.py) with the kit's print, for this claim.
import Derived.Test.YtgaggoglbkcomaaXRRx0
import Derived.Test.YtgaggoglbkcomaaXRRx4
import Derived.Test.YtgaggoglbkcomaaXRRx5
namespace Go.Proofs.Ytgaggoglbkcomaa.XRR
open Go.RowKit Go.Proofs.YtgaggoglbkcomaaW.PrintWords Go.Proofs.YtgaggoglbkcomaaW.PrintLast Go.Proofs.YtgaggoglbkcomaaW.PrintMore
attribute [local go_sem] max2_int min2_int max_two min_two max_three min_three max_four min_four   -- for this text's walks alone
set_option linter.unusedVariables false
set_option linter.unusedSimpArgs false

/-! ### bureauref04_Splice: function 45 -/
mutual
def bureauref04_Splice.j0 : Nat → Int → Int → Bool → ByteArray → List (S29) → ByteArray → List (S29) → Option (ByteArray × (List (S29)) × Int)
  | 0, _, _, _, _, _, _, _ => none
  | k + 1, x1, x2, x25, x224000, x224001, x225000, x225001 => if x25 = true then (some ((⟨#[]⟩ : ByteArray), ([] : List (S29)), 2)) else (if (wrap64 ((wrap64 ((x224000.size : Int) - (wrap64 (x2 - x1)))) + (x225000.size : Int))) > 4096 then (some ((⟨#[]⟩ : ByteArray), ([] : List (S29)), 3)) else ((bureauref03_Bytes.f k x224001).bind fun t228 => ((bureauref03_Bytes.f k x225001).bind fun t231 => (bureauref04_Splice.l0 k x1 x2 t228 t231 ([] : List Int) 0 x224000 x224001 x225000 x225001))))
def bureauref04_Splice.l0 : Nat → Int → Int → List Int → List Int → List Int → Int → ByteArray → List (S29) → ByteArray → List (S29) → Option (ByteArray × (List (S29)) × Int)
  | 0, _, _, _, _, _, _, _, _, _, _ => none
  | k + 1, x1, x2, x10, x11, x12, x13, x224000, x224001, x225000, x225001 => if x13 < x1 then (if 0 ≤ x13 then (if x13 < (x10.length : Int) then (if x12.length < 17592186044416 then (bureauref04_Splice.l0 k x1 x2 x10 x11 (x12 ++ [rd x10 x13]) (wrap64 (x13 + 1)) x224000 x224001 x225000 x225001) else (none)) else (none)) else (none)) else (bureauref04_Splice.l1 k x1 x2 x10 x11 x12 0 x224000 x224001 x225000 x225001)
def bureauref04_Splice.l1 : Nat → Int → Int → List Int → List Int → List Int → Int → ByteArray → List (S29) → ByteArray → List (S29) → Option (ByteArray × (List (S29)) × Int)
  | 0, _, _, _, _, _, _, _, _, _, _ => none
  | k + 1, x1, x2, x10, x11, x12, x14, x224000, x224001, x225000, x225001 => if x14 < (x11.length : Int) then (if 0 ≤ x14 then (if x12.length < 17592186044416 then (bureauref04_Splice.l1 k x1 x2 x10 x11 (x12 ++ [rd x11 x14]) (wrap64 (x14 + 1)) x224000 x224001 x225000 x225001) else (none)) else (none)) else (bureauref04_Splice.l2 k x1 x2 x10 x12 x2 x224000 x224001 x225000 x225001)
def bureauref04_Splice.l2 : Nat → Int → Int → List Int → List Int → Int → ByteArray → List (S29) → ByteArray → List (S29) → Option (ByteArray × (List (S29)) × Int)
  | 0, _, _, _, _, _, _, _, _, _ => none
  | k + 1, x1, x2, x10, x12, x15, x224000, x224001, x225000, x225001 => if x15 < (x10.length : Int) then (if 0 ≤ x15 then (if x12.length < 17592186044416 then (bureauref04_Splice.l2 k x1 x2 x10 (x12 ++ [rd x10 x15]) (wrap64 (x15 + 1)) x224000 x224001 x225000 x225001) else (none)) else (none)) else (if 0 ≤ x1 then (if x1 ≤ (x224000.size : Int) then (if (x224000.extract 0 (x1 : Int).toNat).size + x225000.size ≤ 9223372036854775807 then (if 0 ≤ x2 then (if x2 ≤ (x224000.size : Int) then (if ((x224000.extract 0 (x1 : Int).toNat) ++ x225000).size + (x224000.extract (x2 : Int).toNat x224000.size).size ≤ 9223372036854775807 then ((bureauref03_Pack.f k x12).bind fun t246 => (some (((x224000.extract 0 (x1 : Int).toNat) ++ x225000) ++ (x224000.extract (x2 : Int).toNat x224000.size), t246, 0))) else (none)) else (none)) else (none)) else (none)) else (none)) else (none))
end
def bureauref04_Splice.f (k : Nat) (a0_0 : ByteArray) (l0_1 : List (S29)) (a1 : Int) (a2 : Int) (a3_0 : ByteArray) (l3_1 : List (S29)) : Option (ByteArray × (List (S29)) × Int) := (bureauref04_Within.f k a0_0 l0_1 a1 a2).bind fun t226 => (if t226 = true then ((bureauref04_Good.f k a3_0 l3_1).bind fun t227 => (bureauref04_Splice.j0 k a1 a2 (!t227) a0_0 l0_1 a3_0 l3_1)) else (bureauref04_Splice.j0 k a1 a2 true a0_0 l0_1 a3_0 l3_1))
theorem bureauref04_Splice.mono_l : ∀ k, (∀ y0 y1 y2 y3 y4 y5 y6, LeO (bureauref04_Splice.j0 k y0 y1 y2 y3 y4 y5 y6) (bureauref04_Splice.j0 (k + 1) y0 y1 y2 y3 y4 y5 y6)) ∧ (∀ y0 y1 y2 y3 y4 y5 y6 y7 y8 y9, LeO (bureauref04_Splice.l0 k y0 y1 y2 y3 y4 y5 y6 y7 y8 y9) (bureauref04_Splice.l0 (k + 1) y0 y1 y2 y3 y4 y5 y6 y7 y8 y9)) ∧ (∀ y0 y1 y2 y3 y4 y5 y6 y7 y8 y9, LeO (bureauref04_Splice.l1 k y0 y1 y2 y3 y4 y5 y6 y7 y8 y9) (bureauref04_Splice.l1 (k + 1) y0 y1 y2 y3 y4 y5 y6 y7 y8 y9)) ∧ (∀ y0 y1 y2 y3 y4 y5 y6 y7 y8, LeO (bureauref04_Splice.l2 k y0 y1 y2 y3 y4 y5 y6 y7 y8) (bureauref04_Splice.l2 (k + 1) y0 y1 y2 y3 y4 y5 y6 y7 y8))
  | 0 => ⟨fun _ _ _ _ _ _ _ r h => by simp [bureauref04_Splice.j0] at h, fun _ _ _ _ _ _ _ _ _ _ r h => by simp [bureauref04_Splice.l0] at h, fun _ _ _ _ _ _ _ _ _ _ r h => by simp [bureauref04_Splice.l1] at h, fun _ _ _ _ _ _ _ _ _ r h => by simp [bureauref04_Splice.l2] at h⟩
  | k + 1 => by
    obtain ⟨ih0, ih1, ih2, ih3⟩ := bureauref04_Splice.mono_l k
    refine ⟨?_, ?_, ?_, ?_⟩
    · intro y0 y1 y2 y3 y4 y5 y6
      unfold bureauref04_Splice.j0
      repeat' first
      | (with_reducible exact ih0 _ _ _ _ _ _ _)
      | (with_reducible exact ih1 _ _ _ _ _ _ _ _ _ _)
      | (with_reducible exact ih2 _ _ _ _ _ _ _ _ _ _)
      | (with_reducible exact ih3 _ _ _ _ _ _ _ _ _)
      | (with_reducible exact bureauref03_Bytes.mono _ _)
      | (with_reducible exact bureauref03_Pack.mono _ _)
      | (with_reducible exact bureauref04_Good.mono _ _ _)
      | (with_reducible exact bureauref04_Within.mono _ _ _ _ _)
      | (with_reducible exact LeO.refl _)
      | (with_reducible exact LeO.none _)
      | (with_reducible refine LeO.ite ?_ ?_)
      | (with_reducible refine LeO.bind ?_ (fun _ => ?_))
      | exact ih0 _ _ _ _ _ _ _
      | exact ih1 _ _ _ _ _ _ _ _ _ _
      | exact ih2 _ _ _ _ _ _ _ _ _ _
      | exact ih3 _ _ _ _ _ _ _ _ _
      | exact bureauref03_Bytes.mono _ _
      | exact bureauref03_Pack.mono _ _
      | exact bureauref04_Good.mono _ _ _
      | exact bureauref04_Within.mono _ _ _ _ _
      | exact LeO.none _
      | refine LeO.ite ?_ ?_
      | refine LeO.bind ?_ (fun _ => ?_)
    · intro y0 y1 y2 y3 y4 y5 y6 y7 y8 y9
      unfold bureauref04_Splice.l0
      repeat' first
      | (with_reducible exact ih0 _ _ _ _ _ _ _)
      | (with_reducible exact ih1 _ _ _ _ _ _ _ _ _ _)
      | (with_reducible exact ih2 _ _ _ _ _ _ _ _ _ _)
      | (with_reducible exact ih3 _ _ _ _ _ _ _ _ _)
      | (with_reducible exact bureauref03_Bytes.mono _ _)
      | (with_reducible exact bureauref03_Pack.mono _ _)
      | (with_reducible exact bureauref04_Good.mono _ _ _)
      | (with_reducible exact bureauref04_Within.mono _ _ _ _ _)
      | (with_reducible exact LeO.refl _)
      | (with_reducible exact LeO.none _)
      | (with_reducible refine LeO.ite ?_ ?_)
      | (with_reducible refine LeO.bind ?_ (fun _ => ?_))
      | exact ih0 _ _ _ _ _ _ _
      | exact ih1 _ _ _ _ _ _ _ _ _ _
      | exact ih2 _ _ _ _ _ _ _ _ _ _
      | exact ih3 _ _ _ _ _ _ _ _ _
      | exact bureauref03_Bytes.mono _ _
      | exact bureauref03_Pack.mono _ _
      | exact bureauref04_Good.mono _ _ _
      | exact bureauref04_Within.mono _ _ _ _ _
      | exact LeO.none _
      | refine LeO.ite ?_ ?_
      | refine LeO.bind ?_ (fun _ => ?_)
    · intro y0 y1 y2 y3 y4 y5 y6 y7 y8 y9
      unfold bureauref04_Splice.l1
      repeat' first
      | (with_reducible exact ih0 _ _ _ _ _ _ _)
      | (with_reducible exact ih1 _ _ _ _ _ _ _ _ _ _)
      | (with_reducible exact ih2 _ _ _ _ _ _ _ _ _ _)
      | (with_reducible exact ih3 _ _ _ _ _ _ _ _ _)
      | (with_reducible exact bureauref03_Bytes.mono _ _)
      | (with_reducible exact bureauref03_Pack.mono _ _)
      | (with_reducible exact bureauref04_Good.mono _ _ _)
      | (with_reducible exact bureauref04_Within.mono _ _ _ _ _)
      | (with_reducible exact LeO.refl _)
      | (with_reducible exact LeO.none _)
      | (with_reducible refine LeO.ite ?_ ?_)
      | (with_reducible refine LeO.bind ?_ (fun _ => ?_))
      | exact ih0 _ _ _ _ _ _ _
      | exact ih1 _ _ _ _ _ _ _ _ _ _
      | exact ih2 _ _ _ _ _ _ _ _ _ _
      | exact ih3 _ _ _ _ _ _ _ _ _
      | exact bureauref03_Bytes.mono _ _
      | exact bureauref03_Pack.mono _ _
      | exact bureauref04_Good.mono _ _ _
      | exact bureauref04_Within.mono _ _ _ _ _
      | exact LeO.none _
      | refine LeO.ite ?_ ?_
      | refine LeO.bind ?_ (fun _ => ?_)
    · intro y0 y1 y2 y3 y4 y5 y6 y7 y8
      unfold bureauref04_Splice.l2
      repeat' first
      | (with_reducible exact ih0 _ _ _ _ _ _ _)
      | (with_reducible exact ih1 _ _ _ _ _ _ _ _ _ _)
      | (with_reducible exact ih2 _ _ _ _ _ _ _ _ _ _)
      | (with_reducible exact ih3 _ _ _ _ _ _ _ _ _)
      | (with_reducible exact bureauref03_Bytes.mono _ _)
      | (with_reducible exact bureauref03_Pack.mono _ _)
      | (with_reducible exact bureauref04_Good.mono _ _ _)
      | (with_reducible exact bureauref04_Within.mono _ _ _ _ _)
      | (with_reducible exact LeO.refl _)
      | (with_reducible exact LeO.none _)
      | (with_reducible refine LeO.ite ?_ ?_)
      | (with_reducible refine LeO.bind ?_ (fun _ => ?_))
      | exact ih0 _ _ _ _ _ _ _
      | exact ih1 _ _ _ _ _ _ _ _ _ _
      | exact ih2 _ _ _ _ _ _ _ _ _ _
      | exact ih3 _ _ _ _ _ _ _ _ _
      | exact bureauref03_Bytes.mono _ _
      | exact bureauref03_Pack.mono _ _
      | exact bureauref04_Good.mono _ _ _
      | exact bureauref04_Within.mono _ _ _ _ _
      | exact LeO.none _
      | refine LeO.ite ?_ ?_
      | refine LeO.bind ?_ (fun _ => ?_)
theorem bureauref04_Splice.mono : ∀ a0 a1 a2 a3 a4 a5 k, LeO (bureauref04_Splice.f k a0 a1 a2 a3 a4 a5) (bureauref04_Splice.f (k + 1) a0 a1 a2 a3 a4 a5) := by
  intro a0 a1 a2 a3 a4 a5 k
  obtain ⟨ih0, ih1, ih2, ih3⟩ := bureauref04_Splice.mono_l k
  unfold bureauref04_Splice.f
  repeat' first
      | (with_reducible exact ih0 _ _ _ _ _ _ _)
      | (with_reducible exact ih1 _ _ _ _ _ _ _ _ _ _)
      | (with_reducible exact ih2 _ _ _ _ _ _ _ _ _ _)
      | (with_reducible exact ih3 _ _ _ _ _ _ _ _ _)
      | (with_reducible exact bureauref03_Bytes.mono _ _)
      | (with_reducible exact bureauref03_Pack.mono _ _)
      | (with_reducible exact bureauref04_Good.mono _ _ _)
      | (with_reducible exact bureauref04_Within.mono _ _ _ _ _)
      | (with_reducible exact LeO.refl _)
      | (with_reducible exact LeO.none _)
      | (with_reducible refine LeO.ite ?_ ?_)
      | (with_reducible refine LeO.bind ?_ (fun _ => ?_))
      | exact ih0 _ _ _ _ _ _ _
      | exact ih1 _ _ _ _ _ _ _ _ _ _
      | exact ih2 _ _ _ _ _ _ _ _ _ _
      | exact ih3 _ _ _ _ _ _ _ _ _
      | exact bureauref03_Bytes.mono _ _
      | exact bureauref03_Pack.mono _ _
      | exact bureauref04_Good.mono _ _ _
      | exact bureauref04_Within.mono _ _ _ _ _
      | exact LeO.none _
      | refine LeO.ite ?_ ?_
      | refine LeO.bind ?_ (fun _ => ?_)
def bureauref04_Splice.T20 : Bool × List (List Nat × List Nat) := (true, [([], []), ([0], [0]), ([], []), ([1, 2], [1, 2]), ([], []), ([4], [4]), ([3, 5], [3, 5]), ([], []), ([7], [7]), ([], []), ([8, 9], [8, 9]), ([6, 10], [6, 10]), ([], []), ([12], [12]), ([11, 13], [11, 13]), ([14, 13, 0, 1, 2, 3, 4, 5, 6, 7, 8, 9, 10, 11, 12, 13, 14], [14]), ([15, 0, 1, 2, 3, 4, 5, 6, 7, 8, 9, 10, 11, 12, 13, 14, 15], [])])
def bureauref04_Splice.B20 : List Nat := [0, 1, 0, 7, 0, 16, 63, 0, 128, 0, 896, 2047, 0, 4096, 16383, 32767, 65535]
theorem bureauref04_Splice.tab20 : rtab .any (opsOf Try.f45 20) = bureauref04_Splice.T20 := by kernel_rfl
theorem bureauref04_Splice.bits20 : waitsOk bureauref04_Splice.T20.2 bureauref04_Splice.B20 = true := by kernel_rfl
set_option maxHeartbeats 8000000 in
set_option maxRecDepth 100000 in
theorem bureauref04_Splice.calls (k : Nat) (a0_0 : ByteArray) (A0_1 : Option Addr) (c0_1 : Nat) (l0_1 : List (S29)) (a1 : Int) (a2 : Int) (a3_0 : ByteArray) (A3_1 : Option Addr) (c3_1 : Nat) (l3_1 : List (S29)) (r1 : ByteArray) (r2 : List (S29)) (r3 : Int) (w : World) (hr0_1 : Kd.C k29 w A0_1 l0_1.length l0_1) (hc0_1 : l0_1.length ≤ c0_1) (hr3_1 : Kd.C k29 w A3_1 l3_1.length l3_1) (hc3_1 : l3_1.length ≤ c3_1) (h : bureauref04_Splice.f k a0_0 l0_1 a1 a2 a3_0 l3_1 = some (r1, r2, r3)) :
    Calls Try.prog 45 #[.agg #[.string a0_0, .slice A0_1 l0_1.length c0_1], .int .i64 a1, .int .i64 a2, .agg #[.string a3_0, .slice A3_1 l3_1.length c3_1]] w fun e w' => ∃ v1_ : Value, e = .returned (.tuple #[.agg #[.string r1, v1_], .int .i64 r3]) ∧ Kd.R k29 29 w' w.heap.size (fun _ => True) v1_ r2 ∧ Below w.heap.size w w' := by
  have hu24 := Try.underlying24
  have HR0_1 := Aside0.mk hr0_1
  have HC0_1 := Aside0.mk hc0_1
  clear hr0_1 hc0_1
  have HR3_1 := Aside0.mk hr3_1
  have HC3_1 := Aside0.mk hc3_1
  clear hr3_1 hc3_1
  have HB := Aside0.mk (Below.refl w.heap.size w)
  have H : ((bureauref04_Within.f k a0_0 l0_1 a1 a2).bind fun t226 => (if t226 = true then ((bureauref04_Good.f k a3_0 l3_1).bind fun t227 => (bureauref04_Splice.j0 k a1 a2 (!t227) a0_0 l0_1 a3_0 l3_1)) else (bureauref04_Splice.j0 k a1 a2 true a0_0 l0_1 a3_0 l3_1))) = some (r1, r2, r3) := h
  clear h
  have HC5 := Aside0.mk H
  clear H
  go_enter Try.func45, Try.ntmps45
  go_upto_region 1 with (first | ((with_reducible refine gate_dst (N := 4) rfl ?_); refine box_event ?hg (N := 4) ?hd (cs := #[.string a0_0, .slice A0_1 l0_1.length c0_1]) (t := 24) ?hr ?_; (case hd => rfl); (case hg => rfl); (case hr => first | (go_simp; done) | (go_simp; rfl)); intro gb223 hg w6 hbox hb; have n0_ := Aside0.mk (below_step (by repeat (first | (with_reducible first | exact HB.out | apply below_alloc | apply pw_below_drewN | apply below_drew1) | exact HB.out)) hb); have n1_ := Aside0.mk (hbox); have n2_ := Aside0.mk ((by rw [hg]; exact (below_size (by repeat (first | (with_reducible first | exact HB.out | apply below_alloc | apply pw_below_drewN | apply below_drew1) | exact HB.out))) : w.heap.size ≤ gb223)); have n3_ := Aside0.mk ((by rw [hg]; exact (below_size (by repeat (first | (with_reducible first | exact HB.out | apply below_alloc | apply pw_below_drewN | apply below_drew1) | exact HB.out))) : w.heap.size ≤ gb223)); clear HB; have HB := n0_; have BK223 := n1_; have GW223 := n2_; have GE223 := n3_; clear n0_ n1_ n2_ n3_; clear hb hbox hg) | ((with_reducible refine gate_dst (N := 7) rfl ?_); refine box_event ?hg (N := 7) ?hd (cs := #[.string a3_0, .slice A3_1 l3_1.length c3_1]) (t := 24) ?hr ?_; (case hd => rfl); (case hg => rfl); (case hr => first | (go_simp; done) | (go_simp; rfl)); intro gb224 hg w7 hbox hb; have n0_ := Aside0.mk (blk_below (g := gb223) (o := .cells #[.string a0_0, .slice A0_1 l0_1.length c0_1] 24 (0, 0)) (by (with_reducible repeat (first | refine blk_drewN ?_ _ | refine blk_drew ?_ | refine blk_alloc ?_ _)); exact BK223.out) hb); have n1_ := Aside0.mk (below_step (by repeat (first | (with_reducible first | exact HB.out | apply below_alloc | apply pw_below_drewN | apply below_drew1 | refine below_set ?_ GE223.out) | exact HB.out)) hb); have n2_ := Aside0.mk (hbox); have n3_ := Aside0.mk ((by rw [hg]; exact (below_size (by repeat (first | (with_reducible first | exact HB.out | apply below_alloc | apply pw_below_drewN | apply below_drew1 | refine below_set ?_ GE223.out) | exact HB.out))) : w.heap.size ≤ gb224)); have n4_ := Aside0.mk ((by rw [hg]; exact (below_size (by repeat (first | (with_reducible first | exact HB.out | apply below_alloc | apply pw_below_drewN | apply below_drew1 | refine below_set ?_ GE223.out) | exact HB.out))) : w.heap.size ≤ gb224)); have n5_ := Aside0.mk ((by rw [hg]; exact Nat.ne_of_lt (blk_lt (g := gb223) (o := .cells #[.string a0_0, .slice A0_1 l0_1.length c0_1] 24 (0, 0)) (by (with_reducible repeat (first | refine blk_drewN ?_ _ | refine blk_drew ?_ | refine blk_alloc ?_ _)); exact BK223.out)) : gb223 ≠ gb224)); have n6_ := Aside0.mk ((by rw [hg]; exact Nat.ne_of_gt (blk_lt (g := gb223) (o := .cells #[.string a0_0, .slice A0_1 l0_1.length c0_1] 24 (0, 0)) (by (with_reducible repeat (first | refine blk_drewN ?_ _ | refine blk_drew ?_ | refine blk_alloc ?_ _)); exact BK223.out)) : gb224 ≠ gb223)); clear BK223; clear HB; have BK223 := n0_; have HB := n1_; have BK224 := n2_; have GW224 := n3_; have GE224 := n4_; have NB223_224 := n5_; have NB224_223 := n6_; clear n0_ n1_ n2_ n3_ n4_ n5_ n6_; clear hb hbox hg) | ((with_reducible refine gate_dst (N := 8) rfl ?_); refine box_event ?hg (N := 8) ?hd (cs := #[.string (⟨#[]⟩ : ByteArray), .slice none 0 0]) (t := 24) ?hr ?_; (case hd => rfl); (case hg => rfl); (case hr => first | (go_simp; done) | (go_simp; rfl)); intro gb225 hg w8 hbox hb; have n0_ := Aside0.mk (blk_below (g := gb223) (o := .cells #[.string a0_0, .slice A0_1 l0_1.length c0_1] 24 (0, 0)) (by (with_reducible repeat (first | refine blk_drewN ?_ _ | refine blk_drew ?_ | refine blk_alloc ?_ _)); exact BK223.out) hb); have n1_ := Aside0.mk (blk_below (g := gb224) (o := .cells #[.string a3_0, .slice A3_1 l3_1.length c3_1] 24 (0, 0)) (by (with_reducible repeat (first | refine blk_drewN ?_ _ | refine blk_drew ?_ | refine blk_alloc ?_ _)); exact BK224.out) hb); have n2_ := Aside0.mk (below_step (by repeat (first | (with_reducible first | exact HB.out | apply below_alloc | apply pw_below_drewN | apply below_drew1 | refine below_set ?_ GE223.out | refine below_set ?_ GE224.out) | exact HB.out)) hb); have n3_ := Aside0.mk (hbox); have n4_ := Aside0.mk ((by rw [hg]; exact (below_size (by repeat (first | (with_reducible first | exact HB.out | apply below_alloc | apply pw_below_drewN | apply below_drew1 | refine below_set ?_ GE223.out | refine below_set ?_ GE224.out) | exact HB.out))) : w.heap.size ≤ gb225)); have n5_ := Aside0.mk ((by rw [hg]; exact (below_size (by repeat (first | (with_reducible first | exact HB.out | apply below_alloc | apply pw_below_drewN | apply below_drew1 | refine below_set ?_ GE223.out | refine below_set ?_ GE224.out) | exact HB.out))) : w.heap.size ≤ gb225)); have n6_ := Aside0.mk ((by rw [hg]; exact Nat.ne_of_lt (blk_lt (g := gb223) (o := .cells #[.string a0_0, .slice A0_1 l0_1.length c0_1] 24 (0, 0)) (by (with_reducible repeat (first | refine blk_drewN ?_ _ | refine blk_drew ?_ | refine blk_alloc ?_ _)); exact BK223.out)) : gb223 ≠ gb225)); have n7_ := Aside0.mk ((by rw [hg]; exact Nat.ne_of_gt (blk_lt (g := gb223) (o := .cells #[.string a0_0, .slice A0_1 l0_1.length c0_1] 24 (0, 0)) (by (with_reducible repeat (first | refine blk_drewN ?_ _ | refine blk_drew ?_ | refine blk_alloc ?_ _)); exact BK223.out)) : gb225 ≠ gb223)); have n8_ := Aside0.mk ((by rw [hg]; exact Nat.ne_of_lt (blk_lt (g := gb224) (o := .cells #[.string a3_0, .slice A3_1 l3_1.length c3_1] 24 (0, 0)) (by (with_reducible repeat (first | refine blk_drewN ?_ _ | refine blk_drew ?_ | refine blk_alloc ?_ _)); exact BK224.out)) : gb224 ≠ gb225)); have n9_ := Aside0.mk ((by rw [hg]; exact Nat.ne_of_gt (blk_lt (g := gb224) (o := .cells #[.string a3_0, .slice A3_1 l3_1.length c3_1] 24 (0, 0)) (by (with_reducible repeat (first | refine blk_drewN ?_ _ | refine blk_drew ?_ | refine blk_alloc ?_ _)); exact BK224.out)) : gb225 ≠ gb224)); clear BK223; clear BK224; clear HB; have BK223 := n0_; have BK224 := n1_; have HB := n2_; have BK225 := n3_; have GW225 := n4_; have GE225 := n5_; have NB223_225 := n6_; have NB225_223 := n7_; have NB224_225 := n8_; have NB225_224 := n9_; clear n0_ n1_ n2_ n3_ n4_ n5_ n6_ n7_ n8_ n9_; clear hb hbox hg))
  (try simp only [Act.put, List.setIfInBounds_toArray, List.set_cons_zero, List.set_cons_succ])
  go_cut [25] (fun v25 wc => ∃ (kq : Nat) (x25_4 : Bool), v25 = .bool x25_4 ∧ Aside0 (bureauref04_Splice.j0 kq a1 a2 x25_4 a0_0 l0_1 a3_0 l3_1 = some (r1, r2, r3)) ∧ Aside0 (kq ≤ k) ∧ Aside0 (wc.heap[gb223]? = some (.cells #[.string a0_0, (.slice A0_1 l0_1.length c0_1)] 24 (0, 0))) ∧ Aside0 (wc.heap[gb224]? = some (.cells #[.string a3_0, (.slice A3_1 l3_1.length c3_1)] 24 (0, 0))) ∧ Aside0 (wc.heap[gb225]? = some (.cells #[.string (⟨#[]⟩ : ByteArray), (.slice none 0 0)] 24 (0, 0))) ∧ Aside0 (Below w.heap.size w wc))
  case first =>
    have H := HC5.out
    clear HC5
    replace H := Option.bind_eq_some_iff.mp H
    obtain ⟨t226, A90, H⟩ := H
    replace H : (if t226 = true then ((bureauref04_Good.f k a3_0 l3_1).bind fun t227 => (bureauref04_Splice.j0 k a1 a2 (!t227) a0_0 l0_1 a3_0 l3_1)) else (bureauref04_Splice.j0 k a1 a2 true a0_0 l0_1 a3_0 l3_1)) = some (r1, r2, r3) := H
    have A9 := Aside0.mk A90
    clear A90
    by_cases c10 : t226 = true
    · subst c10
      have H1 : ((bureauref04_Good.f k a3_0 l3_1).bind fun t227 => (bureauref04_Splice.j0 k a1 a2 (!t227) a0_0 l0_1 a3_0 l3_1)) = some (r1, r2, r3) := by rw [if_pos rfl] at H; exact H
      clear H
      have H := H1
      clear H1
      replace H := Option.bind_eq_some_iff.mp H
      obtain ⟨t227, A110, H⟩ := H
      replace H : (bureauref04_Splice.j0 k a1 a2 (!t227) a0_0 l0_1 a3_0 l3_1) = some (r1, r2, r3) := H
      have A11 := Aside0.mk A110
      clear A110
      have H' := Aside0.mk H
      clear H
      have hnb12 := NB223_224.out
      have hnc12 := NB224_223.out
      have hnb13 := NB223_225.out
      have hnc13 := NB225_223.out
      have hcz14_0 : w8.cell? ⟨gb223, 0, none⟩ = some (.string a0_0) := (blk_cell BK223.out 0).trans rfl
      have hcz14_1 : w8.cell? ⟨gb223, 1, none⟩ = some (.slice A0_1 l0_1.length c0_1) := (blk_cell BK223.out 1).trans rfl
      have hfz14_0 := blk_frozen BK223.out 0
      have hfz14_1 := blk_frozen BK223.out 1
      go_wp2_with (first | ((with_reducible refine gate_callee (f := 42) rfl ?_); refine goesL_ (some 19) rfl rfl Try.func42 (by kernel_rfl) rfl #[.agg #[.string a0_0, .slice A0_1 l0_1.length c0_1], .int .i64 a1, .int .i64 a2] rfl (by (try simp only [List.map_toArray, List.map_cons, List.map_nil]); first | done | rfl | (simp only [List.length_drop, List.length_take]; rfl)) ?_; (with_reducible refine (bureauref04_Within.calls k a0_0 _ _ l0_1 a1 a2 true _ ?side1 ?side2 A9.out).mono ?_); (case side1 => repeat (first | exact (Kd.C_below HR0_1.out HB.out) | (with_reducible refine Kd.C_alloc ?_ _) | (with_reducible refine Kd.C_drewN ?_ _) | (with_reducible refine Kd.C_drew ?_))); (case side2 => exact HC0_1.out); rintro e w15 ⟨rfl, hb⟩; refine ⟨_, rfl, ?_⟩; have n0_ := Aside0.mk (blk_below (g := gb223) (o := .cells #[.string a0_0, .slice A0_1 l0_1.length c0_1] 24 (0, 0)) (by (with_reducible repeat (first | refine blk_drewN ?_ _ | refine blk_drew ?_ | refine blk_alloc ?_ _)); exact BK223.out) hb); have n1_ := Aside0.mk (blk_below (g := gb224) (o := .cells #[.string a3_0, .slice A3_1 l3_1.length c3_1] 24 (0, 0)) (by (with_reducible repeat (first | refine blk_drewN ?_ _ | refine blk_drew ?_ | refine blk_alloc ?_ _)); exact BK224.out) hb); have n2_ := Aside0.mk (blk_below (g := gb225) (o := .cells #[.string (⟨#[]⟩ : ByteArray), .slice none 0 0] 24 (0, 0)) (by (with_reducible repeat (first | refine blk_drewN ?_ _ | refine blk_drew ?_ | refine blk_alloc ?_ _)); exact BK225.out) hb); have n3_ := Aside0.mk (below_step (by repeat (first | (with_reducible first | exact HB.out | apply below_alloc | apply pw_below_drewN | apply below_drew1 | refine below_set ?_ GE223.out | refine below_set ?_ GE224.out | refine below_set ?_ GE225.out) | exact HB.out)) hb); clear BK223; clear BK224; clear BK225; clear HB; have BK223 := n0_; have BK224 := n1_; have BK225 := n2_; have HB := n3_; clear n0_ n1_ n2_ n3_; (try clear hb); (try clear hb2); (try clear hk); (try clear hi); have hnb16 := NB224_225.out; have hnc16 := NB225_224.out; have hcz17_0 : w15.cell? ⟨gb224, 0, none⟩ = some (.string a3_0) := (blk_cell BK224.out 0).trans rfl; have hcz17_1 : w15.cell? ⟨gb224, 1, none⟩ = some (.slice A3_1 l3_1.length c3_1) := (blk_cell BK224.out 1).trans rfl; have hfz17_0 := blk_frozen BK224.out 0; have hfz17_1 := blk_frozen BK224.out 1) | (go_at_call 13; (with_reducible refine (bureauref04_Good.calls k a3_0 _ _ l3_1 t227 _ ?side1 ?side2 A11.out).mono ?_); (case side1 => repeat (first | exact (Kd.C_below HR3_1.out HB.out) | (with_reducible refine Kd.C_alloc ?_ _) | (with_reducible refine Kd.C_drewN ?_ _) | (with_reducible refine Kd.C_drew ?_))); (case side2 => exact HC3_1.out); rintro e w18 ⟨rfl, hb⟩; have n0_ := Aside0.mk (blk_below (g := gb223) (o := .cells #[.string a0_0, .slice A0_1 l0_1.length c0_1] 24 (0, 0)) (by (with_reducible repeat (first | refine blk_drewN ?_ _ | refine blk_drew ?_ | refine blk_alloc ?_ _)); exact BK223.out) hb); have n1_ := Aside0.mk (blk_below (g := gb224) (o := .cells #[.string a3_0, .slice A3_1 l3_1.length c3_1] 24 (0, 0)) (by (with_reducible repeat (first | refine blk_drewN ?_ _ | refine blk_drew ?_ | refine blk_alloc ?_ _)); exact BK224.out) hb); have n2_ := Aside0.mk (blk_below (g := gb225) (o := .cells #[.string (⟨#[]⟩ : ByteArray), .slice none 0 0] 24 (0, 0)) (by (with_reducible repeat (first | refine blk_drewN ?_ _ | refine blk_drew ?_ | refine blk_alloc ?_ _)); exact BK225.out) hb); have n3_ := Aside0.mk (below_step (by repeat (first | (with_reducible first | exact HB.out | apply below_alloc | apply pw_below_drewN | apply below_drew1 | refine below_set ?_ GE223.out | refine below_set ?_ GE224.out | refine below_set ?_ GE225.out) | exact HB.out)) hb); clear BK223; clear BK224; clear BK225; clear HB; have BK223 := n0_; have BK224 := n1_; have BK225 := n2_; have HB := n3_; clear n0_ n1_ n2_ n3_; (try clear hb); (try clear hb2); (try clear hk); (try clear hi)))
      go_meet
      case rel => exact ⟨_, (!t227), (by first | rfl | (simp; done) | (simp [*]; done)), H', ⟨by first | omega | exact Nat.le_refl _⟩, ⟨by (with_reducible repeat (first | refine blk_drewN ?_ _ | refine blk_drew ?_ | refine blk_alloc ?_ _)); exact BK223.out⟩, ⟨by (with_reducible repeat (first | refine blk_drewN ?_ _ | refine blk_drew ?_ | refine blk_alloc ?_ _)); exact BK224.out⟩, ⟨by (with_reducible repeat (first | refine blk_drewN ?_ _ | refine blk_drew ?_ | refine blk_alloc ?_ _)); exact BK225.out⟩, ⟨by repeat (first | (with_reducible first | exact HB.out | apply below_alloc | apply pw_below_drewN | apply below_drew1 | refine below_set ?_ GE223.out | refine below_set ?_ GE224.out | refine below_set ?_ GE225.out) | exact HB.out)⟩⟩
    · replace c10 := Bool.eq_false_iff.mpr c10
      subst c10
      have H1 : (bureauref04_Splice.j0 k a1 a2 true a0_0 l0_1 a3_0 l3_1) = some (r1, r2, r3) := by rw [if_neg (show ¬ (false = true) by decide)] at H; exact H
      clear H
      have H := H1
      clear H1
      have H' := Aside0.mk H
      clear H
      have hnb19 := NB223_224.out
      have hnc19 := NB224_223.out
      have hnb20 := NB223_225.out
      have hnc20 := NB225_223.out
      have hcz21_0 : w8.cell? ⟨gb223, 0, none⟩ = some (.string a0_0) := (blk_cell BK223.out 0).trans rfl
      have hcz21_1 : w8.cell? ⟨gb223, 1, none⟩ = some (.slice A0_1 l0_1.length c0_1) := (blk_cell BK223.out 1).trans rfl
      have hfz21_0 := blk_frozen BK223.out 0
      have hfz21_1 := blk_frozen BK223.out 1
      go_wp2_with (first | ((with_reducible refine gate_callee (f := 42) rfl ?_); refine goesL_ (some 19) rfl rfl Try.func42 (by kernel_rfl) rfl #[.agg #[.string a0_0, .slice A0_1 l0_1.length c0_1], .int .i64 a1, .int .i64 a2] rfl (by (try simp only [List.map_toArray, List.map_cons, List.map_nil]); first | done | rfl | (simp only [List.length_drop, List.length_take]; rfl)) ?_; (with_reducible refine (bureauref04_Within.calls k a0_0 _ _ l0_1 a1 a2 false _ ?side1 ?side2 A9.out).mono ?_); (case side1 => repeat (first | exact (Kd.C_below HR0_1.out HB.out) | (with_reducible refine Kd.C_alloc ?_ _) | (with_reducible refine Kd.C_drewN ?_ _) | (with_reducible refine Kd.C_drew ?_))); (case side2 => exact HC0_1.out); rintro e w22 ⟨rfl, hb⟩; refine ⟨_, rfl, ?_⟩; have n0_ := Aside0.mk (blk_below (g := gb223) (o := .cells #[.string a0_0, .slice A0_1 l0_1.length c0_1] 24 (0, 0)) (by (with_reducible repeat (first | refine blk_drewN ?_ _ | refine blk_drew ?_ | refine blk_alloc ?_ _)); exact BK223.out) hb); have n1_ := Aside0.mk (blk_below (g := gb224) (o := .cells #[.string a3_0, .slice A3_1 l3_1.length c3_1] 24 (0, 0)) (by (with_reducible repeat (first | refine blk_drewN ?_ _ | refine blk_drew ?_ | refine blk_alloc ?_ _)); exact BK224.out) hb); have n2_ := Aside0.mk (blk_below (g := gb225) (o := .cells #[.string (⟨#[]⟩ : ByteArray), .slice none 0 0] 24 (0, 0)) (by (with_reducible repeat (first | refine blk_drewN ?_ _ | refine blk_drew ?_ | refine blk_alloc ?_ _)); exact BK225.out) hb); have n3_ := Aside0.mk (below_step (by repeat (first | (with_reducible first | exact HB.out | apply below_alloc | apply pw_below_drewN | apply below_drew1 | refine below_set ?_ GE223.out | refine below_set ?_ GE224.out | refine below_set ?_ GE225.out) | exact HB.out)) hb); clear BK223; clear BK224; clear BK225; clear HB; have BK223 := n0_; have BK224 := n1_; have BK225 := n2_; have HB := n3_; clear n0_ n1_ n2_ n3_; (try clear hb); (try clear hb2); (try clear hk); (try clear hi)))
      go_meet
      case rel => exact ⟨_, (true), (by first | rfl | (simp; done) | (simp [*]; done)), H', ⟨by first | omega | exact Nat.le_refl _⟩, ⟨by (with_reducible repeat (first | refine blk_drewN ?_ _ | refine blk_drew ?_ | refine blk_alloc ?_ _)); exact BK223.out⟩, ⟨by (with_reducible repeat (first | refine blk_drewN ?_ _ | refine blk_drew ?_ | refine blk_alloc ?_ _)); exact BK224.out⟩, ⟨by (with_reducible repeat (first | refine blk_drewN ?_ _ | refine blk_drew ?_ | refine blk_alloc ?_ _)); exact BK225.out⟩, ⟨by repeat (first | (with_reducible first | exact HB.out | apply below_alloc | apply pw_below_drewN | apply below_drew1 | refine below_set ?_ GE223.out | refine below_set ?_ GE224.out | refine below_set ?_ GE225.out) | exact HB.out)⟩⟩
  case rest =>
    clear HC5
    try clear c1
    try clear c2
    try clear p2
    try clear c3
    try clear c4
    try clear c10
    try clear c12
    try clear c13
    try clear c16
    try clear c19
    try clear c20
    try clear hcz14_0
    try clear hcz14_1
    try clear hcz17_0
    try clear hcz17_1
    try clear hcz21_0
    try clear hcz21_1
    try clear hfz14_0
    try clear hfz14_1
    try clear hfz17_0
    try clear hfz17_1
    try clear hfz21_0
    try clear hfz21_1
    obtain ⟨kq, x25_4, rfl, HA, HJ4, BK223, BK224, BK225, HB⟩ := hcut
    cases kq with
    | zero => exact absurd HA.out (by simp [bureauref04_Splice.j0])
    | succ kj4 =>
      have H := HA.out
      clear HA
      simp only [bureauref04_Splice.j0] at H
      by_cases c23 : x25_4 = true
      · subst c23
        have H1 : (some ((⟨#[]⟩ : ByteArray), ([] : List (S29)), 2)) = some (r1, r2, r3) := by rw [if_pos rfl] at H; exact H
        clear H
        have H := H1
        clear H1
        simp only [Option.some.injEq, Prod.mk.injEq] at H
        obtain ⟨rfl, rfl, rfl⟩ := H
        have hnb24 := NB225_223.out
        have hnc24 := NB223_225.out
        have hnb25 := NB225_224.out
        have hnc25 := NB224_225.out
        have hcz26_0 : wc.cell? ⟨gb225, 0, none⟩ = some (.string (⟨#[]⟩ : ByteArray)) := (blk_cell BK225.out 0).trans rfl
        have hcz26_1 : wc.cell? ⟨gb225, 1, none⟩ = some (.slice none 0 0) := (blk_cell BK225.out 1).trans rfl
        have hfz26_0 := blk_frozen BK225.out 0
        have hfz26_1 := blk_frozen BK225.out 1
        go_wp2
        refine bodyPost_ret (results_ct rfl _ _ gb225 24 #[.string (⟨#[]⟩ : ByteArray), .slice none 0 0] (0, 0) _ rfl (by (with_reducible repeat (first | refine blk_drewN ?_ _ | refine blk_drew ?_ | refine blk_alloc ?_ _)); refine blk_put (cs := #[.string (⟨#[]⟩ : ByteArray), .slice none 0 0]) ?_ 1 _ rfl; (with_reducible repeat (first | refine blk_drewN ?_ _ | refine blk_drew ?_ | refine blk_alloc ?_ _)); refine blk_put (cs := #[.string (⟨#[]⟩ : ByteArray), .slice none 0 0]) ?_ 0 _ rfl; (with_reducible repeat (first | refine blk_drewN ?_ _ | refine blk_drew ?_ | refine blk_alloc ?_ _)); exact BK225.out) Try.underlying24 rfl (by kernel_rfl)) rfl ?_
        exact ⟨_, by first | rfl | (simp [errW_none, errW_some] <;> rfl) | (simp [*, errW_none, errW_some] <;> rfl), by first | exact Kd.R_nil _ _ _ _ _ | exact Kd.N_nil _ _ _ _ _ | exact Kd.V_nil _ _ _ _ _ | exact Kd.Q_nil _ _ _ _ _ | exact Kd.S_nil _ _ _ _ _, by repeat (first | (with_reducible first | exact HB.out | apply below_alloc | apply pw_below_drewN | apply below_drew1 | refine below_set ?_ GE223.out | refine below_set ?_ GE224.out | refine below_set ?_ GE225.out) | exact HB.out)⟩
      · replace c23 := Bool.eq_false_iff.mpr c23
        subst c23
        have H1 : (if (wrap64 ((wrap64 ((a0_0.size : Int) - (wrap64 (a2 - a1)))) + (a3_0.size : Int))) > 4096 then (some ((⟨#[]⟩ : ByteArray), ([] : List (S29)), 3)) else ((bureauref03_Bytes.f kj4 l0_1).bind fun t228 => ((bureauref03_Bytes.f kj4 l3_1).bind fun t231 => (bureauref04_Splice.l0 kj4 a1 a2 t228 t231 ([] : List Int) 0 a0_0 l0_1 a3_0 l3_1)))) = some (r1, r2, r3) := by rw [if_neg (show ¬ (false = true) by decide)] at H; exact H
        clear H
        have H := H1
        clear H1
        by_cases c27 : (wrap64 ((wrap64 ((a0_0.size : Int) - (wrap64 (a2 - a1)))) + (a3_0.size : Int))) > 4096
        · rw [if_pos c27] at H
          have c27b0 : decide (4096 < (wrap64 ((wrap64 ((a0_0.size : Int) - (wrap64 (a2 - a1)))) + (a3_0.size : Int)))) = true := decide_eq_true c27
          clear c27
          simp only [Option.some.injEq, Prod.mk.injEq] at H
          obtain ⟨rfl, rfl, rfl⟩ := H
          have hnb28 := NB223_224.out
          have hnc28 := NB224_223.out
          have hnb29 := NB223_225.out
          have hnc29 := NB225_223.out
          have hcz30_0 : wc.cell? ⟨gb223, 0, none⟩ = some (.string a0_0) := (blk_cell BK223.out 0).trans rfl
          have hcz30_1 : wc.cell? ⟨gb223, 1, none⟩ = some (.slice A0_1 l0_1.length c0_1) := (blk_cell BK223.out 1).trans rfl
          have hfz30_0 := blk_frozen BK223.out 0
          have hfz30_1 := blk_frozen BK223.out 1
          have hnb31 := NB224_225.out
          have hnc31 := NB225_224.out
          have hcz32_0 : wc.cell? ⟨gb224, 0, none⟩ = some (.string a3_0) := (blk_cell BK224.out 0).trans rfl
          have hcz32_1 : wc.cell? ⟨gb224, 1, none⟩ = some (.slice A3_1 l3_1.length c3_1) := (blk_cell BK224.out 1).trans rfl
          have hfz32_0 := blk_frozen BK224.out 0
          have hfz32_1 := blk_frozen BK224.out 1
          have hcz33_0 : wc.cell? ⟨gb225, 0, none⟩ = some (.string (⟨#[]⟩ : ByteArray)) := (blk_cell BK225.out 0).trans rfl
          have hcz33_1 : wc.cell? ⟨gb225, 1, none⟩ = some (.slice none 0 0) := (blk_cell BK225.out 1).trans rfl
          have hfz33_0 := blk_frozen BK225.out 0
          have hfz33_1 := blk_frozen BK225.out 1
          go_wp2
          refine bodyPost_ret (results_ct rfl _ _ gb225 24 #[.string (⟨#[]⟩ : ByteArray), .slice none 0 0] (0, 0) _ rfl (by (with_reducible repeat (first | refine blk_drewN ?_ _ | refine blk_drew ?_ | refine blk_alloc ?_ _)); refine blk_put (cs := #[.string (⟨#[]⟩ : ByteArray), .slice none 0 0]) ?_ 1 _ rfl; (with_reducible repeat (first | refine blk_drewN ?_ _ | refine blk_drew ?_ | refine blk_alloc ?_ _)); refine blk_put (cs := #[.string (⟨#[]⟩ : ByteArray), .slice none 0 0]) ?_ 0 _ rfl; (with_reducible repeat (first | refine blk_drewN ?_ _ | refine blk_drew ?_ | refine blk_alloc ?_ _)); exact BK225.out) Try.underlying24 rfl (by kernel_rfl)) rfl ?_
          exact ⟨_, by first | rfl | (simp [errW_none, errW_some] <;> rfl) | (simp [*, errW_none, errW_some] <;> rfl), by first | exact Kd.R_nil _ _ _ _ _ | exact Kd.N_nil _ _ _ _ _ | exact Kd.V_nil _ _ _ _ _ | exact Kd.Q_nil _ _ _ _ _ | exact Kd.S_nil _ _ _ _ _, by repeat (first | (with_reducible first | exact HB.out | apply below_alloc | apply pw_below_drewN | apply below_drew1 | refine below_set ?_ GE223.out | refine below_set ?_ GE224.out | refine below_set ?_ GE225.out) | exact HB.out)⟩
        · rw [if_neg c27] at H
          have c27b0 : decide (4096 < (wrap64 ((wrap64 ((a0_0.size : Int) - (wrap64 (a2 - a1)))) + (a3_0.size : Int)))) = false := decide_eq_false c27
          clear c27
          replace H := Option.bind_eq_some_iff.mp H
          obtain ⟨t228, A340, H⟩ := H
          replace H : ((bureauref03_Bytes.f kj4 l3_1).bind fun t231 => (bureauref04_Splice.l0 kj4 a1 a2 t228 t231 ([] : List Int) 0 a0_0 l0_1 a3_0 l3_1)) = some (r1, r2, r3) := H
          have A34 := Aside0.mk A340
          clear A340
          replace H := Option.bind_eq_some_iff.mp H
          obtain ⟨t231, A350, H⟩ := H
          replace H : (bureauref04_Splice.l0 kj4 a1 a2 t228 t231 ([] : List Int) 0 a0_0 l0_1 a3_0 l3_1) = some (r1, r2, r3) := H
          have A35 := Aside0.mk A350
          clear A350
          have H' := Aside0.mk H
          clear H
          have hnb36 := NB223_224.out
          have hnc36 := NB224_223.out
          have hnb37 := NB223_225.out
          have hnc37 := NB225_223.out
          have hcz38_0 : wc.cell? ⟨gb223, 0, none⟩ = some (.string a0_0) := (blk_cell BK223.out 0).trans rfl
          have hcz38_1 : wc.cell? ⟨gb223, 1, none⟩ = some (.slice A0_1 l0_1.length c0_1) := (blk_cell BK223.out 1).trans rfl
          have hfz38_0 := blk_frozen BK223.out 0
          have hfz38_1 := blk_frozen BK223.out 1
          have hnb39 := NB224_225.out
          have hnc39 := NB225_224.out
          have hcz40_0 : wc.cell? ⟨gb224, 0, none⟩ = some (.string a3_0) := (blk_cell BK224.out 0).trans rfl
          have hcz40_1 : wc.cell? ⟨gb224, 1, none⟩ = some (.slice A3_1 l3_1.length c3_1) := (blk_cell BK224.out 1).trans rfl
          have hfz40_0 := blk_frozen BK224.out 0
          have hfz40_1 := blk_frozen BK224.out 1
          go_wp2_with (first | ((with_reducible refine gate_callee (f := 43) rfl ?_); refine goesL_ (some 42) rfl rfl Try.func43 (by kernel_rfl) rfl #[.slice A0_1 l0_1.length c0_1] rfl (by (try simp only [List.map_toArray, List.map_cons, List.map_nil]); first | done | rfl | (simp only [List.length_drop, List.length_take]; rfl)) ?_; (with_reducible refine (bureauref03_Bytes.calls kj4 _ _ l0_1 t228 _ ?side1 ?side2 A34.out).mono ?_); (case side1 => repeat (first | exact (Kd.C_below HR0_1.out HB.out) | (with_reducible refine Kd.C_alloc ?_ _) | (with_reducible refine Kd.C_drewN ?_ _) | (with_reducible refine Kd.C_drew ?_))); (case side2 => exact HC0_1.out); rintro e w41 ⟨v229, rfl, ho0, hb⟩; refine ⟨_, rfl, ?_⟩; have n0_ := Aside0.mk (Kd.R_lower ho0 (below_size (by repeat (first | (with_reducible first | exact HB.out | apply below_alloc | apply pw_below_drewN | apply below_drew1 | refine below_set ?_ GE223.out | refine below_set ?_ GE224.out | refine below_set ?_ GE225.out) | exact HB.out)))); have n1_ := Aside0.mk (blk_below (g := gb223) (o := .cells #[.string a0_0, .slice A0_1 l0_1.length c0_1] 24 (0, 0)) (by (with_reducible repeat (first | refine blk_drewN ?_ _ | refine blk_drew ?_ | refine blk_alloc ?_ _)); exact BK223.out) hb); have n2_ := Aside0.mk (blk_below (g := gb224) (o := .cells #[.string a3_0, .slice A3_1 l3_1.length c3_1] 24 (0, 0)) (by (with_reducible repeat (first | refine blk_drewN ?_ _ | refine blk_drew ?_ | refine blk_alloc ?_ _)); exact BK224.out) hb); have n3_ := Aside0.mk (blk_below (g := gb225) (o := .cells #[.string (⟨#[]⟩ : ByteArray), .slice none 0 0] 24 (0, 0)) (by (with_reducible repeat (first | refine blk_drewN ?_ _ | refine blk_drew ?_ | refine blk_alloc ?_ _)); exact BK225.out) hb); have n4_ := Aside0.mk (below_step (by repeat (first | (with_reducible first | exact HB.out | apply below_alloc | apply pw_below_drewN | apply below_drew1 | refine below_set ?_ GE223.out | refine below_set ?_ GE224.out | refine below_set ?_ GE225.out) | exact HB.out)) hb); clear BK223; clear BK224; clear BK225; clear HB; have HO230 := n0_; have BK223 := n1_; have BK224 := n2_; have BK225 := n3_; have HB := n4_; clear n0_ n1_ n2_ n3_ n4_; (try clear hb); (try clear hb2); (try clear hk); (try clear hi); (try clear ho0); have hcz42_0 : w41.cell? ⟨gb224, 0, none⟩ = some (.string a3_0) := (blk_cell BK224.out 0).trans rfl; have hcz42_1 : w41.cell? ⟨gb224, 1, none⟩ = some (.slice A3_1 l3_1.length c3_1) := (blk_cell BK224.out 1).trans rfl; have hfz42_0 := blk_frozen BK224.out 0; have hfz42_1 := blk_frozen BK224.out 1) | ((with_reducible refine gate_callee (f := 43) rfl ?_); refine goesL_ (some 45) rfl rfl Try.func43 (by kernel_rfl) rfl #[.slice A3_1 l3_1.length c3_1] rfl (by (try simp only [List.map_toArray, List.map_cons, List.map_nil]); first | done | rfl | (simp only [List.length_drop, List.length_take]; rfl)) ?_; (with_reducible refine (bureauref03_Bytes.calls kj4 _ _ l3_1 t231 _ ?side1 ?side2 A35.out).mono ?_); (case side1 => repeat (first | exact (Kd.C_below HR3_1.out HB.out) | (with_reducible refine Kd.C_alloc ?_ _) | (with_reducible refine Kd.C_drewN ?_ _) | (with_reducible refine Kd.C_drew ?_))); (case side2 => exact HC3_1.out); rintro e w43 ⟨v232, rfl, ho0, hb⟩; refine ⟨_, rfl, ?_⟩; have n0_ := Aside0.mk (Kd.R_elder' (by (with_reducible repeat (first | apply Kd.R_alloc | apply Kd.R_drewN | apply Kd.R_drew)); exact HO230.out) (Kd.R_base ho0) hb); have n1_ := Aside0.mk (Kd.R_lower (Kd.R_new' ho0 (Kd.R_lt (by (with_reducible repeat (first | apply Kd.R_alloc | apply Kd.R_drewN | apply Kd.R_drew)); exact HO230.out))) (below_size (by repeat (first | (with_reducible first | exact HB.out | apply below_alloc | apply pw_below_drewN | apply below_drew1 | refine below_set ?_ GE223.out | refine below_set ?_ GE224.out | refine below_set ?_ GE225.out) | exact HB.out)))); have n2_ := Aside0.mk (blk_below (g := gb223) (o := .cells #[.string a0_0, .slice A0_1 l0_1.length c0_1] 24 (0, 0)) (by (with_reducible repeat (first | refine blk_drewN ?_ _ | refine blk_drew ?_ | refine blk_alloc ?_ _)); exact BK223.out) hb); have n3_ := Aside0.mk (blk_below (g := gb224) (o := .cells #[.string a3_0, .slice A3_1 l3_1.length c3_1] 24 (0, 0)) (by (with_reducible repeat (first | refine blk_drewN ?_ _ | refine blk_drew ?_ | refine blk_alloc ?_ _)); exact BK224.out) hb); have n4_ := Aside0.mk (blk_below (g := gb225) (o := .cells #[.string (⟨#[]⟩ : ByteArray), .slice none 0 0] 24 (0, 0)) (by (with_reducible repeat (first | refine blk_drewN ?_ _ | refine blk_drew ?_ | refine blk_alloc ?_ _)); exact BK225.out) hb); have n5_ := Aside0.mk (below_step (by repeat (first | (with_reducible first | exact HB.out | apply below_alloc | apply pw_below_drewN | apply below_drew1 | refine below_set ?_ GE223.out | refine below_set ?_ GE224.out | refine below_set ?_ GE225.out) | exact HB.out)) hb); clear HO230; clear BK223; clear BK224; clear BK225; clear HB; have HO230 := n0_; have HO233 := n1_; have BK223 := n2_; have BK224 := n3_; have BK225 := n4_; have HB := n5_; clear n0_ n1_ n2_ n3_ n4_ n5_; (try clear hb); (try clear hb2); (try clear hk); (try clear hi); (try clear ho0)))
          go_loopg [12, 13] kj4 (fun kq v12 v13 w' => ∃ (x12_2 : List Int) (x13_2 : Int), v13 = .int .i64 x13_2 ∧ Aside0 (bureauref04_Splice.l0 kq a1 a2 t228 t231 x12_2 x13_2 a0_0 l0_1 a3_0 l3_1 = some (r1, r2, r3)) ∧ Aside0 (kq ≤ kj4) ∧ Aside0 (Kd.R (Kd.int .u64) 27 w' w.heap.size (fun k_ => some k_ ≠ (v232 : Value).ownBlock ∧ some k_ ≠ (v12 : Value).ownBlock) v229 t228) ∧ Aside0 (Kd.R (Kd.int .u64) 27 w' w.heap.size (fun k_ => some k_ ≠ (v229 : Value).ownBlock ∧ some k_ ≠ (v12 : Value).ownBlock) v232 t231) ∧ Aside0 (Kd.R (Kd.int .u64) 27 w' w.heap.size (fun k_ => some k_ ≠ (v229 : Value).ownBlock ∧ some k_ ≠ (v232 : Value).ownBlock) v12 x12_2) ∧ Aside0 (w'.heap[gb223]? = some (.cells #[.string a0_0, (.slice A0_1 l0_1.length c0_1)] 24 (0, 0))) ∧ Aside0 (w'.heap[gb224]? = some (.cells #[.string a3_0, (.slice A3_1 l3_1.length c3_1)] 24 (0, 0))) ∧ Aside0 (w'.heap[gb225]? = some (.cells #[.string (⟨#[]⟩ : ByteArray), (.slice none 0 0)] 24 (0, 0))) ∧ Aside0 (Below w.heap.size w w'))
          case atStart => exact ⟨(([] : List Int)), (0), (by first | rfl | (simp; done) | (simp [*]; done)), H', ⟨Nat.le_refl _⟩, ⟨by (with_reducible repeat (first | apply Kd.R_alloc | apply Kd.R_drewN | apply Kd.R_drew)); exact Kd.R_mono HO230.out (fun _ hk => ⟨hk.2, (by simp [Value.ownBlock])⟩)⟩, ⟨by (with_reducible repeat (first | apply Kd.R_alloc | apply Kd.R_drewN | apply Kd.R_drew)); exact Kd.R_mono HO233.out (fun _ hk => ⟨hk.2, (by simp [Value.ownBlock])⟩)⟩, ⟨by first | exact Kd.R_nil _ _ _ _ _ | exact Kd.N_nil _ _ _ _ _ | exact Kd.V_nil _ _ _ _ _ | exact Kd.Q_nil _ _ _ _ _ | exact Kd.S_nil _ _ _ _ _⟩, ⟨by (with_reducible repeat (first | refine blk_drewN ?_ _ | refine blk_drew ?_ | refine blk_alloc ?_ _)); exact BK223.out⟩, ⟨by (with_reducible repeat (first | refine blk_drewN ?_ _ | refine blk_drew ?_ | refine blk_alloc ?_ _)); exact BK224.out⟩, ⟨by (with_reducible repeat (first | refine blk_drewN ?_ _ | refine blk_drew ?_ | refine blk_alloc ?_ _)); exact BK225.out⟩, ⟨by repeat (first | (with_reducible first | exact HB.out | apply below_alloc | apply pw_below_drewN | apply below_drew1 | refine below_set ?_ GE223.out | refine below_set ?_ GE224.out | refine below_set ?_ GE225.out) | exact HB.out)⟩⟩
          case round =>
            clear H'
            try clear c1
            try clear c2
            try clear p2
            try clear c3
            try clear c4
            try clear p6
            try clear c10
            try clear c12
            try clear c13
            try clear c16
            try clear c19
            try clear c20
            try clear c23
            try clear c24
            try clear c25
            try clear c27
            try clear c27b0
            try clear c28
            try clear c29
            try clear c31
            try clear c36
            try clear c37
            try clear c39
            try clear c42
            try clear c43
            try clear hcz14_0
            try clear hcz14_1
            try clear hcz17_0
            try clear hcz17_1
            try clear hcz21_0
            try clear hcz21_1
            try clear hcz26_0
            try clear hcz26_1
            try clear hcz30_0
            try clear hcz30_1
            try clear hcz32_0
            try clear hcz32_1
            try clear hcz33_0
            try clear hcz33_1
            try clear hcz38_0
            try clear hcz38_1
            try clear hcz40_0
            try clear hcz40_1
            try clear hcz42_0
            try clear hcz42_1
            try clear hfz14_0
            try clear hfz14_1
            try clear hfz17_0
            try clear hfz17_1
            try clear hfz21_0
            try clear hfz21_1
            try clear hfz26_0
            try clear hfz26_1
            try clear hfz30_0
            try clear hfz30_1
            try clear hfz32_0
            try clear hfz32_1
            try clear hfz33_0
            try clear hfz33_1
            try clear hfz38_0
            try clear hfz38_1
            try clear hfz40_0
            try clear hfz40_1
            try clear hfz42_0
            try clear hfz42_1
            try clear p2
            obtain ⟨x12_2, x13_2, rfl, HA, HK2, HO_10, HO_11, HO_12, BK223, BK224, BK225, HB⟩ := hrel
            cases gk with
            | zero => exact absurd HA.out (by simp [bureauref04_Splice.l0])
            | succ k2 =>
              have H := HA.out
              clear HA
              simp only [bureauref04_Splice.l0] at H
              by_cases c44 : x13_2 < a1
              · rw [if_pos c44] at H
                have c44b0 : decide (x13_2 < a1) = true := decide_eq_true c44
                clear c44
                by_cases c45 : 0 ≤ x13_2
                · rw [if_pos c45] at H
                  have c45b0 : decide (0 ≤ x13_2) = true := decide_eq_true c45
                  clear c45
                  by_cases c46 : x13_2 < (t228.length : Int)
                  · rw [if_pos c46] at H
                    have c46b0 : decide (x13_2 < (t228.length : Int)) = true := decide_eq_true c46
                    clear c46
                    by_cases c47 : x12_2.length < 17592186044416
                    · rw [if_pos c47] at H
                      have LMc47 := Aside0.mk c47
                      clear c47
                      obtain ⟨y235, hy235⟩ : ∃ y_ : List Int, y_ = (x12_2 ++ [rd t228 x13_2]) := ⟨_, rfl⟩
                      replace H : (bureauref04_Splice.l0 k2 a1 a2 t228 t231 y235 (wrap64 (x13_2 + 1)) a0_0 l0_1 a3_0 l3_1) = some (r1, r2, r3) := by first | (rw [hy235]; with_reducible exact H) | (have H2_ := (Option.bind_some _ _).symm.trans H; rw [hy235]; with_reducible exact H2_) | (have H2_ := (Option.bind_some _ _).symm.trans H; with_reducible exact H2_) | with_reducible exact H | (rw [hy235]; exact H) | exact H
                      have Ny235 := Aside0.mk hy235
                      clear hy235
                      have H' := Aside0.mk H
                      clear H
                      obtain ⟨Ao48, co48, eo48⟩ := Kd.R_slice HO_10.out
                      subst eo48
                      have p234 : 0 ≤ (x13_2 : Int) := of_decide_eq_true (by first | (with_reducible assumption) | assumption)
                      have q234 : x13_2 < (t228.length : Int) := of_decide_eq_true (by first | (with_reducible assumption) | assumption)
                      obtain ⟨ad234, e234, hx234_0⟩ := Kd.at_int (Kd.R_reads' HO_10.out).2.2 x13_2 p234 q234
                      cases e234
                      replace p234 := eq_true p234
                      replace q234 := eq_true q234
                      go_wp2_with (first | ((with_reducible refine gate_builtin (b := .append) (xs := #[.tmp 51, .tmp 56]) rfl ?_); at_builtin; refine Kd.R_append (Kd.int .u64) (w0 := w) w.heap.size rfl (.tmp 51) (.tmp 56) 95 27 (.int .u64 0) 8 rfl Try.underlying95 info27 rfl (by decide) (by omega) u12 x12_2 (rd t228 x13_2) [.int .u64 (rd t228 x13_2)] (fun k_ => some k_ ≠ (.slice (some ad234) t228.length co48 : Value).ownBlock ∧ some k_ ≠ (v232 : Value).ownBlock) (fun _ => False) rfl rfl ?aP (fun _ hk => hk.elim) ?aF ?aO ?aB ?aS ?aL ?_; (case aP => exact rfl); (case aB => exact (by repeat (first | (with_reducible first | exact HB.out | apply below_alloc | apply pw_below_drewN | apply below_drew1 | refine below_set ?_ GE223.out | refine below_set ?_ GE224.out | refine below_set ?_ GE225.out) | exact HB.out))); (case aF => exact (fun k_ hk => ⟨Kd.fresh' (Kd.R_lt (by (with_reducible repeat (first | apply Kd.R_alloc | apply Kd.R_drewN | apply Kd.R_drew)); exact HO_10.out)) k_ hk, Kd.fresh' (Kd.R_lt (by (with_reducible repeat (first | apply Kd.R_alloc | apply Kd.R_drewN | apply Kd.R_drew)); exact HO_11.out)) k_ hk⟩)); (case aO => exact (by (with_reducible repeat (first | apply Kd.R_alloc | apply Kd.R_drewN | apply Kd.R_drew)); exact HO_12.out)); (case aS => exact (below_size (by repeat (first | (with_reducible first | exact HB.out | apply below_alloc | apply pw_below_drewN | apply below_drew1 | refine below_set ?_ GE223.out | refine below_set ?_ GE224.out | refine below_set ?_ GE225.out) | exact HB.out)))); (case aL => have := LMc47.out; omega); intro v236 w49 ho hb hg hat; rw [← Ny235.out] at ho; have n0_ := Aside0.mk (Kd.R_after (ok := (fun k_ => some k_ ≠ (v232 : Value).ownBlock)) (by (with_reducible repeat (first | apply Kd.R_alloc | apply Kd.R_drewN | apply Kd.R_drew)); exact HO_10.out) hg hat); have n1_ := Aside0.mk (Kd.R_after (ok := (fun k_ => some k_ ≠ (.slice (some ad234) t228.length co48 : Value).ownBlock)) (by (with_reducible repeat (first | apply Kd.R_alloc | apply Kd.R_drewN | apply Kd.R_drew)); exact HO_11.out) hg hat); have n2_ := Aside0.mk (blk_grown (g := gb223) (o := .cells #[.string a0_0, .slice A0_1 l0_1.length c0_1] 24 (0, 0)) (by (with_reducible repeat (first | refine blk_drewN ?_ _ | refine blk_drew ?_ | refine blk_alloc ?_ _)); exact BK223.out) hg (Kd.R_ne HO_12.out BK223.out (by decide))); have n3_ := Aside0.mk (blk_grown (g := gb224) (o := .cells #[.string a3_0, .slice A3_1 l3_1.length c3_1] 24 (0, 0)) (by (with_reducible repeat (first | refine blk_drewN ?_ _ | refine blk_drew ?_ | refine blk_alloc ?_ _)); exact BK224.out) hg (Kd.R_ne HO_12.out BK224.out (by decide))); have n4_ := Aside0.mk (blk_grown (g := gb225) (o := .cells #[.string (⟨#[]⟩ : ByteArray), .slice none 0 0] 24 (0, 0)) (by (with_reducible repeat (first | refine blk_drewN ?_ _ | refine blk_drew ?_ | refine blk_alloc ?_ _)); exact BK225.out) hg (Kd.R_ne HO_12.out BK225.out (by decide))); have n5_ := Aside0.mk (hb); have n6_ := Aside0.mk (ho); clear HO_10; clear HO_11; clear BK223; clear BK224; clear BK225; clear HB; clear HO_12; have HO_10 := n0_; have HO_11 := n1_; have BK223 := n2_; have BK224 := n3_; have BK225 := n4_; have HB := n5_; have HO237 := n6_; clear n0_ n1_ n2_ n3_ n4_ n5_ n6_; clear ho hb hg hat))
                      go_roundg k2
                      case measure => have := HJ4.out; have := HK2.out; omega
                      case rel => exact ⟨(y235), (wrap64 (x13_2 + 1)), (by first | rfl | (simp; done) | (simp [*]; done)), H', ⟨by have := HJ4.out; have := HK2.out; omega⟩, ⟨by (with_reducible repeat (first | apply Kd.R_alloc | apply Kd.R_drewN | apply Kd.R_drew)); exact HO_10.out⟩, ⟨by (with_reducible repeat (first | apply Kd.R_alloc | apply Kd.R_drewN | apply Kd.R_drew)); exact HO_11.out⟩, ⟨by (with_reducible repeat (first | apply Kd.R_alloc | apply Kd.R_drewN | apply Kd.R_drew)); exact HO237.out⟩, ⟨by (with_reducible repeat (first | refine blk_drewN ?_ _ | refine blk_drew ?_ | refine blk_alloc ?_ _)); exact BK223.out⟩, ⟨by (with_reducible repeat (first | refine blk_drewN ?_ _ | refine blk_drew ?_ | refine blk_alloc ?_ _)); exact BK224.out⟩, ⟨by (with_reducible repeat (first | refine blk_drewN ?_ _ | refine blk_drew ?_ | refine blk_alloc ?_ _)); exact BK225.out⟩, ⟨by repeat (first | (with_reducible first | exact HB.out | apply below_alloc | apply pw_below_drewN | apply below_drew1 | refine below_set ?_ GE223.out | refine below_set ?_ GE224.out | refine below_set ?_ GE225.out) | exact HB.out)⟩⟩
                    · rw [if_neg c47] at H
                      exact absurd H (by simp)
                  · rw [if_neg c46] at H
                    exact absurd H (by simp)
                · rw [if_neg c45] at H
                  exact absurd H (by simp)
              · rw [if_neg c44] at H
                have c44b0 : decide (x13_2 < a1) = false := decide_eq_false c44
                clear c44
                have H' := Aside0.mk H
                clear H
                go_wp2
                go_loopg [12, 14] k2 (fun kq v12 v14 w' => ∃ (x12_3 : List Int) (x14_3 : Int), v14 = .int .i64 x14_3 ∧ Aside0 (bureauref04_Splice.l1 kq a1 a2 t228 t231 x12_3 x14_3 a0_0 l0_1 a3_0 l3_1 = some (r1, r2, r3)) ∧ Aside0 (kq ≤ k2) ∧ Aside0 (Kd.R (Kd.int .u64) 27 w' w.heap.size (fun k_ => some k_ ≠ (v232 : Value).ownBlock ∧ some k_ ≠ (v12 : Value).ownBlock) v229 t228) ∧ Aside0 (Kd.R (Kd.int .u64) 27 w' w.heap.size (fun k_ => some k_ ≠ (v229 : Value).ownBlock ∧ some k_ ≠ (v12 : Value).ownBlock) v232 t231) ∧ Aside0 (Kd.R (Kd.int .u64) 27 w' w.heap.size (fun k_ => some k_ ≠ (v229 : Value).ownBlock ∧ some k_ ≠ (v232 : Value).ownBlock) v12 x12_3) ∧ Aside0 (w'.heap[gb223]? = some (.cells #[.string a0_0, (.slice A0_1 l0_1.length c0_1)] 24 (0, 0))) ∧ Aside0 (w'.heap[gb224]? = some (.cells #[.string a3_0, (.slice A3_1 l3_1.length c3_1)] 24 (0, 0))) ∧ Aside0 (w'.heap[gb225]? = some (.cells #[.string (⟨#[]⟩ : ByteArray), (.slice none 0 0)] 24 (0, 0))) ∧ Aside0 (Below w.heap.size w w'))
                case atStart => exact ⟨(x12_2), (0), (by first | rfl | (simp; done) | (simp [*]; done)), H', ⟨Nat.le_refl _⟩, ⟨by (with_reducible repeat (first | apply Kd.R_alloc | apply Kd.R_drewN | apply Kd.R_drew)); exact HO_10.out⟩, ⟨by (with_reducible repeat (first | apply Kd.R_alloc | apply Kd.R_drewN | apply Kd.R_drew)); exact HO_11.out⟩, ⟨by (with_reducible repeat (first | apply Kd.R_alloc | apply Kd.R_drewN | apply Kd.R_drew)); exact HO_12.out⟩, ⟨by (with_reducible repeat (first | refine blk_drewN ?_ _ | refine blk_drew ?_ | refine blk_alloc ?_ _)); exact BK223.out⟩, ⟨by (with_reducible repeat (first | refine blk_drewN ?_ _ | refine blk_drew ?_ | refine blk_alloc ?_ _)); exact BK224.out⟩, ⟨by (with_reducible repeat (first | refine blk_drewN ?_ _ | refine blk_drew ?_ | refine blk_alloc ?_ _)); exact BK225.out⟩, ⟨by repeat (first | (with_reducible first | exact HB.out | apply below_alloc | apply pw_below_drewN | apply below_drew1 | refine below_set ?_ GE223.out | refine below_set ?_ GE224.out | refine below_set ?_ GE225.out) | exact HB.out)⟩⟩
                case round =>
                  clear H'
                  try clear c1
                  try clear c2
                  try clear p2
                  try clear q2
                  try clear hx2
                  try clear c3
                  try clear c4
                  try clear p6
                  try clear c10
                  try clear c12
                  try clear c13
                  try clear c16
                  try clear c19
                  try clear c20
                  try clear c23
                  try clear p23
                  try clear q23
                  try clear hx23
                  try clear c24
                  try clear c25
                  try clear c27
                  try clear c27b0
                  try clear c28
                  try clear c29
                  try clear c31
                  try clear c36
                  try clear c37
                  try clear c39
                  try clear c42
                  try clear c43
                  try clear c44
                  try clear c44b0
                  try clear c45
                  try clear c45b0
                  try clear c46
                  try clear c46b0
                  try clear c47
                  try clear hcz14_0
                  try clear hcz14_1
                  try clear hcz17_0
                  try clear hcz17_1
                  try clear hcz21_0
                  try clear hcz21_1
                  try clear hcz26_0
                  try clear hcz26_1
                  try clear hcz30_0
                  try clear hcz30_1
                  try clear hcz32_0
                  try clear hcz32_1
                  try clear hcz33_0
                  try clear hcz33_1
                  try clear hcz38_0
                  try clear hcz38_1
                  try clear hcz40_0
                  try clear hcz40_1
                  try clear hcz42_0
                  try clear hcz42_1
                  try clear hfz14_0
                  try clear hfz14_1
                  try clear hfz17_0
                  try clear hfz17_1
                  try clear hfz21_0
                  try clear hfz21_1
                  try clear hfz26_0
                  try clear hfz26_1
                  try clear hfz30_0
                  try clear hfz30_1
                  try clear hfz32_0
                  try clear hfz32_1
                  try clear hfz33_0
                  try clear hfz33_1
                  try clear hfz38_0
                  try clear hfz38_1
                  try clear hfz40_0
                  try clear hfz40_1
                  try clear hfz42_0
                  try clear hfz42_1
                  try clear hx234_0
                  try clear p2
                  try clear p234
                  try clear p6
                  try clear q234
                  obtain ⟨x12_3, x14_3, rfl, HA, HK3, HO_10, HO_11, HO_12, BK223, BK224, BK225, HB⟩ := hrel
                  cases gk with
                  | zero => exact absurd HA.out (by simp [bureauref04_Splice.l1])
                  | succ k3 =>
                    have H := HA.out
                    clear HA
                    simp only [bureauref04_Splice.l1] at H
                    by_cases c50 : x14_3 < (t231.length : Int)
                    · rw [if_pos c50] at H
                      have c50b0 : decide (x14_3 < (t231.length : Int)) = true := decide_eq_true c50
                      clear c50
                      by_cases c51 : 0 ≤ x14_3
                      · rw [if_pos c51] at H
                        have c51b0 : decide (0 ≤ x14_3) = true := decide_eq_true c51
                        clear c51
                        by_cases c52 : x12_3.length < 17592186044416
                        · rw [if_pos c52] at H
                          have LMc52 := Aside0.mk c52
                          clear c52
                          obtain ⟨y239, hy239⟩ : ∃ y_ : List Int, y_ = (x12_3 ++ [rd t231 x14_3]) := ⟨_, rfl⟩
                          replace H : (bureauref04_Splice.l1 k3 a1 a2 t228 t231 y239 (wrap64 (x14_3 + 1)) a0_0 l0_1 a3_0 l3_1) = some (r1, r2, r3) := by first | (rw [hy239]; with_reducible exact H) | (have H2_ := (Option.bind_some _ _).symm.trans H; rw [hy239]; with_reducible exact H2_) | (have H2_ := (Option.bind_some _ _).symm.trans H; with_reducible exact H2_) | with_reducible exact H | (rw [hy239]; exact H) | exact H
                          have Ny239 := Aside0.mk hy239
                          clear hy239
                          have H' := Aside0.mk H
                          clear H
                          obtain ⟨Ao53, co53, eo53⟩ := Kd.R_slice HO_11.out
                          subst eo53
                          have p238 : 0 ≤ (x14_3 : Int) := of_decide_eq_true (by first | (with_reducible assumption) | assumption)
                          have q238 : x14_3 < (t231.length : Int) := of_decide_eq_true (by first | (with_reducible assumption) | assumption)
                          obtain ⟨ad238, e238, hx238_0⟩ := Kd.at_int (Kd.R_reads' HO_11.out).2.2 x14_3 p238 q238
                          cases e238
                          replace p238 := eq_true p238
                          replace q238 := eq_true q238
                          go_wp2_with (first | ((with_reducible refine gate_builtin (b := .append) (xs := #[.tmp 64, .tmp 69]) rfl ?_); at_builtin; refine Kd.R_append (Kd.int .u64) (w0 := w) w.heap.size rfl (.tmp 64) (.tmp 69) 95 27 (.int .u64 0) 8 rfl Try.underlying95 info27 rfl (by decide) (by omega) u12 x12_3 (rd t231 x14_3) [.int .u64 (rd t231 x14_3)] (fun k_ => some k_ ≠ (v229 : Value).ownBlock ∧ some k_ ≠ (.slice (some ad238) t231.length co53 : Value).ownBlock) (fun _ => False) rfl rfl ?aP (fun _ hk => hk.elim) ?aF ?aO ?aB ?aS ?aL ?_; (case aP => exact rfl); (case aB => exact (by repeat (first | (with_reducible first | exact HB.out | apply below_alloc | apply pw_below_drewN | apply below_drew1 | refine below_set ?_ GE223.out | refine below_set ?_ GE224.out | refine below_set ?_ GE225.out) | exact HB.out))); (case aF => exact (fun k_ hk => ⟨Kd.fresh' (Kd.R_lt (by (with_reducible repeat (first | apply Kd.R_alloc | apply Kd.R_drewN | apply Kd.R_drew)); exact HO_10.out)) k_ hk, Kd.fresh' (Kd.R_lt (by (with_reducible repeat (first | apply Kd.R_alloc | apply Kd.R_drewN | apply Kd.R_drew)); exact HO_11.out)) k_ hk⟩)); (case aO => exact (by (with_reducible repeat (first | apply Kd.R_alloc | apply Kd.R_drewN | apply Kd.R_drew)); exact HO_12.out)); (case aS => exact (below_size (by repeat (first | (with_reducible first | exact HB.out | apply below_alloc | apply pw_below_drewN | apply below_drew1 | refine below_set ?_ GE223.out | refine below_set ?_ GE224.out | refine below_set ?_ GE225.out) | exact HB.out)))); (case aL => have := LMc52.out; omega); intro v240 w54 ho hb hg hat; rw [← Ny239.out] at ho; have n0_ := Aside0.mk (Kd.R_after (ok := (fun k_ => some k_ ≠ (.slice (some ad238) t231.length co53 : Value).ownBlock)) (by (with_reducible repeat (first | apply Kd.R_alloc | apply Kd.R_drewN | apply Kd.R_drew)); exact HO_10.out) hg hat); have n1_ := Aside0.mk (Kd.R_after (ok := (fun k_ => some k_ ≠ (v229 : Value).ownBlock)) (by (with_reducible repeat (first | apply Kd.R_alloc | apply Kd.R_drewN | apply Kd.R_drew)); exact HO_11.out) hg hat); have n2_ := Aside0.mk (blk_grown (g := gb223) (o := .cells #[.string a0_0, .slice A0_1 l0_1.length c0_1] 24 (0, 0)) (by (with_reducible repeat (first | refine blk_drewN ?_ _ | refine blk_drew ?_ | refine blk_alloc ?_ _)); exact BK223.out) hg (Kd.R_ne HO_12.out BK223.out (by decide))); have n3_ := Aside0.mk (blk_grown (g := gb224) (o := .cells #[.string a3_0, .slice A3_1 l3_1.length c3_1] 24 (0, 0)) (by (with_reducible repeat (first | refine blk_drewN ?_ _ | refine blk_drew ?_ | refine blk_alloc ?_ _)); exact BK224.out) hg (Kd.R_ne HO_12.out BK224.out (by decide))); have n4_ := Aside0.mk (blk_grown (g := gb225) (o := .cells #[.string (⟨#[]⟩ : ByteArray), .slice none 0 0] 24 (0, 0)) (by (with_reducible repeat (first | refine blk_drewN ?_ _ | refine blk_drew ?_ | refine blk_alloc ?_ _)); exact BK225.out) hg (Kd.R_ne HO_12.out BK225.out (by decide))); have n5_ := Aside0.mk (hb); have n6_ := Aside0.mk (ho); clear HO_10; clear HO_11; clear BK223; clear BK224; clear BK225; clear HB; clear HO_12; have HO_10 := n0_; have HO_11 := n1_; have BK223 := n2_; have BK224 := n3_; have BK225 := n4_; have HB := n5_; have HO241 := n6_; clear n0_ n1_ n2_ n3_ n4_ n5_ n6_; clear ho hb hg hat))
                          go_roundg k3
                          case measure => have := HJ4.out; have := HK2.out; have := HK3.out; omega
                          case rel => exact ⟨(y239), (wrap64 (x14_3 + 1)), (by first | rfl | (simp; done) | (simp [*]; done)), H', ⟨by have := HJ4.out; have := HK2.out; have := HK3.out; omega⟩, ⟨by (with_reducible repeat (first | apply Kd.R_alloc | apply Kd.R_drewN | apply Kd.R_drew)); exact HO_10.out⟩, ⟨by (with_reducible repeat (first | apply Kd.R_alloc | apply Kd.R_drewN | apply Kd.R_drew)); exact HO_11.out⟩, ⟨by (with_reducible repeat (first | apply Kd.R_alloc | apply Kd.R_drewN | apply Kd.R_drew)); exact HO241.out⟩, ⟨by (with_reducible repeat (first | refine blk_drewN ?_ _ | refine blk_drew ?_ | refine blk_alloc ?_ _)); exact BK223.out⟩, ⟨by (with_reducible repeat (first | refine blk_drewN ?_ _ | refine blk_drew ?_ | refine blk_alloc ?_ _)); exact BK224.out⟩, ⟨by (with_reducible repeat (first | refine blk_drewN ?_ _ | refine blk_drew ?_ | refine blk_alloc ?_ _)); exact BK225.out⟩, ⟨by repeat (first | (with_reducible first | exact HB.out | apply below_alloc | apply pw_below_drewN | apply below_drew1 | refine below_set ?_ GE223.out | refine below_set ?_ GE224.out | refine below_set ?_ GE225.out) | exact HB.out)⟩⟩
                        · rw [if_neg c52] at H
                          exact absurd H (by simp)
                      · rw [if_neg c51] at H
                        exact absurd H (by simp)
                    · rw [if_neg c50] at H
                      have c50b0 : decide (x14_3 < (t231.length : Int)) = false := decide_eq_false c50
                      clear c50
                      have H' := Aside0.mk H
                      clear H
                      obtain ⟨Ao55, co55, eo55⟩ := Kd.R_slice HO_11.out
                      subst eo55
                      go_wp2
                      go_loopg [12, 15] k3 (fun kq v12 v15 w' => ∃ (x12_4 : List Int) (x15_4 : Int), v15 = .int .i64 x15_4 ∧ Aside0 (bureauref04_Splice.l2 kq a1 a2 t228 x12_4 x15_4 a0_0 l0_1 a3_0 l3_1 = some (r1, r2, r3)) ∧ Aside0 (kq ≤ k3) ∧ Aside0 (Kd.R (Kd.int .u64) 27 w' w.heap.size (fun k_ => some k_ ≠ (v12 : Value).ownBlock) v229 t228) ∧ Aside0 (Kd.R (Kd.int .u64) 27 w' w.heap.size (fun k_ => some k_ ≠ (v229 : Value).ownBlock) v12 x12_4) ∧ Aside0 (w'.heap[gb223]? = some (.cells #[.string a0_0, (.slice A0_1 l0_1.length c0_1)] 24 (0, 0))) ∧ Aside0 (w'.heap[gb224]? = some (.cells #[.string a3_0, (.slice A3_1 l3_1.length c3_1)] 24 (0, 0))) ∧ Aside0 (w'.heap[gb225]? = some (.cells #[.string (⟨#[]⟩ : ByteArray), (.slice none 0 0)] 24 (0, 0))) ∧ Aside0 (Below w.heap.size w w'))
                      case atStart => exact ⟨(x12_3), (a2), (by first | rfl | (simp; done) | (simp [*]; done)), H', ⟨Nat.le_refl _⟩, ⟨by (with_reducible repeat (first | apply Kd.R_alloc | apply Kd.R_drewN | apply Kd.R_drew)); exact Kd.R_mono HO_10.out (fun _ hk => hk.2)⟩, ⟨by (with_reducible repeat (first | apply Kd.R_alloc | apply Kd.R_drewN | apply Kd.R_drew)); exact Kd.R_mono HO_12.out (fun _ hk => hk.1)⟩, ⟨by (with_reducible repeat (first | refine blk_drewN ?_ _ | refine blk_drew ?_ | refine blk_alloc ?_ _)); exact BK223.out⟩, ⟨by (with_reducible repeat (first | refine blk_drewN ?_ _ | refine blk_drew ?_ | refine blk_alloc ?_ _)); exact BK224.out⟩, ⟨by (with_reducible repeat (first | refine blk_drewN ?_ _ | refine blk_drew ?_ | refine blk_alloc ?_ _)); exact BK225.out⟩, ⟨by repeat (first | (with_reducible first | exact HB.out | apply below_alloc | apply pw_below_drewN | apply below_drew1 | refine below_set ?_ GE223.out | refine below_set ?_ GE224.out | refine below_set ?_ GE225.out) | exact HB.out)⟩⟩
                      case round =>
                        clear H'
                        try clear c1
                        try clear c2
                        try clear p2
                        try clear q2
                        try clear hx2
                        try clear c3
                        try clear c4
                        try clear c5
                        try clear p6
                        try clear c10
                        try clear c12
                        try clear c13
                        try clear c16
                        try clear c19
                        try clear c20
                        try clear c23
                        try clear p23
                        try clear q23
                        try clear hx23
                        try clear c24
                        try clear c25
                        try clear c27
                        try clear c27b0
                        try clear c28
                        try clear c29
                        try clear c31
                        try clear c36
                        try clear c37
                        try clear c39
                        try clear c42
                        try clear c43
                        try clear c44
                        try clear c44b0
                        try clear c45
                        try clear c45b0
                        try clear c46
                        try clear c46b0
                        try clear c47
                        try clear c50
                        try clear c50b0
                        try clear c51
                        try clear c51b0
                        try clear c52
                        try clear hcz14_0
                        try clear hcz14_1
                        try clear hcz17_0
                        try clear hcz17_1
                        try clear hcz21_0
                        try clear hcz21_1
                        try clear hcz26_0
                        try clear hcz26_1
                        try clear hcz30_0
                        try clear hcz30_1
                        try clear hcz32_0
                        try clear hcz32_1
                        try clear hcz33_0
                        try clear hcz33_1
                        try clear hcz38_0
                        try clear hcz38_1
                        try clear hcz40_0
                        try clear hcz40_1
                        try clear hcz42_0
                        try clear hcz42_1
                        try clear hfz14_0
                        try clear hfz14_1
                        try clear hfz17_0
                        try clear hfz17_1
                        try clear hfz21_0
                        try clear hfz21_1
                        try clear hfz26_0
                        try clear hfz26_1
                        try clear hfz30_0
                        try clear hfz30_1
                        try clear hfz32_0
                        try clear hfz32_1
                        try clear hfz33_0
                        try clear hfz33_1
                        try clear hfz38_0
                        try clear hfz38_1
                        try clear hfz40_0
                        try clear hfz40_1
                        try clear hfz42_0
                        try clear hfz42_1
                        try clear hx234_0
                        try clear hx238_0
                        try clear p2
                        try clear p23
                        try clear p234
                        try clear p238
                        try clear p6
                        try clear q2
                        try clear q23
                        try clear q234
                        try clear q238
                        obtain ⟨x12_4, x15_4, rfl, HA, HK4, HO_10, HO_12, BK223, BK224, BK225, HB⟩ := hrel
                        cases gk with
                        | zero => exact absurd HA.out (by simp [bureauref04_Splice.l2])
                        | succ k4 =>
                          have H := HA.out
                          clear HA
                          simp only [bureauref04_Splice.l2] at H
                          by_cases c56 : x15_4 < (t228.length : Int)
                          · rw [if_pos c56] at H
                            have c56b0 : decide (x15_4 < (t228.length : Int)) = true := decide_eq_true c56
                            clear c56
                            by_cases c57 : 0 ≤ x15_4
                            · rw [if_pos c57] at H
                              have c57b0 : decide (0 ≤ x15_4) = true := decide_eq_true c57
                              clear c57
                              by_cases c58 : x12_4.length < 17592186044416
                              · rw [if_pos c58] at H
                                have LMc58 := Aside0.mk c58
                                clear c58
                                obtain ⟨y243, hy243⟩ : ∃ y_ : List Int, y_ = (x12_4 ++ [rd t228 x15_4]) := ⟨_, rfl⟩
                                replace H : (bureauref04_Splice.l2 k4 a1 a2 t228 y243 (wrap64 (x15_4 + 1)) a0_0 l0_1 a3_0 l3_1) = some (r1, r2, r3) := by first | (rw [hy243]; with_reducible exact H) | (have H2_ := (Option.bind_some _ _).symm.trans H; rw [hy243]; with_reducible exact H2_) | (have H2_ := (Option.bind_some _ _).symm.trans H; with_reducible exact H2_) | with_reducible exact H | (rw [hy243]; exact H) | exact H
                                have Ny243 := Aside0.mk hy243
                                clear hy243
                                have H' := Aside0.mk H
                                clear H
                                obtain ⟨Ao59, co59, eo59⟩ := Kd.R_slice HO_10.out
                                subst eo59
                                have p242 : 0 ≤ (x15_4 : Int) := of_decide_eq_true (by first | (with_reducible assumption) | assumption)
                                have q242 : x15_4 < (t228.length : Int) := of_decide_eq_true (by first | (with_reducible assumption) | assumption)
                                obtain ⟨ad242, e242, hx242_0⟩ := Kd.at_int (Kd.R_reads' HO_10.out).2.2 x15_4 p242 q242
                                cases e242
                                replace p242 := eq_true p242
                                replace q242 := eq_true q242
                                go_wp2_with (first | ((with_reducible refine gate_builtin (b := .append) (xs := #[.tmp 78, .tmp 83]) rfl ?_); at_builtin; refine Kd.R_append (Kd.int .u64) (w0 := w) w.heap.size rfl (.tmp 78) (.tmp 83) 95 27 (.int .u64 0) 8 rfl Try.underlying95 info27 rfl (by decide) (by omega) u12 x12_4 (rd t228 x15_4) [.int .u64 (rd t228 x15_4)] (fun k_ => some k_ ≠ (.slice (some ad242) t228.length co59 : Value).ownBlock) (fun _ => False) rfl rfl ?aP (fun _ hk => hk.elim) ?aF ?aO ?aB ?aS ?aL ?_; (case aP => exact rfl); (case aB => exact (by repeat (first | (with_reducible first | exact HB.out | apply below_alloc | apply pw_below_drewN | apply below_drew1 | refine below_set ?_ GE223.out | refine below_set ?_ GE224.out | refine below_set ?_ GE225.out) | exact HB.out))); (case aF => exact (fun k_ hk => Kd.fresh' (Kd.R_lt (by (with_reducible repeat (first | apply Kd.R_alloc | apply Kd.R_drewN | apply Kd.R_drew)); exact HO_10.out)) k_ hk)); (case aO => exact (by (with_reducible repeat (first | apply Kd.R_alloc | apply Kd.R_drewN | apply Kd.R_drew)); exact HO_12.out)); (case aS => exact (below_size (by repeat (first | (with_reducible first | exact HB.out | apply below_alloc | apply pw_below_drewN | apply below_drew1 | refine below_set ?_ GE223.out | refine below_set ?_ GE224.out | refine below_set ?_ GE225.out) | exact HB.out)))); (case aL => have := LMc58.out; omega); intro v244 w60 ho hb hg hat; rw [← Ny243.out] at ho; have n0_ := Aside0.mk (Kd.R_after (ok := (fun _ => True)) (by (with_reducible repeat (first | apply Kd.R_alloc | apply Kd.R_drewN | apply Kd.R_drew)); exact Kd.R_mono HO_10.out (fun _ hk => ⟨trivial, hk⟩)) hg hat); have n1_ := Aside0.mk (blk_grown (g := gb223) (o := .cells #[.string a0_0, .slice A0_1 l0_1.length c0_1] 24 (0, 0)) (by (with_reducible repeat (first | refine blk_drewN ?_ _ | refine blk_drew ?_ | refine blk_alloc ?_ _)); exact BK223.out) hg (Kd.R_ne HO_12.out BK223.out (by decide))); have n2_ := Aside0.mk (blk_grown (g := gb224) (o := .cells #[.string a3_0, .slice A3_1 l3_1.length c3_1] 24 (0, 0)) (by (with_reducible repeat (first | refine blk_drewN ?_ _ | refine blk_drew ?_ | refine blk_alloc ?_ _)); exact BK224.out) hg (Kd.R_ne HO_12.out BK224.out (by decide))); have n3_ := Aside0.mk (blk_grown (g := gb225) (o := .cells #[.string (⟨#[]⟩ : ByteArray), .slice none 0 0] 24 (0, 0)) (by (with_reducible repeat (first | refine blk_drewN ?_ _ | refine blk_drew ?_ | refine blk_alloc ?_ _)); exact BK225.out) hg (Kd.R_ne HO_12.out BK225.out (by decide))); have n4_ := Aside0.mk (hb); have n5_ := Aside0.mk (ho); clear HO_10; clear BK223; clear BK224; clear BK225; clear HB; clear HO_12; have HO_10 := n0_; have BK223 := n1_; have BK224 := n2_; have BK225 := n3_; have HB := n4_; have HO245 := n5_; clear n0_ n1_ n2_ n3_ n4_ n5_; clear ho hb hg hat))
                                go_roundg k4
                                case measure => have := HJ4.out; have := HK2.out; have := HK3.out; have := HK4.out; omega
                                case rel => exact ⟨(y243), (wrap64 (x15_4 + 1)), (by first | rfl | (simp; done) | (simp [*]; done)), H', ⟨by have := HJ4.out; have := HK2.out; have := HK3.out; have := HK4.out; omega⟩, ⟨by (with_reducible repeat (first | apply Kd.R_alloc | apply Kd.R_drewN | apply Kd.R_drew)); exact Kd.R_mono HO_10.out (fun _ hk => hk.2)⟩, ⟨by (with_reducible repeat (first | apply Kd.R_alloc | apply Kd.R_drewN | apply Kd.R_drew)); exact HO245.out⟩, ⟨by (with_reducible repeat (first | refine blk_drewN ?_ _ | refine blk_drew ?_ | refine blk_alloc ?_ _)); exact BK223.out⟩, ⟨by (with_reducible repeat (first | refine blk_drewN ?_ _ | refine blk_drew ?_ | refine blk_alloc ?_ _)); exact BK224.out⟩, ⟨by (with_reducible repeat (first | refine blk_drewN ?_ _ | refine blk_drew ?_ | refine blk_alloc ?_ _)); exact BK225.out⟩, ⟨by repeat (first | (with_reducible first | exact HB.out | apply below_alloc | apply pw_below_drewN | apply below_drew1 | refine below_set ?_ GE223.out | refine below_set ?_ GE224.out | refine below_set ?_ GE225.out) | exact HB.out)⟩⟩
                              · rw [if_neg c58] at H
                                exact absurd H (by simp)
                            · rw [if_neg c57] at H
                              exact absurd H (by simp)
                          · rw [if_neg c56] at H
                            have c56b0 : decide (x15_4 < (t228.length : Int)) = false := decide_eq_false c56
                            clear c56
                            by_cases c61 : 0 ≤ a1
                            · rw [if_pos c61] at H
                              have c61b0 := eq_true c61
                              have c61b1 : decide (0 ≤ a1) = true := decide_eq_true c61
                              clear c61
                              by_cases c62 : a1 ≤ (a0_0.size : Int)
                              · rw [if_pos c62] at H
                                have c62b0 := eq_true c62
                                have c62b1 : decide (a1 ≤ (a0_0.size : Int)) = true := decide_eq_true c62
                                clear c62
                                by_cases c63 : (a0_0.extract 0 (a1 : Int).toNat).size + a3_0.size ≤ 9223372036854775807
                                · rw [if_pos c63] at H
                                  have c63b0 := eq_true c63
                                  have c63b1 : decide ((a0_0.extract 0 (a1 : Int).toNat).size + a3_0.size ≤ 9223372036854775807) = true := decide_eq_true c63
                                  try have c63b2 : (9223372036854775807 < (a0_0.extract 0 (a1 : Int).toNat).size + a3_0.size) = False := eq_false (Nat.not_lt.2 c63)
                                  try have c63b3 : (9223372036854775807 < a1.toNat + a3_0.size) = False := eq_false (Nat.not_lt.2 (by have h_ := c63; rw [ByteArray.size_extract] at h_; have h2_ : a1 ≤ (a0_0.size : Int) := of_eq_true (by assumption); omega))
                                  by_cases c64 : 0 ≤ a2
                                  · rw [if_pos c64] at H
                                    have c64b0 := eq_true c64
                                    have c64b1 : decide (0 ≤ a2) = true := decide_eq_true c64
                                    clear c64
                                    by_cases c65 : a2 ≤ (a0_0.size : Int)
                                    · rw [if_pos c65] at H
                                      have c65b0 := eq_true c65
                                      have c65b1 : decide (a2 ≤ (a0_0.size : Int)) = true := decide_eq_true c65
                                      clear c65
                                      by_cases c66 : ((a0_0.extract 0 (a1 : Int).toNat) ++ a3_0).size + (a0_0.extract (a2 : Int).toNat a0_0.size).size ≤ 9223372036854775807
                                      · rw [if_pos c66] at H
                                        have c66b0 := eq_true c66
                                        have c66b1 : decide (((a0_0.extract 0 (a1 : Int).toNat) ++ a3_0).size + (a0_0.extract (a2 : Int).toNat a0_0.size).size ≤ 9223372036854775807) = true := decide_eq_true c66
                                        try have c66b2 : (9223372036854775807 < ((a0_0.extract 0 (a1 : Int).toNat) ++ a3_0).size + (a0_0.extract (a2 : Int).toNat a0_0.size).size) = False := eq_false (Nat.not_lt.2 c66)
                                        try have c66b3 : (9223372036854775807 < a1.toNat + a3_0.size + (a0_0.size - a2.toNat)) = False := eq_false (Nat.not_lt.2 (by have h_ := c66; rw [ByteArray.size_append, ByteArray.size_extract, ByteArray.size_extract] at h_; have h2_ : a1 ≤ (a0_0.size : Int) := of_eq_true (by assumption); omega))
                                        replace H := Option.bind_eq_some_iff.mp H
                                        obtain ⟨t246, A670, H⟩ := H
                                        replace H : (some (((a0_0.extract 0 (a1 : Int).toNat) ++ a3_0) ++ (a0_0.extract (a2 : Int).toNat a0_0.size), t246, 0)) = some (r1, r2, r3) := H
                                        have A67 := Aside0.mk A670
                                        clear A670
                                        simp only [Option.some.injEq, Prod.mk.injEq] at H
                                        obtain ⟨rfl, rfl, rfl⟩ := H
                                        obtain ⟨Ao68, co68, eo68⟩ := Kd.R_slice HO_10.out
                                        subst eo68
                                        try go_wp2
                                        have n0_ := Aside0.mk (Kd.R_drew HO_10.out)
                                        have n1_ := Aside0.mk (Kd.R_drew HO_12.out)
                                        have n2_ := Aside0.mk (blk_drew BK223.out)
                                        have n3_ := Aside0.mk (blk_drew BK224.out)
                                        have n4_ := Aside0.mk (blk_drew BK225.out)
                                        have n5_ := Aside0.mk (below_drew1 HB.out)
                                        clear HO_10
                                        clear HO_12
                                        clear BK223
                                        clear BK224
                                        clear BK225
                                        clear HB
                                        have HO_10 := n0_
                                        have HO_12 := n1_
                                        have BK223 := n2_
                                        have BK224 := n3_
                                        have BK225 := n4_
                                        have HB := n5_
                                        clear n0_ n1_ n2_ n3_ n4_ n5_
                                        obtain ⟨Ao70, co70, eo70⟩ := Kd.R_slice HO_12.out
                                        (first | subst eo70 | (injection eo70 with f1_ f2_ f3_; have f4_ := f1_.symm; have f5_ := f3_.symm; clear f1_ f2_ f3_; subst f4_; subst f5_))
                                        refine start_ (n := 17) (S := fun w' => w'.cell? ⟨gb223, 0, none⟩ = some (.string a0_0) ∧ w'.cell? ⟨gb223, 1, none⟩ = some (.slice A0_1 l0_1.length c0_1) ∧ w'.cell? ⟨gb224, 0, none⟩ = some (.string a3_0) ∧ w'.cell? ⟨gb224, 1, none⟩ = some (.slice A3_1 l3_1.length c3_1)) (ds := []) #[false, false, false, false, false, false, false, false, false, false, false, false, false, false, false, false, false] (by kernel_rfl) rfl rfl ⟨(blk_cell BK223.out 0).trans rfl, (blk_cell BK223.out 1).trans rfl, (blk_cell BK224.out 0).trans rfl, (blk_cell BK224.out 1).trans rfl⟩ (fun hHeld => ?_); refine with_tabW bureauref04_Splice.tab20 bureauref04_Splice.bits20 (fun HT_ HW_ => ?_)
                                        generalize wr.drew = w69 at HO_10 HO_12 BK223 BK224 BK225 HB hHeld ⊢
                                        refine pure_ (i := 0) (N := some 85) (v := ?_) (a' := ?_) #[true, false, false, false, false, false, false, false, false, false, false, false, false, false, false, false, false] rfl rfl (any_of HT_.out (by kernel_rfl)) (fun _ _ _ h => h) (Or.inl ⟨by rfl, ?_⟩) ?_ ?_
                                        rotate_left
                                        · intro w'
                                          go_simp
                                          with_reducible rfl
                                        rotate_left
                                        · simp only [Act.put, List.setIfInBounds_toArray, List.set_cons_zero, List.set_cons_succ, i64_w, i32_w]
                                          rfl
                                        refine pure_ (i := 2) (N := some 87) (v := ?_) (a' := ?_) #[true, false, true, false, false, false, false, false, false, false, false, false, false, false, false, false, false] rfl rfl (any_of HT_.out (by kernel_rfl)) (fun _ _ _ h => h) (Or.inl ⟨by rfl, ?_⟩) ?_ ?_
                                        rotate_left
                                        · intro w'
                                          go_simp
                                          with_reducible rfl
                                        rotate_left
                                        · simp only [Act.put, List.setIfInBounds_toArray, List.set_cons_zero, List.set_cons_succ, i64_w, i32_w]
                                          rfl
                                        refine pure_ (i := 4) (N := some 89) (v := ?_) (a' := ?_) #[true, false, true, false, true, false, false, false, false, false, false, false, false, false, false, false, false] rfl rfl (any_of HT_.out (by kernel_rfl)) (fun _ _ _ h => h) (Or.inl ⟨by rfl, ?_⟩) ?_ ?_
                                        rotate_left
                                        · intro w'
                                          go_simp
                                          with_reducible rfl
                                        rotate_left
                                        · simp only [Act.put, List.setIfInBounds_toArray, List.set_cons_zero, List.set_cons_succ, i64_w, i32_w]
                                          rfl
                                        refine pure_ (i := 7) (N := some 92) (v := ?_) (a' := ?_) #[true, false, true, false, true, false, false, true, false, false, false, false, false, false, false, false, false] rfl rfl (any_of HT_.out (by kernel_rfl)) (fun _ _ _ h => h) (Or.inl ⟨by rfl, ?_⟩) ?_ ?_
                                        rotate_left
                                        · intro w'
                                          go_simp
                                          with_reducible rfl
                                        rotate_left
                                        · simp only [Act.put, List.setIfInBounds_toArray, List.set_cons_zero, List.set_cons_succ, i64_w, i32_w]
                                          rfl
                                        refine pure_ (i := 9) (N := some 94) (v := ?_) (a' := ?_) #[true, false, true, false, true, false, false, true, false, true, false, false, false, false, false, false, false] rfl rfl (any_of HT_.out (by kernel_rfl)) (fun _ _ _ h => h) (Or.inl ⟨by rfl, ?_⟩) ?_ ?_
                                        rotate_left
                                        · intro w'
                                          go_simp
                                          with_reducible rfl
                                        rotate_left
                                        · simp only [Act.put, List.setIfInBounds_toArray, List.set_cons_zero, List.set_cons_succ, i64_w, i32_w]
                                          rfl
                                        refine pure_ (i := 12) (N := some 97) (v := ?_) (a' := ?_) #[true, false, true, false, true, false, false, true, false, true, false, false, true, false, false, false, false] rfl rfl (any_of HT_.out (by kernel_rfl)) (fun _ _ _ h => h) (Or.inl ⟨by rfl, ?_⟩) ?_ ?_
                                        rotate_left
                                        · intro w'
                                          go_simp
                                          with_reducible rfl
                                        rotate_left
                                        · simp only [Act.put, List.setIfInBounds_toArray, List.set_cons_zero, List.set_cons_succ, i64_w, i32_w]
                                          rfl
                                        refine take_ (i := 1) (N := some 86) (v := ?_) (a' := ?_) #[true, true, true, false, true, false, false, true, false, true, false, false, true, false, false, false, false] rfl rfl (take_ofW HT_.out HW_.out (by kernel_rfl)) (fun _ _ _ h => h) (Or.inl ⟨by rfl, ?_⟩) hHeld ?_ ?_
                                        rotate_left
                                        · rintro w' ⟨s0, s1, s2, s3⟩
                                          go_simp
                                          with_reducible rfl
                                        rotate_left
                                        · simp only [Act.put, List.setIfInBounds_toArray, List.set_cons_zero, List.set_cons_succ, i64_w, i32_w]
                                          rfl
                                        refine pure_ (i := 3) (N := some 88) (v := ?_) (a' := ?_) #[true, true, true, true, true, false, false, true, false, true, false, false, true, false, false, false, false] rfl rfl (any_of HT_.out (by kernel_rfl)) (fun _ _ _ h => h) (Or.inl ⟨by rfl, ?_⟩) ?_ ?_
                                        rotate_left
                                        · intro w'
                                          go_simp
                                          with_reducible rfl
                                        rotate_left
                                        · simp only [Act.put, List.setIfInBounds_toArray, List.set_cons_zero, List.set_cons_succ, i64_w, i32_w]
                                          rfl
                                        refine take_ (i := 5) (N := some 90) (v := ?_) (a' := ?_) #[true, true, true, true, true, true, false, true, false, true, false, false, true, false, false, false, false] rfl rfl (take_ofW HT_.out HW_.out (by kernel_rfl)) (fun _ _ _ h => h) (Or.inl ⟨by rfl, ?_⟩) hHeld ?_ ?_
                                        rotate_left
                                        · rintro w' ⟨s0, s1, s2, s3⟩
                                          go_simp
                                          with_reducible rfl
                                        rotate_left
                                        · simp only [Act.put, List.setIfInBounds_toArray, List.set_cons_zero, List.set_cons_succ, i64_w, i32_w]
                                          rfl
                                        refine pure_ (i := 6) (N := some 91) (v := ?_) (a' := ?_) #[true, true, true, true, true, true, true, true, false, true, false, false, true, false, false, false, false] rfl rfl (any_of HT_.out (by kernel_rfl)) (fun _ _ _ h => h) (Or.inl ⟨by rfl, ?_⟩) ?_ ?_
                                        rotate_left
                                        · intro w'
                                          go_simp
                                          with_reducible rfl
                                        rotate_left
                                        · simp only [Act.put, List.setIfInBounds_toArray, List.set_cons_zero, List.set_cons_succ, i64_w, i32_w]
                                          rfl
                                        refine take_ (i := 8) (N := some 93) (v := ?_) (a' := ?_) #[true, true, true, true, true, true, true, true, true, true, false, false, true, false, false, false, false] rfl rfl (take_ofW HT_.out HW_.out (by kernel_rfl)) (fun _ _ _ h => h) (Or.inl ⟨by rfl, ?_⟩) hHeld ?_ ?_
                                        rotate_left
                                        · rintro w' ⟨s0, s1, s2, s3⟩
                                          go_simp
                                          with_reducible rfl
                                        rotate_left
                                        · simp only [Act.put, List.setIfInBounds_toArray, List.set_cons_zero, List.set_cons_succ, i64_w, i32_w]
                                          rfl
                                        refine pure_ (i := 10) (N := some 95) (v := ?_) (a' := ?_) #[true, true, true, true, true, true, true, true, true, true, true, false, true, false, false, false, false] rfl rfl (any_of HT_.out (by kernel_rfl)) (fun _ _ _ h => h) (Or.inl ⟨by rfl, ?_⟩) ?_ ?_
                                        rotate_left
                                        · intro w'
                                          go_simp
                                          with_reducible rfl
                                        rotate_left
                                        · simp only [Act.put, List.setIfInBounds_toArray, List.set_cons_zero, List.set_cons_succ, i64_w, i32_w]
                                          rfl
                                        refine pure_ (i := 11) (N := some 96) (v := ?_) (a' := ?_) #[true, true, true, true, true, true, true, true, true, true, true, true, true, false, false, false, false] rfl rfl (any_of HT_.out (by kernel_rfl)) (fun _ _ _ h => h) (Or.inl ⟨by rfl, ?_⟩) ?_ ?_
                                        rotate_left
                                        · intro w'
                                          go_simp
                                          with_reducible rfl
                                        rotate_left
                                        · simp only [Act.put, List.setIfInBounds_toArray, List.set_cons_zero, List.set_cons_succ, i64_w, i32_w]
                                          rfl
                                        refine one_ (i := 13) (N := some 98) #[true, true, true, true, true, true, true, true, true, true, true, true, true, true, false, false, false] rfl rfl (one_of HT_.out (by kernel_rfl)) (by decide) (fun K hK => ?_)
                                        refine goes_ Try.func44 (by kernel_rfl) rfl #[.slice Ao70 x12_4.length co70] (by rfl) rfl rfl (by (try simp only [List.map_toArray, List.map_cons, List.map_nil]); first | done | rfl | (simp only [List.length_drop, List.length_take]; rfl)) ?_
                                        with_reducible refine (bureauref03_Pack.calls k4 _ _ x12_4 t246 _ ?side1 ?side2 A67.out).mono ?_
                                        (case side1 => repeat (first | exact (Kd.R_reads' HO_12.out).2.2 | (with_reducible refine Kd.C_alloc ?_ _) | (with_reducible refine Kd.C_drewN ?_ _) | (with_reducible refine Kd.C_drew ?_)))
                                        (case side2 => exact (Kd.R_reads' HO_12.out).2.1)
                                        rintro e w71 ⟨v247, rfl, ho0, hb⟩
                                        refine ⟨_, rfl, ?_⟩
                                        have n0_ := Aside0.mk (Kd.R_below (by (with_reducible repeat (first | apply Kd.R_alloc | apply Kd.R_drewN | apply Kd.R_drew)); exact HO_10.out) hb)
                                        have n1_ := Aside0.mk (Kd.R_below (by (with_reducible repeat (first | apply Kd.R_alloc | apply Kd.R_drewN | apply Kd.R_drew)); exact HO_12.out) hb)
                                        have n2_ := Aside0.mk (Kd.R_lower ho0 (below_size (by repeat (first | (with_reducible first | exact HB.out | apply below_alloc | apply pw_below_drewN | apply below_drew1 | refine below_set ?_ GE223.out | refine below_set ?_ GE224.out | refine below_set ?_ GE225.out) | exact HB.out))))
                                        have n3_ := Aside0.mk (blk_below (g := gb223) (o := .cells #[.string a0_0, .slice A0_1 l0_1.length c0_1] 24 (0, 0)) (by (with_reducible repeat (first | refine blk_drewN ?_ _ | refine blk_drew ?_ | refine blk_alloc ?_ _)); exact BK223.out) hb)
                                        have n4_ := Aside0.mk (blk_below (g := gb224) (o := .cells #[.string a3_0, .slice A3_1 l3_1.length c3_1] 24 (0, 0)) (by (with_reducible repeat (first | refine blk_drewN ?_ _ | refine blk_drew ?_ | refine blk_alloc ?_ _)); exact BK224.out) hb)
                                        have n5_ := Aside0.mk (blk_below (g := gb225) (o := .cells #[.string (⟨#[]⟩ : ByteArray), .slice none 0 0] 24 (0, 0)) (by (with_reducible repeat (first | refine blk_drewN ?_ _ | refine blk_drew ?_ | refine blk_alloc ?_ _)); exact BK225.out) hb)
                                        have n6_ := Aside0.mk (below_step (by repeat (first | (with_reducible first | exact HB.out | apply below_alloc | apply pw_below_drewN | apply below_drew1 | refine below_set ?_ GE223.out | refine below_set ?_ GE224.out | refine below_set ?_ GE225.out) | exact HB.out)) hb)
                                        clear HO_10
                                        clear HO_12
                                        clear BK223
                                        clear BK224
                                        clear BK225
                                        clear HB
                                        have HO_10 := n0_
                                        have HO_12 := n1_
                                        have HO248 := n2_
                                        have BK223 := n3_
                                        have BK224 := n4_
                                        have BK225 := n5_
                                        have HB := n6_
                                        clear n0_ n1_ n2_ n3_ n4_ n5_ n6_
                                        (try clear hb)
                                        (try clear hb2)
                                        (try clear hk)
                                        (try clear hi)
                                        (try clear ho0)
                                        obtain ⟨Ao72, co72, eo72⟩ := Kd.R_slice HO248.out
                                        (first | subst eo72 | (injection eo72 with f1_ f2_ f3_; have f4_ := f1_.symm; have f5_ := f3_.symm; clear f1_ f2_ f3_; subst f4_; subst f5_))
                                        refine hK.out _ _ ⟨(blk_cell BK223.out 0).trans rfl, (blk_cell BK223.out 1).trans rfl, (blk_cell BK224.out 0).trans rfl, (blk_cell BK224.out 1).trans rfl⟩ (fun hHeld => ?_)
                                        clear hK K
                                        refine norm_ (a' := ?_) ?_ ?_
                                        rotate_left
                                        · show Act.put _ (some 98) _ = _
                                          simp only [Act.put, List.setIfInBounds_toArray, List.set_cons_zero, List.set_cons_succ, i64_w, i32_w]
                                          rfl
                                        refine pure_ (i := 14) (N := some 99) (v := ?_) (a' := ?_) #[true, true, true, true, true, true, true, true, true, true, true, true, true, true, true, false, false] rfl rfl (any_of HT_.out (by kernel_rfl)) (fun _ _ _ h => h) (Or.inl ⟨by rfl, ?_⟩) ?_ ?_
                                        rotate_left
                                        · intro w'
                                          go_simp
                                          with_reducible rfl
                                        rotate_left
                                        · simp only [Act.put, List.setIfInBounds_toArray, List.set_cons_zero, List.set_cons_succ, i64_w, i32_w]
                                          rfl
                                        refine one_ (i := 15) (N := none) #[true, true, true, true, true, true, true, true, true, true, true, true, true, true, true, true, false] rfl rfl (one_of HT_.out (by kernel_rfl)) (by decide) (fun K hK => ?_)
                                        have hs73 : w71.cell? ⟨gb225, 0, none⟩ = some (.string (⟨#[]⟩ : ByteArray)) := (blk_cell BK225.out 0).trans rfl
                                        have hfs73 := blk_frozen BK225.out 0
                                        have hns73_0 := NB223_225.out
                                        have hns73_1 := NB224_225.out
                                        have hms73_0 := NB225_223.out
                                        have hms73_1 := NB225_224.out
                                        have hs74 : w71.cell? ⟨gb225, 1, none⟩ = some (.slice none 0 0) := (blk_cell BK225.out 1).trans rfl
                                        have hfs74 := blk_frozen BK225.out 1
                                        have hns74_0 := NB223_225.out
                                        have hns74_1 := NB224_225.out
                                        have hms74_0 := NB225_223.out
                                        have hms74_1 := NB225_224.out
                                        refine skip_ (w1 := ?_) (by rfl) rfl ?_ ?_
                                        rotate_left
                                        · go_simp
                                          rfl
                                        refine hK.out _ _ ⟨((cell_far (p := ⟨gb225, _, none⟩) NB223_225.out _).trans (((cell_far (p := ⟨gb225, _, none⟩) NB223_225.out _).trans (hHeld.1)))), ((cell_far (p := ⟨gb225, _, none⟩) NB223_225.out _).trans (((cell_far (p := ⟨gb225, _, none⟩) NB223_225.out _).trans (hHeld.2.1)))), ((cell_far (p := ⟨gb225, _, none⟩) NB224_225.out _).trans (((cell_far (p := ⟨gb225, _, none⟩) NB224_225.out _).trans (hHeld.2.2.1)))), ((cell_far (p := ⟨gb225, _, none⟩) NB224_225.out _).trans (((cell_far (p := ⟨gb225, _, none⟩) NB224_225.out _).trans (hHeld.2.2.2))))⟩ (fun hHeld => ?_)
                                        clear hK K
                                        refine pure_ (i := 16) (N := some 9) (v := ?_) (a' := ?_) #[true, true, true, true, true, true, true, true, true, true, true, true, true, true, true, true, true] rfl rfl (any_of HT_.out (by kernel_rfl)) (fun _ _ _ h => h) (Or.inl ⟨by rfl, ?_⟩) ?_ ?_
                                        rotate_left
                                        · intro w'
                                          go_simp
                                          with_reducible rfl
                                        rotate_left
                                        · simp only [Act.put, List.setIfInBounds_toArray, List.set_cons_zero, List.set_cons_succ, i64_w, i32_w]
                                          rfl
                                        refine done_ (done_of HT_.out (by kernel_rfl)) ?_
                                        try go_wp2
                                        refine bodyPost_ret (results_ct rfl _ _ gb225 24 #[.string (((a0_0.extract 0 (a1 : Int).toNat) ++ a3_0) ++ (a0_0.extract (a2 : Int).toNat a0_0.size)), .slice Ao72 t246.length co72] (0, 0) _ rfl (by (with_reducible repeat (first | refine blk_drewN ?_ _ | refine blk_drew ?_ | refine blk_alloc ?_ _)); refine blk_put (cs := #[.string (((a0_0.extract 0 (a1 : Int).toNat) ++ a3_0) ++ (a0_0.extract (a2 : Int).toNat a0_0.size)), .slice none 0 0]) ?_ 1 _ rfl; (with_reducible repeat (first | refine blk_drewN ?_ _ | refine blk_drew ?_ | refine blk_alloc ?_ _)); refine blk_put (cs := #[.string (⟨#[]⟩ : ByteArray), .slice none 0 0]) ?_ 0 _ rfl; (with_reducible repeat (first | refine blk_drewN ?_ _ | refine blk_drew ?_ | refine blk_alloc ?_ _)); exact BK225.out) Try.underlying24 rfl (by kernel_rfl)) rfl ?_
                                        exact ⟨_, by first | rfl | (simp [errW_none, errW_some] <;> rfl) | (simp [*, errW_none, errW_some] <;> rfl), by (with_reducible repeat (first | apply Kd.R_alloc | apply Kd.R_drewN | apply Kd.R_drew)); exact Kd.R_mono (Kd.R_far (p := ⟨gb225, 1, none⟩) (Kd.R_far (p := ⟨gb225, 0, none⟩) (Kd.R_types HO248.out BK225.out (by decide)) (fun _ hk => hk.2) (.string (((a0_0.extract 0 (a1 : Int).toNat) ++ a3_0) ++ (a0_0.extract (a2 : Int).toNat a0_0.size)))) (fun _ hk => hk.2) (.slice Ao72 t246.length co72)) (fun _ hk => trivial), by repeat (first | (with_reducible first | exact HB.out | apply below_alloc | apply pw_below_drewN | apply below_drew1 | refine below_set ?_ GE223.out | refine below_set ?_ GE224.out | refine below_set ?_ GE225.out) | exact HB.out)⟩
                                      · rw [if_neg c66] at H
                                        exact absurd H (by simp)
                                    · rw [if_neg c65] at H
                                      exact absurd H (by simp)
                                  · rw [if_neg c64] at H
                                    exact absurd H (by simp)
                                · rw [if_neg c63] at H
                                  exact absurd H (by simp)
                              · rw [if_neg c62] at H
                                exact absurd H (by simp)
                            · rw [if_neg c61] at H
                              exact absurd H (by simp)

end Go.Proofs.Ytgaggoglbkcomaa.XRR
