/- move.To, by its walk, and its contract in the form of the print. -/
import Derived.Test.YtpajakfmahfpkaaDoorExt12JK
import Derived.Test.YtpajakfmahfpkaaDoorWMore
import Derived.WalkKit
import Derived.WalkMore
import Derived.Below
import Derived.KernelRfl
import Derived.LoopTactic
import Derived.Deep.RegionWith
import Derived.Deep.RegionHeld3
import Derived.IntWalk
import Derived.Deep.DeepCutAuto
import Derived.Deep.CutBlock
import Derived.BigQuiet
import Derived.Laws.RangeString
import Derived.Laws.RangeAny
import Derived.Laws.Rows
import Derived.Laws.Runes
import Derived.Lib.OthersKept
import Derived.OpenShut
set_option linter.unusedVariables false
set_option linter.unusedSimpArgs false
namespace Go.Proofs.YtpajakfmahfpkaaDoor.Ext
open Go.RowKit Go.Lib Go.Proofs.YtpajakfmahfpkaaDoorW.PrintWords Go.Proofs.YtpajakfmahfpkaaDoorW.PrintMore

/-! move.To, by its walk: the walker is made. -/
def toK (s : ByteArray) (at_ cnt : Int) : Wk :=
  { s := s, a := ((alignZ s at_ : Nat) : Int), n := min (max cnt 1) 999, line := ((ofZ s ((alignZ s at_ : Nat) : Int) : Nat) : Int), f := (boundsZ s ((ofZ s ((alignZ s at_ : Nat) : Int) : Nat) : Int)).1, t := (boundsZ s ((ofZ s ((alignZ s at_ : Nat) : Int) : Nat) : Int)).2.1 }
theorem toK_ok (s : ByteArray) (hs : s.size < 1000000) (at_ cnt : Int) : WOk (toK s at_ cnt) := by
  have h1 := alignZ_le s at_
  have h2 := ofZ_lt s ((alignZ s at_ : Nat) : Int)
  have h3 := bT_le s (ofZ s ((alignZ s at_ : Nat) : Int)) h2
  have hb : boundsZ s ((ofZ s ((alignZ s at_ : Nat) : Int) : Nat) : Int) = ((bF s (ofZ s ((alignZ s at_ : Nat) : Int)) : Int), (bT s (ofZ s ((alignZ s at_ : Nat) : Int)) : Int), 0) := by
    unfold boundsZ
    rw [if_pos (by omega), Int.toNat_natCast]
  refine ⟨hs, ?_, ?_, ?_, ?_, ?_⟩
  · show 1 ≤ min (max cnt 1) 999 ∧ min (max cnt 1) 999 ≤ 999
    omega
  · show 0 ≤ ((alignZ s at_ : Nat) : Int) ∧ ((alignZ s at_ : Nat) : Int) ≤ (s.size : Int)
    omega
  · show 0 ≤ ((ofZ s ((alignZ s at_ : Nat) : Int) : Nat) : Int) ∧ ((ofZ s ((alignZ s at_ : Nat) : Int) : Nat) : Int) < ((nE s : Nat) : Int)
    omega
  · show 0 ≤ (boundsZ s ((ofZ s ((alignZ s at_ : Nat) : Int) : Nat) : Int)).1
    rw [hb]; simp only; omega
  · show (boundsZ s ((ofZ s ((alignZ s at_ : Nat) : Int) : Nat) : Int)).2.1 ≤ (s.size : Int)
    rw [hb]; simp only; omega
theorem Of_w (s : ByteArray) (a : Int) (w : World) (hT : Tabs w) :
    Calls Tryd.prog 31 #[.string s, .int .i64 a] w fun e w' => e = .returned (.int .i64 ((ofZ s a : Nat) : Int)) ∧ Below w.heap.size w w' :=
  line_Of.calls s a _ w rfl hT
def toZ (s : ByteArray) (at_ key arg cnt : Int) : Int × Int × Bool :=
  if key = 106 ∨ key = 107 ∨ key = 71 ∨ key = 103 then (if (linesZ (toK s at_ cnt) key cnt).2 = true then ((linesZ (toK s at_ cnt) key cnt).1, 2, true) else (0, 0, false))
  else if key = 101 then (if (dnZ (toK s at_ cnt) .fin (s.size : Int) (prevZ s (s.size : Int))).1 > ((alignZ s at_ : Nat) : Int) then ((dnZ (toK s at_ cnt) .fin (s.size : Int) (prevZ s (s.size : Int))).1, 1, true) else (0, 0, false))
  else if key = 102 ∨ key = 116 then (if (findZ (toK s at_ cnt) key arg).2 = true then ((findZ (toK s at_ cnt) key arg).1, 1, true) else (0, 0, false))
  else (if (withinZ (toK s at_ cnt) key arg).2 = true then ((withinZ (toK s at_ cnt) key arg).1, 0, true) else (0, 0, false))
set_option maxRecDepth 100000 in
set_option maxHeartbeats 16000000 in
theorem To_w (s : ByteArray) (at_ key arg cnt : Int) (w : World) (hs : s.size < 1000000) (hT : Tabs w) (hc : -9223372036854775808 ≤ cnt ∧ cnt ≤ 9223372036854775807) :
    Calls Tryd.prog 12 #[.string s, .int .i64 at_, .agg #[.int .i32 key, .int .i32 arg, .int .i64 cnt]] w fun e w' => e = .returned (.tuple #[.int .i64 (toZ s at_ key arg cnt).1, .int .i64 (toZ s at_ key arg cnt).2.1, .bool (toZ s at_ key arg cnt).2.2]) ∧ Below w.heap.size w w' := by
  have HZ : Aside0 (toZ s at_ key arg cnt = if key = 106 ∨ key = 107 ∨ key = 71 ∨ key = 103 then (if (linesZ (toK s at_ cnt) key cnt).2 = true then ((linesZ (toK s at_ cnt) key cnt).1, 2, true) else (0, 0, false))
    else if key = 101 then (if (dnZ (toK s at_ cnt) .fin (s.size : Int) (prevZ s (s.size : Int))).1 > ((alignZ s at_ : Nat) : Int) then ((dnZ (toK s at_ cnt) .fin (s.size : Int) (prevZ s (s.size : Int))).1, 1, true) else (0, 0, false))
    else if key = 102 ∨ key = 116 then (if (findZ (toK s at_ cnt) key arg).2 = true then ((findZ (toK s at_ cnt) key arg).1, 1, true) else (0, 0, false))
    else (if (withinZ (toK s at_ cnt) key arg).2 = true then ((withinZ (toK s at_ cnt) key arg).1, 0, true) else (0, 0, false))) := ⟨rfl⟩
  generalize toZ s at_ key arg cnt = res at HZ ⊢
  have hB1 := W1_below w key arg cnt
  have hT1 := hT.below hB1 (Nat.le_refl _)
  have c1 := W1_c w key arg cnt
  have c12 : (W1 w key arg cnt).cell? ⟨w.heap.size, 2, none⟩ = some (.int .i64 cnt) := by rw [c1]; rfl
  have hD : Below (W1 w key arg cnt).heap.size (W1 w key arg cnt) (W1 w key arg cnt).drew := (Below.refl _ _).drew
  have hsz : (W1 w key arg cnt).heap.size = w.heap.size + 1 := by simp
  have hm1 : (W1 w key arg cnt).heap[w.heap.size]? = some (.cells #[.int .i32 key, .int .i32 arg, .int .i64 cnt] 23 (0, 0)) := heap_alloc_new _ _
  have HC := Aside0.mk (Align_w s hs at_ _ (hT1.below hD (Nat.le_refl _)))
  have keep : ∀ wc, Below (W1 w key arg cnt).heap.size (W1 w key arg cnt) wc → wc.heap[w.heap.size]? = some (.cells #[.int .i32 key, .int .i32 arg, .int .i64 cnt] 23 (0, 0)) :=
    fun wc hb => (hb.block w.heap.size (by rw [hsz]; omega)).trans hm1
  have KEEP := Aside0.mk keep
  have HB1 := Aside0.mk hB1
  have HT1 := Aside0.mk hT1
  have HD := Aside0.mk hD
  have HSZ := Aside0.mk hsz
  clear hB1 hT hT1 hD hsz hm1 keep c1
  go_enter Tryd.func12, Tryd.ntmps12
  go_upto_region 1 with (fail)
  go_cut [9] (fun v9 wc => ∃ R, v9 = .pointer (some ⟨R, 0, none⟩) ∧ Aside0 ((W1 w key arg cnt).heap.size ≤ R) ∧ Aside0 (wc.heap[R]? = some (.cells #[.string s, .int .i64 ((alignZ s at_ : Nat) : Int), .int .i64 (min (max cnt 1) 999), .int .i64 0, .int .i64 0, .int .i64 0] 50 (0, 0))) ∧ Aside0 (Below (W1 w key arg cnt).heap.size (W1 w key arg cnt) wc))
  case first =>
    go_region_held3 (fun w' => w'.cell? ⟨w.heap.size, 2, none⟩ = some (.int .i64 cnt)) (first | exact j2 | go_keep) (first | (go_at_call 30; refine HC.out.mono ?_; rintro e w2 ⟨rfl, hb2⟩; have j2 := (cell_of_row _ w.heap.size 2 _ _ _ (KEEP.out _ (HD.out.trans (hb2.mono HD.out.size)))).trans rfl))
    all_goals (go_wp2; go_meet)
    all_goals exact ⟨w2.heap.size, rfl, ⟨(HD.out.trans (hb2.mono HD.out.size)).size⟩, ⟨heap_alloc_new _ _⟩, ⟨(HD.out.trans (hb2.mono HD.out.size)).alloc (HD.out.trans (hb2.mono HD.out.size)).size _⟩⟩
  case rest =>
    obtain ⟨R, rfl, HRS, HROW, HB⟩ := hcut
    have OK := Aside0.mk (toK_ok s hs at_ cnt)
    have EK : Aside0 (mcs (toK s at_ cnt) = #[.string s, .int .i64 ((alignZ s at_ : Nat) : Int), .int .i64 (min (max cnt 1) 999), .int .i64 ((ofZ s ((alignZ s at_ : Nat) : Int) : Nat) : Int), .int .i64 (boundsZ s ((ofZ s ((alignZ s at_ : Nat) : Int) : Nat) : Int)).1, .int .i64 (boundsZ s ((ofZ s ((alignZ s at_ : Nat) : Int) : Nat) : Int)).2.1]) := ⟨rfl⟩
    have EA : Aside0 ((toK s at_ cnt).a = ((alignZ s at_ : Nat) : Int)) := ⟨rfl⟩
    have ES : Aside0 ((toK s at_ cnt).s = s) := ⟨rfl⟩
    have HOF := Aside0.mk (fun w1 hT => Of_w s ((alignZ s at_ : Nat) : Int) w1 hT)
    have HBN := Aside0.mk (fun w1 hT => Bounds_w s hs ((ofZ s ((alignZ s at_ : Nat) : Int) : Nat) : Int) w1 hT)
    have hrow := HROW.out
    have hlt := (Array.getElem?_eq_some_iff.1 hrow).1
    have i1 := cell_of_row wc R 1 _ _ _ hrow
    have hMR : w.heap.size ≠ R := by have := HRS.out; have := HSZ.out; omega
    clear HC c12
    generalize boundsZ s ((ofZ s ((alignZ s at_ : Nat) : Int) : Nat) : Int) = bz at HBN EK
    obtain ⟨z1, z2, z3⟩ := bz
    simp only at HBN EK
    generalize toK s at_ cnt = K at OK EK EA ES HZ
    generalize ((ofZ s ((alignZ s at_ : Nat) : Int) : Nat) : Int) = ln at HOF HBN EK
    generalize ((alignZ s at_ : Nat) : Int) = A at HOF EK EA HROW HZ i1 hrow
    have L3 : ∀ w3, Below wc.heap.size wc w3 → w3.heap[R]? = some (.cells #[.string s, .int .i64 A, .int .i64 (min (max cnt 1) 999), .int .i64 0, .int .i64 0, .int .i64 0] 50 (0, 0)) := fun w3 hb => (hb.block R hlt).trans hrow
    have LL3 := Aside0.mk L3
    have T3 : ∀ w3, Below wc.heap.size wc w3 → Below (W1 w key arg cnt).heap.size (W1 w key arg cnt) (w3.setCell ⟨R, 3, none⟩ (.int .i64 ln)) := fun w3 hb => (HB.out.trans (hb.mono HB.out.size)).setCell HRS.out _
    have TT3 := Aside0.mk T3
    have L4 : ∀ w3 w4, Below wc.heap.size wc w3 → Below (w3.setCell ⟨R, 3, none⟩ (.int .i64 ln)).heap.size (w3.setCell ⟨R, 3, none⟩ (.int .i64 ln)) w4 → w4.heap[R]? = some (.cells #[.string s, .int .i64 A, .int .i64 (min (max cnt 1) 999), .int .i64 ln, .int .i64 0, .int .i64 0] 50 (0, 0)) := fun w3 w4 hb3 hb4 => by
      have h3 := heap_setCell_same w3 R 3 _ _ (.int .i64 ln) (L3 w3 hb3)
      exact (hb4.block R (Array.getElem?_eq_some_iff.1 h3).1).trans h3
    have LL4 := Aside0.mk L4
    have L5 : ∀ w3 w4, Below wc.heap.size wc w3 → Below (w3.setCell ⟨R, 3, none⟩ (.int .i64 ln)).heap.size (w3.setCell ⟨R, 3, none⟩ (.int .i64 ln)) w4 →
        WRow ((w4.setCell ⟨R, 4, none⟩ (.int .i64 z1)).setCell ⟨R, 5, none⟩ (.int .i64 z2)) R K ∧ Below (W1 w key arg cnt).heap.size (W1 w key arg cnt) ((w4.setCell ⟨R, 4, none⟩ (.int .i64 z1)).setCell ⟨R, 5, none⟩ (.int .i64 z2)) := fun w3 w4 hb3 hb4 => by
      have h4 := heap_setCell_same _ R 5 _ _ (.int .i64 z2) (heap_setCell_same w4 R 4 _ _ (.int .i64 z1) (L4 w3 w4 hb3 hb4))
      refine ⟨?_, ?_⟩
      · unfold WRow
        rw [EK.out]
        exact h4
      · exact (((T3 w3 hb3).trans (hb4.mono (T3 w3 hb3).size)).setCell HRS.out _).setCell HRS.out _
    have LL5 := Aside0.mk L5
    clear L3 T3 L4 L5 hlt
    by_cases g106 : key = 106
    · subst g106
      have hz := HZ.out
      rw [if_pos (by omega)] at hz
      clear HZ
      have HZ := Aside0.mk hz
      clear hz
      have HC := Aside0.mk (fun (w5 : World) (hW : WRow w5 R K) (hT : Tabs w5) => lines_w R K 106 arg cnt w5 OK.out.hs hW hT OK.out.hn OK.out.hl hc)
      generalize linesZ K 106 cnt = zz at HC HZ
      obtain ⟨y1, y2⟩ := zz
      simp only at HC HZ
      cases y2
      · have hz := HZ.out
        simp only [Bool.false_eq_true, if_false, if_true] at hz
        have HZ2 := Aside0.mk hz
        clear hz HZ
        go_wp2_with (first | (go_at_call 31; refine (HOF.out _ (HT1.out.below HB.out (Nat.le_refl _))).mono ?_; rintro e w3 ⟨rfl, hb3⟩; have r3 := LL3.out w3 hb3; have f3 := frozen_of_row w3 R 3 _ _ r3; have q3 := cell_of_row w3 R 3 _ _ _ r3; have q33 := cell_of_row _ R 3 _ _ _ (heap_setCell_same w3 R 3 _ _ (.int .i64 ln) r3)) | (go_at_call 32; refine (HBN.out _ (HT1.out.below (TT3.out w3 hb3) (Nat.le_refl _))).mono ?_; rintro e w4 ⟨rfl, hb4⟩; have r4 := LL4.out w3 w4 hb3 hb4; have f4 := frozen_of_row w4 R 4 _ _ r4; have q4 := cell_of_row w4 R 4 _ _ _ r4; have r5 := heap_setCell_same w4 R 4 _ _ (.int .i64 z1) r4; have f5 := frozen_of_row _ R 5 _ _ r5; have q5 := cell_of_row _ R 5 _ _ _ r5; have hWB := LL5.out w3 w4 hb3 hb4; have mk := KEEP.out _ hWB.2; have m0 := cell_of_row _ w.heap.size 0 _ _ _ mk; have m1 := cell_of_row _ w.heap.size 1 _ _ _ mk; have m2 := cell_of_row _ w.heap.size 2 _ _ _ mk; obtain ⟨k0, k1, k2, k3, k4, k5⟩ := hWB.1.cells; have HWB := Aside0.mk hWB; clear hWB mk r4 r5) | (go_at_call 33; refine (HC.out _ HWB.out.1 (HT1.out.below HWB.out.2 (Nat.le_refl _))).mono ?_; rintro e w6 ⟨rfl, hb6⟩))
        go_ret3
        exact ⟨by have e := HZ2.out; subst e; rfl, HB1.out.trans ((HWB.out.2.trans (hb6.mono HWB.out.2.size)).mono HB1.out.size)⟩
      · have hz := HZ.out
        simp only [Bool.false_eq_true, if_false, if_true] at hz
        have HZ2 := Aside0.mk hz
        clear hz HZ
        go_wp2_with (first | (go_at_call 31; refine (HOF.out _ (HT1.out.below HB.out (Nat.le_refl _))).mono ?_; rintro e w3 ⟨rfl, hb3⟩; have r3 := LL3.out w3 hb3; have f3 := frozen_of_row w3 R 3 _ _ r3; have q3 := cell_of_row w3 R 3 _ _ _ r3; have q33 := cell_of_row _ R 3 _ _ _ (heap_setCell_same w3 R 3 _ _ (.int .i64 ln) r3)) | (go_at_call 32; refine (HBN.out _ (HT1.out.below (TT3.out w3 hb3) (Nat.le_refl _))).mono ?_; rintro e w4 ⟨rfl, hb4⟩; have r4 := LL4.out w3 w4 hb3 hb4; have f4 := frozen_of_row w4 R 4 _ _ r4; have q4 := cell_of_row w4 R 4 _ _ _ r4; have r5 := heap_setCell_same w4 R 4 _ _ (.int .i64 z1) r4; have f5 := frozen_of_row _ R 5 _ _ r5; have q5 := cell_of_row _ R 5 _ _ _ r5; have hWB := LL5.out w3 w4 hb3 hb4; have mk := KEEP.out _ hWB.2; have m0 := cell_of_row _ w.heap.size 0 _ _ _ mk; have m1 := cell_of_row _ w.heap.size 1 _ _ _ mk; have m2 := cell_of_row _ w.heap.size 2 _ _ _ mk; obtain ⟨k0, k1, k2, k3, k4, k5⟩ := hWB.1.cells; have HWB := Aside0.mk hWB; clear hWB mk r4 r5) | (go_at_call 33; refine (HC.out _ HWB.out.1 (HT1.out.below HWB.out.2 (Nat.le_refl _))).mono ?_; rintro e w6 ⟨rfl, hb6⟩))
        go_ret3
        exact ⟨by have e := HZ2.out; subst e; rfl, HB1.out.trans ((HWB.out.2.trans (hb6.mono HWB.out.2.size)).mono HB1.out.size)⟩
    by_cases g107 : key = 107
    · subst g107
      have hz := HZ.out
      rw [if_pos (by omega)] at hz
      clear HZ
      have HZ := Aside0.mk hz
      clear hz
      have HC := Aside0.mk (fun (w5 : World) (hW : WRow w5 R K) (hT : Tabs w5) => lines_w R K 107 arg cnt w5 OK.out.hs hW hT OK.out.hn OK.out.hl hc)
      generalize linesZ K 107 cnt = zz at HC HZ
      obtain ⟨y1, y2⟩ := zz
      simp only at HC HZ
      cases y2
      · have hz := HZ.out
        simp only [Bool.false_eq_true, if_false, if_true] at hz
        have HZ2 := Aside0.mk hz
        clear hz HZ
        go_wp2_with (first | (go_at_call 31; refine (HOF.out _ (HT1.out.below HB.out (Nat.le_refl _))).mono ?_; rintro e w3 ⟨rfl, hb3⟩; have r3 := LL3.out w3 hb3; have f3 := frozen_of_row w3 R 3 _ _ r3; have q3 := cell_of_row w3 R 3 _ _ _ r3; have q33 := cell_of_row _ R 3 _ _ _ (heap_setCell_same w3 R 3 _ _ (.int .i64 ln) r3)) | (go_at_call 32; refine (HBN.out _ (HT1.out.below (TT3.out w3 hb3) (Nat.le_refl _))).mono ?_; rintro e w4 ⟨rfl, hb4⟩; have r4 := LL4.out w3 w4 hb3 hb4; have f4 := frozen_of_row w4 R 4 _ _ r4; have q4 := cell_of_row w4 R 4 _ _ _ r4; have r5 := heap_setCell_same w4 R 4 _ _ (.int .i64 z1) r4; have f5 := frozen_of_row _ R 5 _ _ r5; have q5 := cell_of_row _ R 5 _ _ _ r5; have hWB := LL5.out w3 w4 hb3 hb4; have mk := KEEP.out _ hWB.2; have m0 := cell_of_row _ w.heap.size 0 _ _ _ mk; have m1 := cell_of_row _ w.heap.size 1 _ _ _ mk; have m2 := cell_of_row _ w.heap.size 2 _ _ _ mk; obtain ⟨k0, k1, k2, k3, k4, k5⟩ := hWB.1.cells; have HWB := Aside0.mk hWB; clear hWB mk r4 r5) | (go_at_call 33; refine (HC.out _ HWB.out.1 (HT1.out.below HWB.out.2 (Nat.le_refl _))).mono ?_; rintro e w6 ⟨rfl, hb6⟩))
        go_ret3
        exact ⟨by have e := HZ2.out; subst e; rfl, HB1.out.trans ((HWB.out.2.trans (hb6.mono HWB.out.2.size)).mono HB1.out.size)⟩
      · have hz := HZ.out
        simp only [Bool.false_eq_true, if_false, if_true] at hz
        have HZ2 := Aside0.mk hz
        clear hz HZ
        go_wp2_with (first | (go_at_call 31; refine (HOF.out _ (HT1.out.below HB.out (Nat.le_refl _))).mono ?_; rintro e w3 ⟨rfl, hb3⟩; have r3 := LL3.out w3 hb3; have f3 := frozen_of_row w3 R 3 _ _ r3; have q3 := cell_of_row w3 R 3 _ _ _ r3; have q33 := cell_of_row _ R 3 _ _ _ (heap_setCell_same w3 R 3 _ _ (.int .i64 ln) r3)) | (go_at_call 32; refine (HBN.out _ (HT1.out.below (TT3.out w3 hb3) (Nat.le_refl _))).mono ?_; rintro e w4 ⟨rfl, hb4⟩; have r4 := LL4.out w3 w4 hb3 hb4; have f4 := frozen_of_row w4 R 4 _ _ r4; have q4 := cell_of_row w4 R 4 _ _ _ r4; have r5 := heap_setCell_same w4 R 4 _ _ (.int .i64 z1) r4; have f5 := frozen_of_row _ R 5 _ _ r5; have q5 := cell_of_row _ R 5 _ _ _ r5; have hWB := LL5.out w3 w4 hb3 hb4; have mk := KEEP.out _ hWB.2; have m0 := cell_of_row _ w.heap.size 0 _ _ _ mk; have m1 := cell_of_row _ w.heap.size 1 _ _ _ mk; have m2 := cell_of_row _ w.heap.size 2 _ _ _ mk; obtain ⟨k0, k1, k2, k3, k4, k5⟩ := hWB.1.cells; have HWB := Aside0.mk hWB; clear hWB mk r4 r5) | (go_at_call 33; refine (HC.out _ HWB.out.1 (HT1.out.below HWB.out.2 (Nat.le_refl _))).mono ?_; rintro e w6 ⟨rfl, hb6⟩))
        go_ret3
        exact ⟨by have e := HZ2.out; subst e; rfl, HB1.out.trans ((HWB.out.2.trans (hb6.mono HWB.out.2.size)).mono HB1.out.size)⟩
    by_cases g71 : key = 71
    · subst g71
      have hz := HZ.out
      rw [if_pos (by omega)] at hz
      clear HZ
      have HZ := Aside0.mk hz
      clear hz
      have HC := Aside0.mk (fun (w5 : World) (hW : WRow w5 R K) (hT : Tabs w5) => lines_w R K 71 arg cnt w5 OK.out.hs hW hT OK.out.hn OK.out.hl hc)
      generalize linesZ K 71 cnt = zz at HC HZ
      obtain ⟨y1, y2⟩ := zz
      simp only at HC HZ
      cases y2
      · have hz := HZ.out
        simp only [Bool.false_eq_true, if_false, if_true] at hz
        have HZ2 := Aside0.mk hz
        clear hz HZ
        go_wp2_with (first | (go_at_call 31; refine (HOF.out _ (HT1.out.below HB.out (Nat.le_refl _))).mono ?_; rintro e w3 ⟨rfl, hb3⟩; have r3 := LL3.out w3 hb3; have f3 := frozen_of_row w3 R 3 _ _ r3; have q3 := cell_of_row w3 R 3 _ _ _ r3; have q33 := cell_of_row _ R 3 _ _ _ (heap_setCell_same w3 R 3 _ _ (.int .i64 ln) r3)) | (go_at_call 32; refine (HBN.out _ (HT1.out.below (TT3.out w3 hb3) (Nat.le_refl _))).mono ?_; rintro e w4 ⟨rfl, hb4⟩; have r4 := LL4.out w3 w4 hb3 hb4; have f4 := frozen_of_row w4 R 4 _ _ r4; have q4 := cell_of_row w4 R 4 _ _ _ r4; have r5 := heap_setCell_same w4 R 4 _ _ (.int .i64 z1) r4; have f5 := frozen_of_row _ R 5 _ _ r5; have q5 := cell_of_row _ R 5 _ _ _ r5; have hWB := LL5.out w3 w4 hb3 hb4; have mk := KEEP.out _ hWB.2; have m0 := cell_of_row _ w.heap.size 0 _ _ _ mk; have m1 := cell_of_row _ w.heap.size 1 _ _ _ mk; have m2 := cell_of_row _ w.heap.size 2 _ _ _ mk; obtain ⟨k0, k1, k2, k3, k4, k5⟩ := hWB.1.cells; have HWB := Aside0.mk hWB; clear hWB mk r4 r5) | (go_at_call 33; refine (HC.out _ HWB.out.1 (HT1.out.below HWB.out.2 (Nat.le_refl _))).mono ?_; rintro e w6 ⟨rfl, hb6⟩))
        go_ret3
        exact ⟨by have e := HZ2.out; subst e; rfl, HB1.out.trans ((HWB.out.2.trans (hb6.mono HWB.out.2.size)).mono HB1.out.size)⟩
      · have hz := HZ.out
        simp only [Bool.false_eq_true, if_false, if_true] at hz
        have HZ2 := Aside0.mk hz
        clear hz HZ
        go_wp2_with (first | (go_at_call 31; refine (HOF.out _ (HT1.out.below HB.out (Nat.le_refl _))).mono ?_; rintro e w3 ⟨rfl, hb3⟩; have r3 := LL3.out w3 hb3; have f3 := frozen_of_row w3 R 3 _ _ r3; have q3 := cell_of_row w3 R 3 _ _ _ r3; have q33 := cell_of_row _ R 3 _ _ _ (heap_setCell_same w3 R 3 _ _ (.int .i64 ln) r3)) | (go_at_call 32; refine (HBN.out _ (HT1.out.below (TT3.out w3 hb3) (Nat.le_refl _))).mono ?_; rintro e w4 ⟨rfl, hb4⟩; have r4 := LL4.out w3 w4 hb3 hb4; have f4 := frozen_of_row w4 R 4 _ _ r4; have q4 := cell_of_row w4 R 4 _ _ _ r4; have r5 := heap_setCell_same w4 R 4 _ _ (.int .i64 z1) r4; have f5 := frozen_of_row _ R 5 _ _ r5; have q5 := cell_of_row _ R 5 _ _ _ r5; have hWB := LL5.out w3 w4 hb3 hb4; have mk := KEEP.out _ hWB.2; have m0 := cell_of_row _ w.heap.size 0 _ _ _ mk; have m1 := cell_of_row _ w.heap.size 1 _ _ _ mk; have m2 := cell_of_row _ w.heap.size 2 _ _ _ mk; obtain ⟨k0, k1, k2, k3, k4, k5⟩ := hWB.1.cells; have HWB := Aside0.mk hWB; clear hWB mk r4 r5) | (go_at_call 33; refine (HC.out _ HWB.out.1 (HT1.out.below HWB.out.2 (Nat.le_refl _))).mono ?_; rintro e w6 ⟨rfl, hb6⟩))
        go_ret3
        exact ⟨by have e := HZ2.out; subst e; rfl, HB1.out.trans ((HWB.out.2.trans (hb6.mono HWB.out.2.size)).mono HB1.out.size)⟩
    by_cases g103 : key = 103
    · subst g103
      have hz := HZ.out
      rw [if_pos (by omega)] at hz
      clear HZ
      have HZ := Aside0.mk hz
      clear hz
      have HC := Aside0.mk (fun (w5 : World) (hW : WRow w5 R K) (hT : Tabs w5) => lines_w R K 103 arg cnt w5 OK.out.hs hW hT OK.out.hn OK.out.hl hc)
      generalize linesZ K 103 cnt = zz at HC HZ
      obtain ⟨y1, y2⟩ := zz
      simp only at HC HZ
      cases y2
      · have hz := HZ.out
        simp only [Bool.false_eq_true, if_false, if_true] at hz
        have HZ2 := Aside0.mk hz
        clear hz HZ
        go_wp2_with (first | (go_at_call 31; refine (HOF.out _ (HT1.out.below HB.out (Nat.le_refl _))).mono ?_; rintro e w3 ⟨rfl, hb3⟩; have r3 := LL3.out w3 hb3; have f3 := frozen_of_row w3 R 3 _ _ r3; have q3 := cell_of_row w3 R 3 _ _ _ r3; have q33 := cell_of_row _ R 3 _ _ _ (heap_setCell_same w3 R 3 _ _ (.int .i64 ln) r3)) | (go_at_call 32; refine (HBN.out _ (HT1.out.below (TT3.out w3 hb3) (Nat.le_refl _))).mono ?_; rintro e w4 ⟨rfl, hb4⟩; have r4 := LL4.out w3 w4 hb3 hb4; have f4 := frozen_of_row w4 R 4 _ _ r4; have q4 := cell_of_row w4 R 4 _ _ _ r4; have r5 := heap_setCell_same w4 R 4 _ _ (.int .i64 z1) r4; have f5 := frozen_of_row _ R 5 _ _ r5; have q5 := cell_of_row _ R 5 _ _ _ r5; have hWB := LL5.out w3 w4 hb3 hb4; have mk := KEEP.out _ hWB.2; have m0 := cell_of_row _ w.heap.size 0 _ _ _ mk; have m1 := cell_of_row _ w.heap.size 1 _ _ _ mk; have m2 := cell_of_row _ w.heap.size 2 _ _ _ mk; obtain ⟨k0, k1, k2, k3, k4, k5⟩ := hWB.1.cells; have HWB := Aside0.mk hWB; clear hWB mk r4 r5) | (go_at_call 33; refine (HC.out _ HWB.out.1 (HT1.out.below HWB.out.2 (Nat.le_refl _))).mono ?_; rintro e w6 ⟨rfl, hb6⟩))
        go_ret3
        exact ⟨by have e := HZ2.out; subst e; rfl, HB1.out.trans ((HWB.out.2.trans (hb6.mono HWB.out.2.size)).mono HB1.out.size)⟩
      · have hz := HZ.out
        simp only [Bool.false_eq_true, if_false, if_true] at hz
        have HZ2 := Aside0.mk hz
        clear hz HZ
        go_wp2_with (first | (go_at_call 31; refine (HOF.out _ (HT1.out.below HB.out (Nat.le_refl _))).mono ?_; rintro e w3 ⟨rfl, hb3⟩; have r3 := LL3.out w3 hb3; have f3 := frozen_of_row w3 R 3 _ _ r3; have q3 := cell_of_row w3 R 3 _ _ _ r3; have q33 := cell_of_row _ R 3 _ _ _ (heap_setCell_same w3 R 3 _ _ (.int .i64 ln) r3)) | (go_at_call 32; refine (HBN.out _ (HT1.out.below (TT3.out w3 hb3) (Nat.le_refl _))).mono ?_; rintro e w4 ⟨rfl, hb4⟩; have r4 := LL4.out w3 w4 hb3 hb4; have f4 := frozen_of_row w4 R 4 _ _ r4; have q4 := cell_of_row w4 R 4 _ _ _ r4; have r5 := heap_setCell_same w4 R 4 _ _ (.int .i64 z1) r4; have f5 := frozen_of_row _ R 5 _ _ r5; have q5 := cell_of_row _ R 5 _ _ _ r5; have hWB := LL5.out w3 w4 hb3 hb4; have mk := KEEP.out _ hWB.2; have m0 := cell_of_row _ w.heap.size 0 _ _ _ mk; have m1 := cell_of_row _ w.heap.size 1 _ _ _ mk; have m2 := cell_of_row _ w.heap.size 2 _ _ _ mk; obtain ⟨k0, k1, k2, k3, k4, k5⟩ := hWB.1.cells; have HWB := Aside0.mk hWB; clear hWB mk r4 r5) | (go_at_call 33; refine (HC.out _ HWB.out.1 (HT1.out.below HWB.out.2 (Nat.le_refl _))).mono ?_; rintro e w6 ⟨rfl, hb6⟩))
        go_ret3
        exact ⟨by have e := HZ2.out; subst e; rfl, HB1.out.trans ((HWB.out.2.trans (hb6.mono HWB.out.2.size)).mono HB1.out.size)⟩
    have hz := HZ.out
    rw [if_neg (by omega)] at hz
    clear HZ
    have HZ := Aside0.mk hz
    clear hz
    have b106 : (key == 106) = false := beq_eq_false_iff_ne.mpr g106
    have b107 : (key == 107) = false := beq_eq_false_iff_ne.mpr g107
    have b71 : (key == 71) = false := beq_eq_false_iff_ne.mpr g71
    have b103 : (key == 103) = false := beq_eq_false_iff_ne.mpr g103
    clear g106 g107 g71 g103
    by_cases g101 : key = 101
    · subst g101
      have hz := HZ.out
      rw [if_pos rfl] at hz
      clear HZ
      rw [← EA.out] at hz
      have hz9 : K.s = s := ES.out
      have HP := Aside0.mk (fun (w5 : World) (hT : Tabs w5) => Prev_w s hs (s.size : Int) w5 hT)
      have HC := Aside0.mk (fun (w6 : World) (hW : WRow w6 R K) (hT : Tabs w6) => down_w R K (s.size : Int) (prevZ s (s.size : Int)) .fin (.func (.func 36) #[.pointer (some ⟨R, 0, none⟩)] #[]) w6 OK.out.hs hW hT rfl (by rw [ES.out]; exact Int.le_refl _) OK.out.hn OK.out.ha.1)
      clear hz9
      generalize dnZ K .fin (s.size : Int) (prevZ s (s.size : Int)) = zz at HC hz
      obtain ⟨y1, y2⟩ := zz
      simp only at HC hz
      generalize prevZ s (s.size : Int) = pv at HP HC
      by_cases gt : y1 > K.a
      · rw [if_pos gt] at hz
        have HZ2 := Aside0.mk hz
        have bd : decide (K.a < y1) = true := decide_eq_true gt
        clear hz gt
        go_wp2_with (first | (go_at_call 31; refine (HOF.out _ (HT1.out.below HB.out (Nat.le_refl _))).mono ?_; rintro e w3 ⟨rfl, hb3⟩; have r3 := LL3.out w3 hb3; have f3 := frozen_of_row w3 R 3 _ _ r3; have q3 := cell_of_row w3 R 3 _ _ _ r3; have q33 := cell_of_row _ R 3 _ _ _ (heap_setCell_same w3 R 3 _ _ (.int .i64 ln) r3)) | (go_at_call 32; refine (HBN.out _ (HT1.out.below (TT3.out w3 hb3) (Nat.le_refl _))).mono ?_; rintro e w4 ⟨rfl, hb4⟩; have r4 := LL4.out w3 w4 hb3 hb4; have f4 := frozen_of_row w4 R 4 _ _ r4; have q4 := cell_of_row w4 R 4 _ _ _ r4; have r5 := heap_setCell_same w4 R 4 _ _ (.int .i64 z1) r4; have f5 := frozen_of_row _ R 5 _ _ r5; have q5 := cell_of_row _ R 5 _ _ _ r5; have hWB := LL5.out w3 w4 hb3 hb4; have mk := KEEP.out _ hWB.2; have m0 := cell_of_row _ w.heap.size 0 _ _ _ mk; have m1 := cell_of_row _ w.heap.size 1 _ _ _ mk; have m2 := cell_of_row _ w.heap.size 2 _ _ _ mk; obtain ⟨k0, k1, k2, k3, k4, k5⟩ := hWB.1.cells; have HWB := Aside0.mk hWB; clear hWB mk r4 r5) | (go_at_call 35; refine (HP.out _ (HT1.out.below HWB.out.2 (Nat.le_refl _))).mono ?_; rintro e w5 ⟨rfl, hb5⟩) | (go_at_call 34; refine (HC.out w5 (HWB.out.1.below hb5) ((HT1.out.below HWB.out.2 (Nat.le_refl _)).below hb5 (Nat.le_refl _))).mono ?_; rintro e w6 ⟨rfl, hb6⟩; have hr6 := (HWB.out.1.below hb5).below hb6; obtain ⟨n0, n1, n2, n3, n4, n5⟩ := hr6.cells))
        go_ret3
        exact ⟨by have e := HZ2.out; subst e; rfl, HB1.out.trans ((HWB.out.2.trans ((hb5.trans (hb6.mono hb5.size)).mono HWB.out.2.size)).mono HB1.out.size)⟩
      · rw [if_neg gt] at hz
        have HZ2 := Aside0.mk hz
        have bd : decide (K.a < y1) = false := decide_eq_false gt
        clear hz gt
        go_wp2_with (first | (go_at_call 31; refine (HOF.out _ (HT1.out.below HB.out (Nat.le_refl _))).mono ?_; rintro e w3 ⟨rfl, hb3⟩; have r3 := LL3.out w3 hb3; have f3 := frozen_of_row w3 R 3 _ _ r3; have q3 := cell_of_row w3 R 3 _ _ _ r3; have q33 := cell_of_row _ R 3 _ _ _ (heap_setCell_same w3 R 3 _ _ (.int .i64 ln) r3)) | (go_at_call 32; refine (HBN.out _ (HT1.out.below (TT3.out w3 hb3) (Nat.le_refl _))).mono ?_; rintro e w4 ⟨rfl, hb4⟩; have r4 := LL4.out w3 w4 hb3 hb4; have f4 := frozen_of_row w4 R 4 _ _ r4; have q4 := cell_of_row w4 R 4 _ _ _ r4; have r5 := heap_setCell_same w4 R 4 _ _ (.int .i64 z1) r4; have f5 := frozen_of_row _ R 5 _ _ r5; have q5 := cell_of_row _ R 5 _ _ _ r5; have hWB := LL5.out w3 w4 hb3 hb4; have mk := KEEP.out _ hWB.2; have m0 := cell_of_row _ w.heap.size 0 _ _ _ mk; have m1 := cell_of_row _ w.heap.size 1 _ _ _ mk; have m2 := cell_of_row _ w.heap.size 2 _ _ _ mk; obtain ⟨k0, k1, k2, k3, k4, k5⟩ := hWB.1.cells; have HWB := Aside0.mk hWB; clear hWB mk r4 r5) | (go_at_call 35; refine (HP.out _ (HT1.out.below HWB.out.2 (Nat.le_refl _))).mono ?_; rintro e w5 ⟨rfl, hb5⟩) | (go_at_call 34; refine (HC.out w5 (HWB.out.1.below hb5) ((HT1.out.below HWB.out.2 (Nat.le_refl _)).below hb5 (Nat.le_refl _))).mono ?_; rintro e w6 ⟨rfl, hb6⟩; have hr6 := (HWB.out.1.below hb5).below hb6; obtain ⟨n0, n1, n2, n3, n4, n5⟩ := hr6.cells))
        go_ret3
        exact ⟨by have e := HZ2.out; subst e; rfl, HB1.out.trans ((HWB.out.2.trans ((hb5.trans (hb6.mono hb5.size)).mono HWB.out.2.size)).mono HB1.out.size)⟩
    have hz := HZ.out
    rw [if_neg g101] at hz
    clear HZ
    have HZ := Aside0.mk hz
    clear hz
    have b101 : (key == 101) = false := beq_eq_false_iff_ne.mpr g101
    clear g101
    by_cases g102 : key = 102
    · subst g102
      have hz := HZ.out
      rw [if_pos (by omega)] at hz
      clear HZ
      have HZ := Aside0.mk hz
      clear hz
      have HC := Aside0.mk (fun (w5 : World) (hW : WRow w5 R K) (hT : Tabs w5) => find_w R K 102 arg cnt w5 OK.out.hs hW hT OK.out.hn OK.out.ha OK.out.hf OK.out.ht)
      generalize findZ K 102 arg = zz at HC HZ
      obtain ⟨y1, y2⟩ := zz
      simp only at HC HZ
      cases y2
      · have hz := HZ.out
        simp only [Bool.false_eq_true, if_false, if_true] at hz
        have HZ2 := Aside0.mk hz
        clear hz HZ
        go_wp2_with (first | (go_at_call 31; refine (HOF.out _ (HT1.out.below HB.out (Nat.le_refl _))).mono ?_; rintro e w3 ⟨rfl, hb3⟩; have r3 := LL3.out w3 hb3; have f3 := frozen_of_row w3 R 3 _ _ r3; have q3 := cell_of_row w3 R 3 _ _ _ r3; have q33 := cell_of_row _ R 3 _ _ _ (heap_setCell_same w3 R 3 _ _ (.int .i64 ln) r3)) | (go_at_call 32; refine (HBN.out _ (HT1.out.below (TT3.out w3 hb3) (Nat.le_refl _))).mono ?_; rintro e w4 ⟨rfl, hb4⟩; have r4 := LL4.out w3 w4 hb3 hb4; have f4 := frozen_of_row w4 R 4 _ _ r4; have q4 := cell_of_row w4 R 4 _ _ _ r4; have r5 := heap_setCell_same w4 R 4 _ _ (.int .i64 z1) r4; have f5 := frozen_of_row _ R 5 _ _ r5; have q5 := cell_of_row _ R 5 _ _ _ r5; have hWB := LL5.out w3 w4 hb3 hb4; have mk := KEEP.out _ hWB.2; have m0 := cell_of_row _ w.heap.size 0 _ _ _ mk; have m1 := cell_of_row _ w.heap.size 1 _ _ _ mk; have m2 := cell_of_row _ w.heap.size 2 _ _ _ mk; obtain ⟨k0, k1, k2, k3, k4, k5⟩ := hWB.1.cells; have HWB := Aside0.mk hWB; clear hWB mk r4 r5) | (go_at_call 37; refine (HC.out _ HWB.out.1 (HT1.out.below HWB.out.2 (Nat.le_refl _))).mono ?_; rintro e w6 ⟨rfl, hb6⟩))
        go_ret3
        exact ⟨by have e := HZ2.out; subst e; rfl, HB1.out.trans ((HWB.out.2.trans (hb6.mono HWB.out.2.size)).mono HB1.out.size)⟩
      · have hz := HZ.out
        simp only [Bool.false_eq_true, if_false, if_true] at hz
        have HZ2 := Aside0.mk hz
        clear hz HZ
        go_wp2_with (first | (go_at_call 31; refine (HOF.out _ (HT1.out.below HB.out (Nat.le_refl _))).mono ?_; rintro e w3 ⟨rfl, hb3⟩; have r3 := LL3.out w3 hb3; have f3 := frozen_of_row w3 R 3 _ _ r3; have q3 := cell_of_row w3 R 3 _ _ _ r3; have q33 := cell_of_row _ R 3 _ _ _ (heap_setCell_same w3 R 3 _ _ (.int .i64 ln) r3)) | (go_at_call 32; refine (HBN.out _ (HT1.out.below (TT3.out w3 hb3) (Nat.le_refl _))).mono ?_; rintro e w4 ⟨rfl, hb4⟩; have r4 := LL4.out w3 w4 hb3 hb4; have f4 := frozen_of_row w4 R 4 _ _ r4; have q4 := cell_of_row w4 R 4 _ _ _ r4; have r5 := heap_setCell_same w4 R 4 _ _ (.int .i64 z1) r4; have f5 := frozen_of_row _ R 5 _ _ r5; have q5 := cell_of_row _ R 5 _ _ _ r5; have hWB := LL5.out w3 w4 hb3 hb4; have mk := KEEP.out _ hWB.2; have m0 := cell_of_row _ w.heap.size 0 _ _ _ mk; have m1 := cell_of_row _ w.heap.size 1 _ _ _ mk; have m2 := cell_of_row _ w.heap.size 2 _ _ _ mk; obtain ⟨k0, k1, k2, k3, k4, k5⟩ := hWB.1.cells; have HWB := Aside0.mk hWB; clear hWB mk r4 r5) | (go_at_call 37; refine (HC.out _ HWB.out.1 (HT1.out.below HWB.out.2 (Nat.le_refl _))).mono ?_; rintro e w6 ⟨rfl, hb6⟩))
        go_ret3
        exact ⟨by have e := HZ2.out; subst e; rfl, HB1.out.trans ((HWB.out.2.trans (hb6.mono HWB.out.2.size)).mono HB1.out.size)⟩
    by_cases g116 : key = 116
    · subst g116
      have hz := HZ.out
      rw [if_pos (by omega)] at hz
      clear HZ
      have HZ := Aside0.mk hz
      clear hz
      have HC := Aside0.mk (fun (w5 : World) (hW : WRow w5 R K) (hT : Tabs w5) => find_w R K 116 arg cnt w5 OK.out.hs hW hT OK.out.hn OK.out.ha OK.out.hf OK.out.ht)
      generalize findZ K 116 arg = zz at HC HZ
      obtain ⟨y1, y2⟩ := zz
      simp only at HC HZ
      cases y2
      · have hz := HZ.out
        simp only [Bool.false_eq_true, if_false, if_true] at hz
        have HZ2 := Aside0.mk hz
        clear hz HZ
        go_wp2_with (first | (go_at_call 31; refine (HOF.out _ (HT1.out.below HB.out (Nat.le_refl _))).mono ?_; rintro e w3 ⟨rfl, hb3⟩; have r3 := LL3.out w3 hb3; have f3 := frozen_of_row w3 R 3 _ _ r3; have q3 := cell_of_row w3 R 3 _ _ _ r3; have q33 := cell_of_row _ R 3 _ _ _ (heap_setCell_same w3 R 3 _ _ (.int .i64 ln) r3)) | (go_at_call 32; refine (HBN.out _ (HT1.out.below (TT3.out w3 hb3) (Nat.le_refl _))).mono ?_; rintro e w4 ⟨rfl, hb4⟩; have r4 := LL4.out w3 w4 hb3 hb4; have f4 := frozen_of_row w4 R 4 _ _ r4; have q4 := cell_of_row w4 R 4 _ _ _ r4; have r5 := heap_setCell_same w4 R 4 _ _ (.int .i64 z1) r4; have f5 := frozen_of_row _ R 5 _ _ r5; have q5 := cell_of_row _ R 5 _ _ _ r5; have hWB := LL5.out w3 w4 hb3 hb4; have mk := KEEP.out _ hWB.2; have m0 := cell_of_row _ w.heap.size 0 _ _ _ mk; have m1 := cell_of_row _ w.heap.size 1 _ _ _ mk; have m2 := cell_of_row _ w.heap.size 2 _ _ _ mk; obtain ⟨k0, k1, k2, k3, k4, k5⟩ := hWB.1.cells; have HWB := Aside0.mk hWB; clear hWB mk r4 r5) | (go_at_call 37; refine (HC.out _ HWB.out.1 (HT1.out.below HWB.out.2 (Nat.le_refl _))).mono ?_; rintro e w6 ⟨rfl, hb6⟩))
        go_ret3
        exact ⟨by have e := HZ2.out; subst e; rfl, HB1.out.trans ((HWB.out.2.trans (hb6.mono HWB.out.2.size)).mono HB1.out.size)⟩
      · have hz := HZ.out
        simp only [Bool.false_eq_true, if_false, if_true] at hz
        have HZ2 := Aside0.mk hz
        clear hz HZ
        go_wp2_with (first | (go_at_call 31; refine (HOF.out _ (HT1.out.below HB.out (Nat.le_refl _))).mono ?_; rintro e w3 ⟨rfl, hb3⟩; have r3 := LL3.out w3 hb3; have f3 := frozen_of_row w3 R 3 _ _ r3; have q3 := cell_of_row w3 R 3 _ _ _ r3; have q33 := cell_of_row _ R 3 _ _ _ (heap_setCell_same w3 R 3 _ _ (.int .i64 ln) r3)) | (go_at_call 32; refine (HBN.out _ (HT1.out.below (TT3.out w3 hb3) (Nat.le_refl _))).mono ?_; rintro e w4 ⟨rfl, hb4⟩; have r4 := LL4.out w3 w4 hb3 hb4; have f4 := frozen_of_row w4 R 4 _ _ r4; have q4 := cell_of_row w4 R 4 _ _ _ r4; have r5 := heap_setCell_same w4 R 4 _ _ (.int .i64 z1) r4; have f5 := frozen_of_row _ R 5 _ _ r5; have q5 := cell_of_row _ R 5 _ _ _ r5; have hWB := LL5.out w3 w4 hb3 hb4; have mk := KEEP.out _ hWB.2; have m0 := cell_of_row _ w.heap.size 0 _ _ _ mk; have m1 := cell_of_row _ w.heap.size 1 _ _ _ mk; have m2 := cell_of_row _ w.heap.size 2 _ _ _ mk; obtain ⟨k0, k1, k2, k3, k4, k5⟩ := hWB.1.cells; have HWB := Aside0.mk hWB; clear hWB mk r4 r5) | (go_at_call 37; refine (HC.out _ HWB.out.1 (HT1.out.below HWB.out.2 (Nat.le_refl _))).mono ?_; rintro e w6 ⟨rfl, hb6⟩))
        go_ret3
        exact ⟨by have e := HZ2.out; subst e; rfl, HB1.out.trans ((HWB.out.2.trans (hb6.mono HWB.out.2.size)).mono HB1.out.size)⟩
    have hz := HZ.out
    rw [if_neg (by omega)] at hz
    clear HZ
    have HZ := Aside0.mk hz
    clear hz
    have b102 : (key == 102) = false := beq_eq_false_iff_ne.mpr g102
    have b116 : (key == 116) = false := beq_eq_false_iff_ne.mpr g116
    clear g102 g116
    have HC := Aside0.mk (fun (w5 : World) (hW : WRow w5 R K) (hT : Tabs w5) => within_all R K key arg cnt w5 OK.out hW hT)
    generalize withinZ K key arg = zz at HC HZ
    obtain ⟨y1, y2⟩ := zz
    simp only at HC HZ
    cases y2
    · have hz := HZ.out
      simp only [Bool.false_eq_true, if_false, if_true] at hz
      have HZ2 := Aside0.mk hz
      clear hz HZ
      go_wp2_with (first | (go_at_call 31; refine (HOF.out _ (HT1.out.below HB.out (Nat.le_refl _))).mono ?_; rintro e w3 ⟨rfl, hb3⟩; have r3 := LL3.out w3 hb3; have f3 := frozen_of_row w3 R 3 _ _ r3; have q3 := cell_of_row w3 R 3 _ _ _ r3; have q33 := cell_of_row _ R 3 _ _ _ (heap_setCell_same w3 R 3 _ _ (.int .i64 ln) r3)) | (go_at_call 32; refine (HBN.out _ (HT1.out.below (TT3.out w3 hb3) (Nat.le_refl _))).mono ?_; rintro e w4 ⟨rfl, hb4⟩; have r4 := LL4.out w3 w4 hb3 hb4; have f4 := frozen_of_row w4 R 4 _ _ r4; have q4 := cell_of_row w4 R 4 _ _ _ r4; have r5 := heap_setCell_same w4 R 4 _ _ (.int .i64 z1) r4; have f5 := frozen_of_row _ R 5 _ _ r5; have q5 := cell_of_row _ R 5 _ _ _ r5; have hWB := LL5.out w3 w4 hb3 hb4; have mk := KEEP.out _ hWB.2; have m0 := cell_of_row _ w.heap.size 0 _ _ _ mk; have m1 := cell_of_row _ w.heap.size 1 _ _ _ mk; have m2 := cell_of_row _ w.heap.size 2 _ _ _ mk; obtain ⟨k0, k1, k2, k3, k4, k5⟩ := hWB.1.cells; have HWB := Aside0.mk hWB; clear hWB mk r4 r5) | (go_at_call 38; refine (HC.out _ HWB.out.1 (HT1.out.below HWB.out.2 (Nat.le_refl _))).mono ?_; rintro e w6 ⟨rfl, hb6⟩))
      go_ret3
      exact ⟨by have e := HZ2.out; subst e; rfl, HB1.out.trans ((HWB.out.2.trans (hb6.mono HWB.out.2.size)).mono HB1.out.size)⟩
    · have hz := HZ.out
      simp only [Bool.false_eq_true, if_false, if_true] at hz
      have HZ2 := Aside0.mk hz
      clear hz HZ
      go_wp2_with (first | (go_at_call 31; refine (HOF.out _ (HT1.out.below HB.out (Nat.le_refl _))).mono ?_; rintro e w3 ⟨rfl, hb3⟩; have r3 := LL3.out w3 hb3; have f3 := frozen_of_row w3 R 3 _ _ r3; have q3 := cell_of_row w3 R 3 _ _ _ r3; have q33 := cell_of_row _ R 3 _ _ _ (heap_setCell_same w3 R 3 _ _ (.int .i64 ln) r3)) | (go_at_call 32; refine (HBN.out _ (HT1.out.below (TT3.out w3 hb3) (Nat.le_refl _))).mono ?_; rintro e w4 ⟨rfl, hb4⟩; have r4 := LL4.out w3 w4 hb3 hb4; have f4 := frozen_of_row w4 R 4 _ _ r4; have q4 := cell_of_row w4 R 4 _ _ _ r4; have r5 := heap_setCell_same w4 R 4 _ _ (.int .i64 z1) r4; have f5 := frozen_of_row _ R 5 _ _ r5; have q5 := cell_of_row _ R 5 _ _ _ r5; have hWB := LL5.out w3 w4 hb3 hb4; have mk := KEEP.out _ hWB.2; have m0 := cell_of_row _ w.heap.size 0 _ _ _ mk; have m1 := cell_of_row _ w.heap.size 1 _ _ _ mk; have m2 := cell_of_row _ w.heap.size 2 _ _ _ mk; obtain ⟨k0, k1, k2, k3, k4, k5⟩ := hWB.1.cells; have HWB := Aside0.mk hWB; clear hWB mk r4 r5) | (go_at_call 38; refine (HC.out _ HWB.out.1 (HT1.out.below HWB.out.2 (Nat.le_refl _))).mono ?_; rintro e w6 ⟨rfl, hb6⟩))
      go_ret3
      exact ⟨by have e := HZ2.out; subst e; rfl, HB1.out.trans ((HWB.out.2.trans (hb6.mono HWB.out.2.size)).mono HB1.out.size)⟩
/-! The contract of move.To, in the print's form. -/
def move_To.f (a0 : ByteArray) (a1 m0 m1 m2 : Int) : Option (Int × Int × Bool) := if a0.size < 1000000 ∧ -9223372036854775808 ≤ m2 ∧ m2 ≤ 9223372036854775807 then some (toZ a0 a1 m0 m1 m2) else none
theorem move_To.calls (a0 : ByteArray) (a1 m0 m1 m2 : Int) (r1 r2 : Int) (r3 : Bool) (w : World) (h : move_To.f a0 a1 m0 m1 m2 = some (r1, r2, r3)) (hT : Tabs w) :
    Calls Tryd.prog 12 #[.string a0, .int .i64 a1, .agg #[.int .i32 m0, .int .i32 m1, .int .i64 m2]] w fun e w' => e = .returned (.tuple #[.int .i64 r1, .int .i64 r2, .bool r3]) ∧ Below w.heap.size w w' := by
  unfold move_To.f at h
  split at h
  · rename_i hs
    have P := To_w a0 a1 m0 m1 m2 w hs.1 hT hs.2
    have h2 := Option.some.inj h
    rw [h2] at P
    exact P
  · cases h

end Go.Proofs.YtpajakfmahfpkaaDoor.Ext
