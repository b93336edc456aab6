/- The walker of 'move': find, by its walk. -/
import Derived.Test.YtpajakfmahfpkaaDoorExt12CK
import Derived.Test.YtpajakfmahfpkaaDoorWMore
import Derived.WalkKit
import Derived.WalkMore
import Derived.Below
import Derived.KernelRfl
import Derived.LoopTactic
import Derived.Deep.RegionWith
import Derived.Deep.RegionHeld3
import Derived.IntWalk
import Derived.Deep.DeepCutAuto
import Derived.Deep.CutBlock
import Derived.BigQuiet
import Derived.Laws.RangeString
import Derived.Laws.RangeAny
import Derived.Laws.Rows
import Derived.Laws.Runes
import Derived.Lib.OthersKept
import Derived.OpenShut
set_option linter.unusedVariables false
set_option linter.unusedSimpArgs false
namespace Go.Proofs.YtpajakfmahfpkaaDoor.Ext
open Go.RowKit Go.Lib Go.Proofs.YtpajakfmahfpkaaDoorW.PrintWords Go.Proofs.YtpajakfmahfpkaaDoorW.PrintMore

def findZ (k : Wk) (key arg : Int) : Int × Bool :=
  if key = 102 ∨ key = 116 then (if (dnZ k (.is arg) k.t 0).2 = true ∧ key = 116 then prevZ k.s (dnZ k (.is arg) k.t 0).1 else (dnZ k (.is arg) k.t 0).1, (dnZ k (.is arg) k.t 0).2)
  else (if (upZ k (.is arg) k.f 0).2 = true ∧ key = 84 then nextZ k.s (upZ k (.is arg) k.f 0).1 else (upZ k (.is arg) k.f 0).1, (upZ k (.is arg) k.f 0).2)
abbrev W2 (w : World) (R : Nat) (key arg cnt : Int) : World := (w.alloc (.cells #[.pointer (some ⟨R, 0, none⟩)] 48)).alloc (.cells #[.int .i32 key, .int .i32 arg, .int .i64 cnt] 23)
theorem W2_below (w : World) (R : Nat) (key arg cnt : Int) : Below w.heap.size w (W2 w R key arg cnt) := ((Below.refl _ _).alloc (Nat.le_refl _) _).alloc (by simp) _
theorem W2_c0 (w : World) (R : Nat) (key arg cnt : Int) : (W2 w R key arg cnt).cell? ⟨w.heap.size, 0, none⟩ = some (.pointer (some ⟨R, 0, none⟩)) := by
  rw [World.cell?_alloc_past _ _ _ (by simp), World.cell?_alloc_at _ _ _ _ rfl]; rfl
theorem W2_c1 (w : World) (R : Nat) (key arg cnt : Int) (i : Nat) : (W2 w R key arg cnt).cell? ⟨w.heap.size + 1, i, none⟩ = (#[Value.int .i32 key, Value.int .i32 arg, Value.int .i64 cnt] : Array Value)[i]? := by
  rw [World.cell?_alloc_at _ _ _ _ (by simp)]
set_option maxRecDepth 100000 in
set_option maxHeartbeats 8000000 in
theorem find_w (R : Nat) (k : Wk) (key arg cnt : Int) (w : World) (hs : k.s.size < 1000000) (hR : WRow w R k) (hT : Tabs w) (hn : 1 ≤ k.n ∧ k.n ≤ 999) (ha : 0 ≤ k.a ∧ k.a ≤ (k.s.size : Int)) (hf : 0 ≤ k.f) (ht : k.t ≤ (k.s.size : Int)) :
    Calls Tryd.prog 37 #[.pointer (some ⟨R, 0, none⟩), .agg #[.int .i32 key, .int .i32 arg, .int .i64 cnt]] w fun e w' => e = .returned (.tuple #[.int .i64 (findZ k key arg).1, .bool (findZ k key arg).2]) ∧ Below w.heap.size w w' := by
  have hB2 := W2_below w R key arg cnt
  have hR2 := hR.below hB2
  have hT2 := hT.below hB2 (Nat.le_refl _)
  have c0 := W2_c0 w R key arg cnt
  have c1 := W2_c1 w R key arg cnt
  have c10 : (W2 w R key arg cnt).cell? ⟨w.heap.size + 1, 0, none⟩ = some (.int .i32 key) := by rw [c1]; rfl
  have c11 : (W2 w R key arg cnt).cell? ⟨w.heap.size + 1, 1, none⟩ = some (.int .i32 arg) := by rw [c1]; rfl
  have c12 : (W2 w R key arg cnt).cell? ⟨w.heap.size + 1, 2, none⟩ = some (.int .i64 cnt) := by rw [c1]; rfl
  have hD : Below (W2 w R key arg cnt).heap.size (W2 w R key arg cnt) (W2 w R key arg cnt).drew := (Below.refl _ _).drew
  have hsz : (W2 w R key arg cnt).heap.size = w.heap.size + 1 + 1 := by simp
  have rf : RfV (W2 w R key arg cnt) R (.func (.func 70) #[] #[.pointer (some ⟨w.heap.size, 0, none⟩), .pointer (some ⟨w.heap.size + 1, 0, none⟩)]) (.is arg) := ⟨_, _, rfl, c0, c11⟩
  obtain ⟨h0, h1, h2, h3, h4, h5⟩ := hR2.cells
  have HB2 := Aside0.mk hB2
  have HR2 := Aside0.mk hR2
  have HT2 := Aside0.mk hT2
  have HD := Aside0.mk hD
  have HSZ := Aside0.mk hsz
  have keep : ∀ wc, Below (W2 w R key arg cnt).heap.size (W2 w R key arg cnt) wc → wc.cell? ⟨w.heap.size, 0, none⟩ = some (.pointer (some ⟨R, 0, none⟩)) ∧ wc.cell? ⟨w.heap.size + 1, 0, none⟩ = some (.int .i32 key) :=
    fun wc hb => ⟨(hb.cell (p := ⟨w.heap.size, 0, none⟩) (by show w.heap.size < _; rw [hsz]; omega)).trans c0, (hb.cell (p := ⟨w.heap.size + 1, 0, none⟩) (by show w.heap.size + 1 < _; rw [hsz]; omega)).trans c10⟩
  have KEEP := Aside0.mk keep
  clear hR hT hB2 hT2 keep hsz c1
  by_cases g : key = 102 ∨ key = 116
  · have HS := Aside0.mk (down_w R k k.t 0 (.is arg) _ (W2 w R key arg cnt).drew hs (HR2.out.below hD) (HT2.out.below hD (Nat.le_refl _)) (rf.below hD) ht hn ha.1)
    have HZ : Aside0 (findZ k key arg = (if (dnZ k (.is arg) k.t 0).2 = true ∧ key = 116 then prevZ k.s (dnZ k (.is arg) k.t 0).1 else (dnZ k (.is arg) k.t 0).1, (dnZ k (.is arg) k.t 0).2)) := ⟨by unfold findZ; rw [if_pos g]⟩
    clear rf hD hR2
    generalize dnZ k (.is arg) k.t 0 = z at HS HZ
    generalize findZ k key arg = res at HZ ⊢
    obtain ⟨tz, ok⟩ := z
    rcases g with rfl | rfl
    · skip
      go_enter Tryd.func37, Tryd.ntmps37
      go_upto_region 5 with (fail)
      go_cut [7, 8] (fun v7 v8 wc => v7 = .int .i64 tz ∧ v8 = .bool ok ∧ Aside0 (Below (W2 w R 102 arg cnt).heap.size (W2 w R 102 arg cnt) wc))
      case first =>
        go_region_with (go_at_call 34; refine HS.out.mono ?_; rintro e w1 ⟨rfl, hb1⟩)
        all_goals (go_wp2; go_meet)
        all_goals exact ⟨rfl, rfl, ⟨HD.out.trans (hb1.mono HD.out.size)⟩⟩
      case rest =>
        obtain ⟨rfl, rfl, HB⟩ := hcut
        obtain ⟨d0, d1⟩ := KEEP.out _ HB.out
        have hrc := HR2.out.below HB.out
        have HTC := Aside0.mk (HT2.out.below HB.out (Nat.le_refl _))
        obtain ⟨i0, i1, i2, i3, i4, i5⟩ := hrc.cells
        cases ok
        · have hz := HZ.out
          simp only [Bool.false_eq_true, false_and, if_false] at hz
          have HZ2 := Aside0.mk hz
          clear hz
          go_wp2
          go_ret2
          exact ⟨by have e := HZ2.out; subst e; rfl, HB2.out.trans (HB.out.mono HB2.out.size)⟩
        · have hz := HZ.out
          rw [if_neg (fun h => absurd h.2 (by decide))] at hz
          have HZ2 := Aside0.mk hz
          clear hz
          go_wp2
          go_ret2
          exact ⟨by have e := HZ2.out; subst e; rfl, HB2.out.trans (HB.out.mono HB2.out.size)⟩
    · skip
      go_enter Tryd.func37, Tryd.ntmps37
      go_upto_region 5 with (fail)
      go_cut [7, 8] (fun v7 v8 wc => v7 = .int .i64 tz ∧ v8 = .bool ok ∧ Aside0 (Below (W2 w R 116 arg cnt).heap.size (W2 w R 116 arg cnt) wc))
      case first =>
        go_region_with (go_at_call 34; refine HS.out.mono ?_; rintro e w1 ⟨rfl, hb1⟩)
        all_goals (go_wp2; go_meet)
        all_goals exact ⟨rfl, rfl, ⟨HD.out.trans (hb1.mono HD.out.size)⟩⟩
      case rest =>
        obtain ⟨rfl, rfl, HB⟩ := hcut
        obtain ⟨d0, d1⟩ := KEEP.out _ HB.out
        have hrc := HR2.out.below HB.out
        have HTC := Aside0.mk (HT2.out.below HB.out (Nat.le_refl _))
        obtain ⟨i0, i1, i2, i3, i4, i5⟩ := hrc.cells
        cases ok
        · have hz := HZ.out
          simp only [Bool.false_eq_true, false_and, if_false] at hz
          have HZ2 := Aside0.mk hz
          clear hz
          go_wp2
          go_ret2
          exact ⟨by have e := HZ2.out; subst e; rfl, HB2.out.trans (HB.out.mono HB2.out.size)⟩
        · have hz := HZ.out
          simp only [true_and, if_true] at hz
          have HZ2 := Aside0.mk hz
          clear hz
          go_wp2_with (go_at_call 35; refine (Prev_w k.s hs tz _ HTC.out).mono ?_; rintro e w3 ⟨rfl, hb3⟩)
          go_ret2
          exact ⟨by have e := HZ2.out; subst e; rfl, HB2.out.trans ((HB.out.trans (hb3.mono HB.out.size)).mono HB2.out.size)⟩
  · have g1 : (key == 102) = false := by simp only [beq_eq_false_iff_ne]; omega
    have g2 : (key == 116) = false := by simp only [beq_eq_false_iff_ne]; omega
    have HS := Aside0.mk (up_w R k k.f 0 (.is arg) _ (W2 w R key arg cnt).drew hs (HR2.out.below hD) (HT2.out.below hD (Nat.le_refl _)) (rf.below hD) hf hn ha)
    have HZ : Aside0 (findZ k key arg = (if (upZ k (.is arg) k.f 0).2 = true ∧ key = 84 then nextZ k.s (upZ k (.is arg) k.f 0).1 else (upZ k (.is arg) k.f 0).1, (upZ k (.is arg) k.f 0).2)) := ⟨by unfold findZ; rw [if_neg g]⟩
    clear rf hD hR2 g
    generalize upZ k (.is arg) k.f 0 = z at HS HZ
    generalize findZ k key arg = res at HZ ⊢
    obtain ⟨tz, ok⟩ := z
    by_cases g3 : key = 84
    · subst g3
      go_enter Tryd.func37, Tryd.ntmps37
      go_upto_region 9 with (fail)
      go_cut [9, 10] (fun v7 v8 wc => v7 = .int .i64 tz ∧ v8 = .bool ok ∧ Aside0 (Below (W2 w R 84 arg cnt).heap.size (W2 w R 84 arg cnt) wc))
      case first =>
        go_region_with (go_at_call 71; refine HS.out.mono ?_; rintro e w1 ⟨rfl, hb1⟩)
        all_goals (go_wp2; go_meet)
        all_goals exact ⟨rfl, rfl, ⟨HD.out.trans (hb1.mono HD.out.size)⟩⟩
      case rest =>
        obtain ⟨rfl, rfl, HB⟩ := hcut
        obtain ⟨d0, d1⟩ := KEEP.out _ HB.out
        have hrc := HR2.out.below HB.out
        have HTC := Aside0.mk (HT2.out.below HB.out (Nat.le_refl _))
        obtain ⟨i0, i1, i2, i3, i4, i5⟩ := hrc.cells
        cases ok
        · have hz := HZ.out
          simp only [Bool.false_eq_true, false_and, if_false] at hz
          have HZ2 := Aside0.mk hz
          clear hz
          go_wp2
          go_ret2
          exact ⟨by have e := HZ2.out; subst e; rfl, HB2.out.trans (HB.out.mono HB2.out.size)⟩
        · have hz := HZ.out
          simp only [true_and, if_true] at hz
          have HZ2 := Aside0.mk hz
          clear hz
          go_wp2_with (go_at_call 68; refine (Next_w k.s hs tz _ HTC.out).mono ?_; rintro e w3 ⟨rfl, hb3⟩)
          go_ret2
          exact ⟨by have e := HZ2.out; subst e; rfl, HB2.out.trans ((HB.out.trans (hb3.mono HB.out.size)).mono HB2.out.size)⟩
    · have g4 : (key == 84) = false := beq_eq_false_iff_ne.mpr g3
      have HG := Aside0.mk g3
      clear g3
      go_enter Tryd.func37, Tryd.ntmps37
      go_upto_region 9 with (fail)
      go_cut [9, 10] (fun v7 v8 wc => v7 = .int .i64 tz ∧ v8 = .bool ok ∧ Aside0 (Below (W2 w R key arg cnt).heap.size (W2 w R key arg cnt) wc))
      case first =>
        go_region_with (go_at_call 71; refine HS.out.mono ?_; rintro e w1 ⟨rfl, hb1⟩)
        all_goals (go_wp2; go_meet)
        all_goals exact ⟨rfl, rfl, ⟨HD.out.trans (hb1.mono HD.out.size)⟩⟩
      case rest =>
        obtain ⟨rfl, rfl, HB⟩ := hcut
        obtain ⟨d0, d1⟩ := KEEP.out _ HB.out
        have hrc := HR2.out.below HB.out
        have HTC := Aside0.mk (HT2.out.below HB.out (Nat.le_refl _))
        obtain ⟨i0, i1, i2, i3, i4, i5⟩ := hrc.cells
        cases ok
        · have hz := HZ.out
          simp only [Bool.false_eq_true, false_and, if_false] at hz
          have HZ2 := Aside0.mk hz
          clear hz
          go_wp2
          go_ret2
          exact ⟨by have e := HZ2.out; subst e; rfl, HB2.out.trans (HB.out.mono HB2.out.size)⟩
        · have hz := HZ.out
          rw [if_neg (fun h => HG.out h.2)] at hz
          have HZ2 := Aside0.mk hz
          clear hz
          go_wp2
          go_ret2
          exact ⟨by have e := HZ2.out; subst e; rfl, HB2.out.trans (HB.out.mono HB2.out.size)⟩

end Go.Proofs.YtpajakfmahfpkaaDoor.Ext
