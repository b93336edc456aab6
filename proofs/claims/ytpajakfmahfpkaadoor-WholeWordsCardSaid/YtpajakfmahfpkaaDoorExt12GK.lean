/- The walker of 'move': lines, by its walk. -/
import Derived.Test.YtpajakfmahfpkaaDoorExt12BK
import Derived.Test.YtpajakfmahfpkaaDoorWMore
import Derived.WalkKit
import Derived.WalkMore
import Derived.Below
import Derived.KernelRfl
import Derived.LoopTactic
import Derived.Deep.RegionWith
import Derived.Deep.RegionHeld3
import Derived.IntWalk
import Derived.Deep.DeepCutAuto
import Derived.Deep.CutBlock
import Derived.BigQuiet
import Derived.Laws.RangeString
import Derived.Laws.RangeAny
import Derived.Laws.Rows
import Derived.Laws.Runes
import Derived.Lib.OthersKept
import Derived.OpenShut
set_option linter.unusedVariables false
set_option linter.unusedSimpArgs false
namespace Go.Proofs.YtpajakfmahfpkaaDoor.Ext
open Go.RowKit Go.Lib Go.Proofs.YtpajakfmahfpkaaDoorW.PrintWords Go.Proofs.YtpajakfmahfpkaaDoorW.PrintMore

theorem Count_w (s : ByteArray) (hs : s.size < 1000000) (w : World) (hT : Tabs w) :
    Calls Tryd.prog 55 #[.string s] w fun e w' => e = .returned (.int .i64 ((nE s : Nat) : Int)) ∧ Below w.heap.size w w' :=
  line_Count.calls s _ w (by unfold line_Count.f; rw [if_pos hs]) hT
theorem First_w (s : ByteArray) (hs : s.size < 1000000) (n : Int) (w : World) (hT : Tabs w) :
    Calls Tryd.prog 28 #[.string s, .int .i64 n] w fun e w' => e = .returned (.int .i64 ((firstZ s n : Nat) : Int)) ∧ Below w.heap.size w w' :=
  line_First.calls s n _ w (by unfold line_First.f; rw [if_pos hs]) hT
theorem Col_w (s : ByteArray) (hs : s.size < 1000000) (a : Int) (w : World) (hT : Tabs w) :
    Calls Tryd.prog 24 #[.string s, .int .i64 a] w fun e w' => e = .returned (.int .i64 ((colZ s a : Nat) : Int)) ∧ Below w.heap.size w w' :=
  line_Col.calls s a _ w (by unfold line_Col.f; rw [if_pos hs]) hT
theorem col_le (s : ByteArray) (a : Int) : colZ s a ≤ s.size := by
  unfold colZ sub
  obtain ⟨n, h⟩ := signs_ex (s.extract (bF s (ofZ s ((alignZ s a : Nat) : Int))) (alignZ s a))
  rw [h.len]
  have := h.le
  have h2 : (s.extract (bF s (ofZ s ((alignZ s a : Nat) : Int))) (alignZ s a)).size ≤ s.size := by
    rw [ByteArray.size_extract]
    omega
  omega
theorem Place_w (s : ByteArray) (hs : s.size < 1000000) (n c : Int) (w : World) (hT : Tabs w) (h0 : 0 ≤ c) (h1 : c ≤ 1000000) :
    Calls Tryd.prog 26 #[.string s, .int .i64 n, .int .i64 c] w fun e w' => e = .returned (.int .i64 ((placeZ s n c : Nat) : Int)) ∧ Below w.heap.size w w' :=
  line_Place.calls s n c _ w (by unfold line_Place.f; rw [if_pos ⟨hs, by omega, by omega⟩]) hT
def lineTo (k : Wk) (key cnt : Int) : Int := if key = 106 then k.line + k.n else if key = 107 then k.line - k.n else if cnt < 1 ∧ key = 103 then 0 else if cnt < 1 then ((nE k.s : Nat) : Int) - 1 else min (cnt - 1) (((nE k.s : Nat) : Int) - 1)
def linesZ (k : Wk) (key cnt : Int) : Int × Bool :=
  if lineTo k key cnt < 0 then (0, false) else if lineTo k key cnt > ((nE k.s : Nat) : Int) - 1 then (0, false)
  else if key = 106 ∨ key = 107 then (((placeZ k.s (lineTo k key cnt) ((colZ k.s k.a : Nat) : Int) : Nat) : Int), true) else (((firstZ k.s (lineTo k key cnt) : Nat) : Int), true)
abbrev W1 (w : World) (key arg cnt : Int) : World := w.alloc (.cells #[.int .i32 key, .int .i32 arg, .int .i64 cnt] 23)
theorem W1_below (w : World) (key arg cnt : Int) : Below w.heap.size w (W1 w key arg cnt) := (Below.refl _ _).alloc (Nat.le_refl _) _
theorem W1_c (w : World) (key arg cnt : Int) (i : Nat) : (W1 w key arg cnt).cell? ⟨w.heap.size, i, none⟩ = (#[Value.int .i32 key, Value.int .i32 arg, Value.int .i64 cnt] : Array Value)[i]? := by
  rw [World.cell?_alloc_at _ _ _ _ rfl]
set_option maxRecDepth 100000 in
set_option maxHeartbeats 16000000 in
theorem lines_w (R : Nat) (k : Wk) (key arg cnt : Int) (w : World) (hs : k.s.size < 1000000) (hR : WRow w R k) (hT : Tabs w) (hn : 1 ≤ k.n ∧ k.n ≤ 999) (hl : 0 ≤ k.line ∧ k.line < ((nE k.s : Nat) : Int)) (hc : -9223372036854775808 ≤ cnt ∧ cnt ≤ 9223372036854775807) :
    Calls Tryd.prog 33 #[.pointer (some ⟨R, 0, none⟩), .agg #[.int .i32 key, .int .i32 arg, .int .i64 cnt]] w fun e w' => e = .returned (.tuple #[.int .i64 (linesZ k key cnt).1, .bool (linesZ k key cnt).2]) ∧ Below w.heap.size w w' := by
  have hnE := nE_le k.s
  have hcl := col_le k.s k.a
  have CP0 : Aside0 (0 ≤ ((colZ k.s k.a : Nat) : Int)) := ⟨by omega⟩
  have CP1 : Aside0 (((colZ k.s k.a : Nat) : Int) ≤ 1000000) := ⟨by omega⟩
  have hB1 := W1_below w key arg cnt
  have hR1 := hR.below hB1
  have hT1 := hT.below hB1 (Nat.le_refl _)
  have c1 := W1_c w key arg cnt
  have c10 : (W1 w key arg cnt).cell? ⟨w.heap.size, 0, none⟩ = some (.int .i32 key) := by rw [c1]; rfl
  have c12 : (W1 w key arg cnt).cell? ⟨w.heap.size, 2, none⟩ = some (.int .i64 cnt) := by rw [c1]; rfl
  have hsz : (W1 w key arg cnt).heap.size = w.heap.size + 1 := by simp
  obtain ⟨h0, h1, h2, h3, h4, h5⟩ := hR1.cells
  have keep : ∀ wc, Below (W1 w key arg cnt).heap.size (W1 w key arg cnt) wc → wc.cell? ⟨w.heap.size, 0, none⟩ = some (.int .i32 key) ∧ wc.cell? ⟨w.heap.size, 2, none⟩ = some (.int .i64 cnt) :=
    fun wc hb => ⟨(hb.cell (p := ⟨w.heap.size, 0, none⟩) (by show w.heap.size < _; rw [hsz]; omega)).trans c10, (hb.cell (p := ⟨w.heap.size, 2, none⟩) (by show w.heap.size < _; rw [hsz]; omega)).trans c12⟩
  have HB1 := Aside0.mk hB1
  have HR1 := Aside0.mk hR1
  have HT1 := Aside0.mk hT1
  have KEEP := Aside0.mk keep
  have HCN := Aside0.mk (Count_w k.s hs _ hT1)
  have hwl : wrap64 (((nE k.s : Nat) : Int) - 1) = ((nE k.s : Nat) : Int) - 1 := wrapZ _ (by omega) (by omega)
  have HL : Aside0 (linesZ k key cnt = if lineTo k key cnt < 0 then (0, false) else if lineTo k key cnt > ((nE k.s : Nat) : Int) - 1 then (0, false)
    else if key = 106 ∨ key = 107 then (((placeZ k.s (lineTo k key cnt) ((colZ k.s k.a : Nat) : Int) : Nat) : Int), true) else (((firstZ k.s (lineTo k key cnt) : Nat) : Int), true)) := ⟨rfl⟩
  have HTO : Aside0 (lineTo k key cnt = if key = 106 then k.line + k.n else if key = 107 then k.line - k.n else if cnt < 1 ∧ key = 103 then 0 else if cnt < 1 then ((nE k.s : Nat) : Int) - 1 else min (cnt - 1) (((nE k.s : Nat) : Int) - 1)) := ⟨rfl⟩
  generalize linesZ k key cnt = res at HL ⊢
  generalize hLL : ((nE k.s : Nat) : Int) - 1 = LL at HL HTO hwl
  clear hR hT hB1 hT1 hR1 keep hsz c1
  have b1min : ∀ x y : Int, Aside0 (min x y = min x y) := fun _ _ => ⟨rfl⟩
  by_cases k1 : key = 106
  · subst k1
    have hto := HTO.out
    rw [if_pos rfl] at hto
    have hl2 := HL.out
    rw [hto] at hl2
    clear HL
    have HL := hl2
    clear hl2
    clear HTO hto b1min
    have hwt : wrap64 (k.line + k.n) = k.line + k.n := wrapZ _ (by omega) (by omega)
    by_cases d1 : k.line + k.n < 0
    · rw [if_pos d1] at HL
      have HZ := Aside0.mk HL
      have b1 : decide (k.line + k.n < 0) = true := decide_eq_true d1
      clear HL d1
      go_enter Tryd.func33, Tryd.ntmps33
      go_upto_region 4 with (go_at_call 55; refine HCN.out.mono ?_; rintro e w1 ⟨rfl, hb1⟩; obtain ⟨d0, d2⟩ := KEEP.out _ hb1; have hrc := HR1.out.below hb1; obtain ⟨i0, i1, i2, i3, i4, i5⟩ := hrc.cells)
      go_quiet (fail)
      go_wp2
      go_ret2
      exact ⟨by have e := HZ.out; subst e; rfl, HB1.out.trans ((pw_below_drewN hb1 nq).mono HB1.out.size)⟩
    · rw [if_neg d1] at HL
      have b1 : decide (k.line + k.n < 0) = false := decide_eq_false d1
      by_cases d2 : k.line + k.n > LL
      · rw [if_pos d2] at HL
        have HZ := Aside0.mk HL
        have b2 : decide (LL < k.line + k.n) = true := decide_eq_true d2
        clear HL d1 d2
        go_enter Tryd.func33, Tryd.ntmps33
        go_upto_region 4 with (go_at_call 55; refine HCN.out.mono ?_; rintro e w1 ⟨rfl, hb1⟩; obtain ⟨d0, d2⟩ := KEEP.out _ hb1; have hrc := HR1.out.below hb1; obtain ⟨i0, i1, i2, i3, i4, i5⟩ := hrc.cells)
        go_quiet (fail)
        go_wp2
        go_ret2
        exact ⟨by have e := HZ.out; subst e; rfl, HB1.out.trans ((pw_below_drewN hb1 nq).mono HB1.out.size)⟩
      · rw [if_neg d2] at HL
        have b2 : decide (LL < k.line + k.n) = false := decide_eq_false d2
        rw [if_pos (by decide)] at HL
        have HZ := Aside0.mk HL
        clear HL d1 d2
        go_enter Tryd.func33, Tryd.ntmps33
        go_upto_region 4 with (go_at_call 55; refine HCN.out.mono ?_; rintro e w1 ⟨rfl, hb1⟩; obtain ⟨d0, d2⟩ := KEEP.out _ hb1; have hrc := HR1.out.below hb1; obtain ⟨i0, i1, i2, i3, i4, i5⟩ := hrc.cells)
        go_quiet (fail)
        go_upto_region 14 with (fail)
        go_region_held3 (fun w' => w'.cell? ⟨R, 0, none⟩ = some (.string k.s) ∧ w'.cell? ⟨R, 1, none⟩ = some (.int .i64 k.a)) (first | exact ⟨j0, j1⟩ | exact ⟨m0, m1⟩ | go_keep) (first | (go_at_call 24; refine (Col_w k.s hs k.a _ (HT1.out.below (Below.drew (pw_below_drewN hb1 nq)) (Nat.le_refl _))).mono ?_; rintro e w2 ⟨rfl, hb2⟩; have hrj := (HR1.out.below (Below.drew (pw_below_drewN hb1 nq))).below hb2; obtain ⟨j0, j1, j2, j3, j4, j5⟩ := hrj.cells) | (go_at_call 26; refine (Place_w k.s hs (k.line + k.n) _ w2 ((HT1.out.below (Below.drew (pw_below_drewN hb1 nq)) (Nat.le_refl _)).below hb2 (Nat.le_refl _)) CP0.out CP1.out).mono ?_; rintro e w3 ⟨rfl, hb3⟩; have hrm := ((HR1.out.below (Below.drew (pw_below_drewN hb1 nq))).below hb2).below hb3; obtain ⟨m0, m1, m2, m3, m4, m5⟩ := hrm.cells))
        all_goals go_wp2
        all_goals go_ret2
        all_goals exact ⟨by have e := HZ.out; subst e; rfl, HB1.out.trans (((Below.drew (pw_below_drewN hb1 nq)).trans ((hb2.trans (hb3.mono hb2.size)).mono (Below.drew (pw_below_drewN hb1 nq)).size)).mono HB1.out.size)⟩
  · have q1 : (key == 106) = false := beq_eq_false_iff_ne.mpr k1
    by_cases k2 : key = 107
    · subst k2
      have hto := HTO.out
      rw [if_neg (by decide), if_pos rfl] at hto
      have HL := HL.out
      rw [hto] at HL
      clear HTO hto b1min k1
      have hwt : wrap64 (k.line - k.n) = k.line - k.n := wrapZ _ (by omega) (by omega)
      by_cases d1 : k.line - k.n < 0
      · rw [if_pos d1] at HL
        have HZ := Aside0.mk HL
        have b1 : decide (k.line - k.n < 0) = true := decide_eq_true d1
        clear HL d1
        go_enter Tryd.func33, Tryd.ntmps33
        go_upto_region 6 with (go_at_call 55; refine HCN.out.mono ?_; rintro e w1 ⟨rfl, hb1⟩; obtain ⟨d0, d2⟩ := KEEP.out _ hb1; have hrc := HR1.out.below hb1; obtain ⟨i0, i1, i2, i3, i4, i5⟩ := hrc.cells)
        go_quiet (fail)
        go_wp2
        go_ret2
        exact ⟨by have e := HZ.out; subst e; rfl, HB1.out.trans ((pw_below_drewN hb1 nq).mono HB1.out.size)⟩
      · rw [if_neg d1] at HL
        have b1 : decide (k.line - k.n < 0) = false := decide_eq_false d1
        by_cases d2 : k.line - k.n > LL
        · rw [if_pos d2] at HL
          have HZ := Aside0.mk HL
          have b2 : decide (LL < k.line - k.n) = true := decide_eq_true d2
          clear HL d1 d2
          go_enter Tryd.func33, Tryd.ntmps33
          go_upto_region 6 with (go_at_call 55; refine HCN.out.mono ?_; rintro e w1 ⟨rfl, hb1⟩; obtain ⟨d0, d2⟩ := KEEP.out _ hb1; have hrc := HR1.out.below hb1; obtain ⟨i0, i1, i2, i3, i4, i5⟩ := hrc.cells)
          go_quiet (fail)
          go_wp2
          go_ret2
          exact ⟨by have e := HZ.out; subst e; rfl, HB1.out.trans ((pw_below_drewN hb1 nq).mono HB1.out.size)⟩
        · rw [if_neg d2] at HL
          have b2 : decide (LL < k.line - k.n) = false := decide_eq_false d2
          rw [if_pos (by decide)] at HL
          have HZ := Aside0.mk HL
          clear HL d1 d2
          go_enter Tryd.func33, Tryd.ntmps33
          go_upto_region 6 with (go_at_call 55; refine HCN.out.mono ?_; rintro e w1 ⟨rfl, hb1⟩; obtain ⟨d0, d2⟩ := KEEP.out _ hb1; have hrc := HR1.out.below hb1; obtain ⟨i0, i1, i2, i3, i4, i5⟩ := hrc.cells)
          go_quiet (fail)
          go_upto_region 14 with (fail)
          go_region_held3 (fun w' => w'.cell? ⟨R, 0, none⟩ = some (.string k.s) ∧ w'.cell? ⟨R, 1, none⟩ = some (.int .i64 k.a)) (first | exact ⟨j0, j1⟩ | exact ⟨m0, m1⟩ | go_keep) (first | (go_at_call 24; refine (Col_w k.s hs k.a _ (HT1.out.below (Below.drew (pw_below_drewN hb1 nq)) (Nat.le_refl _))).mono ?_; rintro e w2 ⟨rfl, hb2⟩; have hrj := (HR1.out.below (Below.drew (pw_below_drewN hb1 nq))).below hb2; obtain ⟨j0, j1, j2, j3, j4, j5⟩ := hrj.cells) | (go_at_call 26; refine (Place_w k.s hs (k.line - k.n) _ w2 ((HT1.out.below (Below.drew (pw_below_drewN hb1 nq)) (Nat.le_refl _)).below hb2 (Nat.le_refl _)) CP0.out CP1.out).mono ?_; rintro e w3 ⟨rfl, hb3⟩; have hrm := ((HR1.out.below (Below.drew (pw_below_drewN hb1 nq))).below hb2).below hb3; obtain ⟨m0, m1, m2, m3, m4, m5⟩ := hrm.cells))
          all_goals go_wp2
          all_goals go_ret2
          all_goals exact ⟨by have e := HZ.out; subst e; rfl, HB1.out.trans (((Below.drew (pw_below_drewN hb1 nq)).trans ((hb2.trans (hb3.mono hb2.size)).mono (Below.drew (pw_below_drewN hb1 nq)).size)).mono HB1.out.size)⟩
    · have q2 : (key == 107) = false := beq_eq_false_iff_ne.mpr k2
      have KN : Aside0 (¬ (key = 106 ∨ key = 107)) := ⟨by omega⟩
      have hto := HTO.out
      rw [if_neg k1, if_neg k2] at hto
      have HL := HL.out
      rw [hto] at HL
      clear HTO hto b1min k1 k2
      by_cases c : cnt < 1
      · have bc : decide (cnt < 1) = true := decide_eq_true c
        by_cases k3 : key = 103
        · subst k3
          rw [if_pos (c := cnt < 1 ∧ (103 : Int) = 103) ⟨c, rfl⟩] at HL
          clear c
          have l0 : ¬ LL < 0 := by omega
          have b1 : decide (LL < 0) = false := decide_eq_false l0
          rw [if_neg (show ¬ (0 : Int) < 0 by omega), if_neg (show ¬ (0 : Int) > LL by omega), if_neg KN.out] at HL
          have HZ := Aside0.mk HL
          clear HL l0
          go_enter Tryd.func33, Tryd.ntmps33
          go_wp2_with (first | (go_at_call 55; refine HCN.out.mono ?_; rintro e w1 ⟨rfl, hb1⟩; obtain ⟨d0, d2⟩ := KEEP.out _ hb1; have hrc := HR1.out.below hb1; obtain ⟨i0, i1, i2, i3, i4, i5⟩ := hrc.cells) | (go_at_call 28; refine (First_w k.s hs ((0 : Int)) _ (HT1.out.below hb1 (Nat.le_refl _))).mono ?_; rintro e w2 ⟨rfl, hb2⟩))
          go_ret2
          exact ⟨by have e := HZ.out; subst e; rfl, HB1.out.trans ((hb1.trans (hb2.mono hb1.size)).mono HB1.out.size)⟩
        · have q3 : (key == 103) = false := beq_eq_false_iff_ne.mpr k3
          rw [if_neg (c := cnt < 1 ∧ key = 103) (fun h => k3 h.2), if_pos c] at HL
          clear c k3
          have l0 : ¬ LL < 0 := by omega
          have b1 : decide (LL < 0) = false := decide_eq_false l0
          rw [if_neg (show ¬ LL < 0 by omega), if_neg (show ¬ LL > LL by omega), if_neg KN.out] at HL
          have HZ := Aside0.mk HL
          clear HL l0
          go_enter Tryd.func33, Tryd.ntmps33
          go_wp2_with (first | (go_at_call 55; refine HCN.out.mono ?_; rintro e w1 ⟨rfl, hb1⟩; obtain ⟨d0, d2⟩ := KEEP.out _ hb1; have hrc := HR1.out.below hb1; obtain ⟨i0, i1, i2, i3, i4, i5⟩ := hrc.cells) | (go_at_call 28; refine (First_w k.s hs (LL) _ (HT1.out.below hb1 (Nat.le_refl _))).mono ?_; rintro e w2 ⟨rfl, hb2⟩))
          go_ret2
          exact ⟨by have e := HZ.out; subst e; rfl, HB1.out.trans ((hb1.trans (hb2.mono hb1.size)).mono HB1.out.size)⟩
      · have bc : decide (cnt < 1) = false := decide_eq_false c
        rw [if_neg (c := cnt < 1 ∧ key = 103) (fun h => c h.1), if_neg c] at HL
        have hwc : wrap64 (cnt - 1) = cnt - 1 := wrapZ _ (by omega) (by omega)
        clear c
        by_cases d1 : min (cnt - 1) LL < 0
        · rw [if_pos d1] at HL
          have HZ := Aside0.mk HL
          have b1 : decide (min (cnt - 1) LL < 0) = true := decide_eq_true d1
          clear HL d1
          go_enter Tryd.func33, Tryd.ntmps33
          go_wp2_with (first | (go_at_call 55; refine HCN.out.mono ?_; rintro e w1 ⟨rfl, hb1⟩; obtain ⟨d0, d2⟩ := KEEP.out _ hb1; have hrc := HR1.out.below hb1; obtain ⟨i0, i1, i2, i3, i4, i5⟩ := hrc.cells))
          go_ret2
          exact ⟨by have e := HZ.out; subst e; rfl, HB1.out.trans ((hb1).mono HB1.out.size)⟩
        · rw [if_neg d1] at HL
          have b1 : decide (min (cnt - 1) LL < 0) = false := decide_eq_false d1
          by_cases d2 : min (cnt - 1) LL > LL
          · rw [if_pos d2] at HL
            have HZ := Aside0.mk HL
            have b2 : decide (LL < min (cnt - 1) LL) = true := decide_eq_true d2
            clear HL d1 d2
            go_enter Tryd.func33, Tryd.ntmps33
            go_wp2_with (first | (go_at_call 55; refine HCN.out.mono ?_; rintro e w1 ⟨rfl, hb1⟩; obtain ⟨d0, d2⟩ := KEEP.out _ hb1; have hrc := HR1.out.below hb1; obtain ⟨i0, i1, i2, i3, i4, i5⟩ := hrc.cells))
            go_ret2
            exact ⟨by have e := HZ.out; subst e; rfl, HB1.out.trans ((hb1).mono HB1.out.size)⟩
          · rw [if_neg d2] at HL
            have b2 : decide (LL < min (cnt - 1) LL) = false := decide_eq_false d2
            rw [if_neg KN.out] at HL
            have HZ := Aside0.mk HL
            clear HL d1 d2
            go_enter Tryd.func33, Tryd.ntmps33
            go_wp2_with (first | (go_at_call 55; refine HCN.out.mono ?_; rintro e w1 ⟨rfl, hb1⟩; obtain ⟨d0, d2⟩ := KEEP.out _ hb1; have hrc := HR1.out.below hb1; obtain ⟨i0, i1, i2, i3, i4, i5⟩ := hrc.cells) | (go_at_call 28; refine (First_w k.s hs (min (cnt - 1) LL) _ (HT1.out.below (hb1) (Nat.le_refl _))).mono ?_; rintro e w2 ⟨rfl, hb2⟩))
            go_ret2
            exact ⟨by have e := HZ.out; subst e; rfl, HB1.out.trans (((hb1).trans (hb2.mono (hb1).size)).mono HB1.out.size)⟩

end Go.Proofs.YtpajakfmahfpkaaDoor.Ext
