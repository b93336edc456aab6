/- runs: Splice and Raise, by their walks. -/
import Derived.Test.YtgaggoglbkcomaaExtRF
import Derived.Test.YtgaggoglbkcomaaXRRx2
import Derived.Test.YtgaggoglbkcomaaXRRx3
import Derived.Test.YtgaggoglbkcomaaXRRx4
import Derived.Test.YtgaggoglbkcomaaXRRx0
import Derived.Test.YtgaggoglbkcomaaWMore
import Derived.WalkKit
import Derived.WalkMore
import Derived.Below
import Derived.KernelRfl
import Derived.LoopTactic
import Derived.Deep.RegionWith
import Derived.Deep.RegionHeld3
import Derived.IntWalk
import Derived.Deep.DeepCutAuto
import Derived.Deep.CutBlock
import Derived.BigQuiet
import Derived.Laws.RangeString
import Derived.Laws.RangeAny
import Derived.Laws.Rows
import Derived.Laws.Runes
import Derived.Lib.OthersKept
import Derived.OpenShut
set_option linter.unusedVariables false
set_option linter.unusedSimpArgs false
namespace Go.Proofs.Ytgaggoglbkcomaa.Ext
open Go.RowKit Go.Lib Go.Proofs.YtgaggoglbkcomaaW.PrintWords Go.Proofs.YtgaggoglbkcomaaW.PrintMore Go.Proofs.Ytgaggoglbkcomaa.XRR

abbrev W4 (w : World) (a b c d : Value) (ta tb tc td : TypeId) : World := (((w.alloc (.cells #[a] ta)).alloc (.cells #[b] tb)).alloc (.cells #[c] tc)).alloc (.cells #[d] td)
theorem W4_facts (w : World) (a b c d : Value) (ta tb tc td : TypeId) : Below w.heap.size w (W4 w a b c d ta tb tc td) ∧ (W4 w a b c d ta tb tc td).heap[w.heap.size]? = some (.cells #[a] ta (0, 0)) ∧ (W4 w a b c d ta tb tc td).heap[w.heap.size + 1]? = some (.cells #[b] tb (0, 0)) ∧ (W4 w a b c d ta tb tc td).heap[w.heap.size + 1 + 1]? = some (.cells #[c] tc (0, 0)) ∧ (W4 w a b c d ta tb tc td).heap[w.heap.size + 1 + 1 + 1]? = some (.cells #[d] td (0, 0)) := by
  have e1 : (w.alloc (.cells #[a] ta)).heap.size = w.heap.size + 1 := by simp
  have e2 : ((w.alloc (.cells #[a] ta)).alloc (.cells #[b] tb)).heap.size = w.heap.size + 1 + 1 := by simp
  have e3 : (((w.alloc (.cells #[a] ta)).alloc (.cells #[b] tb)).alloc (.cells #[c] tc)).heap.size = w.heap.size + 1 + 1 + 1 := by simp
  refine ⟨below_alloc (below_alloc (below_alloc (below_alloc (Below.refl _ _) _) _) _) _, ?_, ?_, ?_, ?_⟩
  · rw [Below.heap_alloc _ _ _ (by omega), Below.heap_alloc _ _ _ (by omega), Below.heap_alloc _ _ _ (by omega)]
    exact heap_alloc_new _ _
  · rw [Below.heap_alloc _ _ _ (by omega), Below.heap_alloc _ _ _ (by omega)]
    have := heap_alloc_new (w.alloc (.cells #[a] ta)) (.cells #[b] tb)
    rwa [e1] at this
  · rw [Below.heap_alloc _ _ _ (by omega)]
    have := heap_alloc_new ((w.alloc (.cells #[a] ta)).alloc (.cells #[b] tb)) (.cells #[c] tc)
    rwa [e2] at this
  · have := heap_alloc_new (((w.alloc (.cells #[a] ta)).alloc (.cells #[b] tb)).alloc (.cells #[c] tc)) (.cells #[d] td)
    rwa [e3] at this
theorem one_below {w w' : World} {b : Nat} {v : Value} {t : TypeId} (h : w.heap[b]? = some (.cells #[v] t (0, 0))) (hb : Below w.heap.size w w') : w'.heap[b]? = some (.cells #[v] t (0, 0)) := (hb.block b (Array.getElem?_eq_some_iff.1 h).1).trans h
/-- Four variables of one cell. -/
structure F4 (w : World) (p : Nat) (a b c d : Value) (ta tb tc td : TypeId) : Prop where
  a : w.heap[p]? = some (.cells #[a] ta (0, 0))
  b : w.heap[p + 1]? = some (.cells #[b] tb (0, 0))
  c : w.heap[p + 1 + 1]? = some (.cells #[c] tc (0, 0))
  d : w.heap[p + 1 + 1 + 1]? = some (.cells #[d] td (0, 0))
theorem F4.below {w w' : World} {p : Nat} {a b c d : Value} {ta tb tc td : TypeId} (h : F4 w p a b c d ta tb tc td) (hb : Below w.heap.size w w') : F4 w' p a b c d ta tb tc td := ⟨one_below h.a hb, one_below h.b hb, one_below h.c hb, one_below h.d hb⟩
theorem F4.cells {w : World} {p : Nat} {a b c d : Value} {ta tb tc td : TypeId} (h : F4 w p a b c d ta tb tc td) : w.cell? ⟨p, 0, none⟩ = some a ∧ w.cell? ⟨p + 1, 0, none⟩ = some b ∧ w.cell? ⟨p + 1 + 1, 0, none⟩ = some c ∧ w.cell? ⟨p + 1 + 1 + 1, 0, none⟩ = some d := ⟨cell_of_one h.a, cell_of_one h.b, cell_of_one h.c, cell_of_one h.d⟩
def splZ (l : List Rn) (f t : Int) (m : List Rn) : List Rn × Int :=
  if (withinB l f t && goodB m) = true then (if (nB l : Int) - (t - f) + nB m > 4096 then ([], 3) else (spl l f t m, 0)) else ([], 2)
def raiZ (l : List Rn) (f t by_ : Int) : List Rn × Int := if withinB l f t = true then (rai l f t by_, 0) else ([], 2)
theorem within_good {l : List Rn} {f t : Int} (h : withinB l f t = true) : goodB l = true ∧ 0 ≤ f ∧ f ≤ t ∧ t ≤ nB l := by
  unfold withinB at h
  rw [Bool.and_eq_true, Bool.and_eq_true, Bool.and_eq_true, decide_eq_true_eq, decide_eq_true_eq, decide_eq_true_eq] at h
  exact ⟨h.1.1.1, h.1.1.2, h.1.2, h.2⟩
set_option maxRecDepth 100000 in
set_option maxHeartbeats 8000000 in
theorem Splice_w (w : World) (A A2 : Option Addr) (c c2 : Nat) (l m : List Rn) (f t : Int) (hr : Kd.C k29 w A l.length l) (hc : l.length ≤ c) (hr2 : Kd.C k29 w A2 m.length m) (hc2 : m.length ≤ c2) (hl : l.length ≤ 8000000000000000000) (hm : m.length ≤ 8000000000000000000) :
    Calls Try.prog 47 #[.slice A l.length c, .int .i64 f, .int .i64 t, .slice A2 m.length c2] w fun e w' => ∃ v0 : Value, e = .returned (.tuple #[v0, .int .i64 (splZ l f t m).2]) ∧ Kd.R k29 29 w' w.heap.size (fun _ => True) v0 (splZ l f t m).1 ∧ Below w.heap.size w w' := by
  obtain ⟨hb4, x0, x1, x2, x3⟩ := W4_facts w (.slice A l.length c) (.int .i64 f) (.int .i64 t) (.slice A2 m.length c2) 22 3 3 22
  have HF := Aside0.mk (⟨x0, x1, x2, x3⟩ : F4 (W4 w (.slice A l.length c) (.int .i64 f) (.int .i64 t) (.slice A2 m.length c2) 22 3 3 22) w.heap.size (.slice A l.length c) (.int .i64 f) (.int .i64 t) (.slice A2 m.length c2) 22 3 3 22)
  have HB4 := Aside0.mk hb4
  have HWI := Aside0.mk (fun (w1 : World) (hb : Below w.heap.size w w1) => runs_within.calls (l.length + 2 + l.length) A c l f t _ w1 (Kd.C_below hr hb) hc (within_k l hl f t _ (Nat.le_refl _)))
  have HGO := Aside0.mk (fun (w1 : World) (hb : Below w.heap.size w w1) => runs_Good.calls (m.length + 2 + m.length) A2 c2 m _ w1 (Kd.C_below hr2 hb) hc2 (Good_k m hm _ (Nat.le_refl _)))
  clear hb4 x0 x1 x2 x3
  cases hwi : withinB l f t
  · have ez : splZ l f t m = ([], 2) := by unfold splZ; rw [hwi]; rfl
    rw [ez]
    rw [hwi] at HWI
    clear hwi ez hr hr2
    go_enter Try.func47, Try.ntmps47
    go_wp2_with (first | (go_at_call 53; (with_reducible refine (HWI.out _ HB4.out).mono ?_); rintro e w5 ⟨rfl, hb5⟩; have HB5 := Aside0.mk (below_step HB4.out hb5); have HF5 := Aside0.mk (HF.out.below hb5); obtain ⟨q0, q1, q2, q3⟩ := (HF.out.below hb5).cells; clear hb5))
    exact bodyPost_ret (v := .tuple #[.slice none 0 0, .int .i64 2]) (by simp [results, Try.results47, go_sem]) rfl ⟨_, rfl, Kd.R_nil _ _ _ _ _, HB5.out⟩
  · obtain ⟨hgl, hf0, hft, htn⟩ := within_good hwi
    have hnl := good_n hgl
    rw [hwi] at HWI
    cases hgm : goodB m
    · have ez : splZ l f t m = ([], 2) := by unfold splZ; rw [hgm, Bool.and_false]; rfl
      rw [ez]
      rw [hgm] at HGO
      clear hwi hgm ez hr hr2 hgl hf0 hft htn hnl
      go_enter Try.func47, Try.ntmps47
      go_wp2_with (first | (go_at_call 53; (with_reducible refine (HWI.out _ HB4.out).mono ?_); rintro e w5 ⟨rfl, hb5⟩; have HB5 := Aside0.mk (below_step HB4.out hb5); have HF5 := Aside0.mk (HF.out.below hb5); obtain ⟨q0, q1, q2, q3⟩ := (HF.out.below hb5).cells; clear hb5) | (go_at_call 50; (with_reducible refine (HGO.out _ HB5.out).mono ?_); rintro e w6 ⟨rfl, hb6⟩; have HB6 := Aside0.mk (below_step HB5.out hb6); have HF6 := Aside0.mk (HF5.out.below hb6); obtain ⟨r0, r1, r2, r3⟩ := (HF5.out.below hb6).cells; clear hb6))
      exact bodyPost_ret (v := .tuple #[.slice none 0 0, .int .i64 2]) (by simp [results, Try.results47, go_sem]) rfl ⟨_, rfl, Kd.R_nil _ _ _ _ _, HB6.out⟩
    · have hnm := good_n hgm
      have hs1 : IntKind.i64.wrap (t - f) = t - f := by rw [show IntKind.i64.wrap (t - f) = wrap64 (t - f) from by unfold wrap64; exact IntKind.wrap_i64 _, IntWalk.wrap64_in _ ⟨by omega, by omega⟩]
      have hs2 : IntKind.i64.wrap ((nB l : Int) - (t - f)) = (nB l : Int) - (t - f) := by rw [show IntKind.i64.wrap ((nB l : Int) - (t - f)) = wrap64 ((nB l : Int) - (t - f)) from by unfold wrap64; exact IntKind.wrap_i64 _, IntWalk.wrap64_in _ ⟨by omega, by omega⟩]
      have hs3 : IntKind.i64.wrap ((nB l : Int) - (t - f) + nB m) = (nB l : Int) - (t - f) + nB m := by rw [show IntKind.i64.wrap ((nB l : Int) - (t - f) + nB m) = wrap64 ((nB l : Int) - (t - f) + nB m) from by unfold wrap64; exact IntKind.wrap_i64 _, IntWalk.wrap64_in _ ⟨by omega, by omega⟩]
      have HTL := Aside0.mk (fun (w1 : World) (hb : Below w.heap.size w w1) => runs_Total.calls (l.length + 1) A c l (nB l) w1 (Kd.C_below hr hb) hc (by rw [Total_k l (by omega) _ (Nat.le_refl _), good_tot hgl]))
      have HTM := Aside0.mk (fun (w1 : World) (hb : Below w.heap.size w w1) => runs_Total.calls (m.length + 1) A2 c2 m (nB m) w1 (Kd.C_below hr2 hb) hc2 (by rw [Total_k m (by omega) _ (Nat.le_refl _), good_tot hgm]))
      have HGA := Aside0.mk (fun (w1 : World) (hb : Below w.heap.size w w1) (hF : F4 w1 w.heap.size (.slice A l.length c) (.int .i64 f) (.int .i64 t) (.slice A2 m.length c2) 22 3 3 22) => gather_splice w1 w.heap.size (w.heap.size + 1) (w.heap.size + 1 + 1 + 1) (w.heap.size + 1 + 1) (spl l f t m) (fun w2 hg => splice1_w w1 w2 A A2 c c2 l m f t w1.heap.size _ _ _ _ (Kd.C_below hr hb) (Kd.C_below hr2 hb) ⟨hF.a⟩ ⟨hF.b⟩ ⟨hF.d⟩ ⟨hF.c⟩ hg (good_okL hgl) (good_okL hgm) (by omega) (by omega)))
      rw [hgm] at HGO
      have ez : splZ l f t m = if (nB l : Int) - (t - f) + nB m > 4096 then ([], 3) else (spl l f t m, 0) := by unfold splZ; rw [hwi, hgm]; rfl
      rw [ez]
      clear hwi hgm ez hr hr2 hgl
      by_cases hbig : (nB l : Int) - (t - f) + nB m > 4096
      · rw [if_pos hbig]
        have cbb : decide (4096 < (nB l : Int) - (t - f) + nB m) = true := decide_eq_true hbig
        clear hbig
        go_enter Try.func47, Try.ntmps47
        go_upto_region 3 with (first | (go_at_call 53; (with_reducible refine (HWI.out _ HB4.out).mono ?_); rintro e w5 ⟨rfl, hb5⟩; have HB5 := Aside0.mk (below_step HB4.out hb5); have HF5 := Aside0.mk (HF.out.below hb5); obtain ⟨q0, q1, q2, q3⟩ := (HF.out.below hb5).cells; clear hb5) | (go_at_call 50; (with_reducible refine (HGO.out _ HB5.out).mono ?_); rintro e w6 ⟨rfl, hb6⟩; have HB6 := Aside0.mk (below_step HB5.out hb6); have HF6 := Aside0.mk (HF5.out.below hb6); obtain ⟨r0, r1, r2, r3⟩ := (HF5.out.below hb6).cells; clear hb6))
        go_cut [29] from 20 to 29 (fun bb wc => ∃ (wc1 : World), wc1 = wc ∧ bb = .bool (decide (4096 < (nB l : Int) - (t - f) + nB m)) ∧ Aside0 (Below w.heap.size w wc1) ∧ Aside0 (F4 wc1 w.heap.size (.slice A l.length c) (.int .i64 f) (.int .i64 t) (.slice A2 m.length c2) 22 3 3 22))
        case first =>
          have HBX := Aside0.mk (below_step HB6.out (below_drew (Below.refl _ _)))
          have HFX := Aside0.mk (HF6.out.below (below_drew (Below.refl _ _)))
          go_region_held3 (fun w' => w'.cell? ⟨w.heap.size, 0, none⟩ = some (.slice A l.length c) ∧ w'.cell? ⟨w.heap.size + 1, 0, none⟩ = some (.int .i64 f) ∧ w'.cell? ⟨w.heap.size + 1 + 1, 0, none⟩ = some (.int .i64 t) ∧ w'.cell? ⟨w.heap.size + 1 + 1 + 1, 0, none⟩ = some (.slice A2 m.length c2)) (first | exact HFX.out.cells | go_keep) (first | (go_at_call 51; (with_reducible refine (HTL.out _ HBX.out).mono ?_); rintro e wx ⟨rfl, hbx⟩; have HFX := Aside0.mk (HFX.out.below hbx); have HBX := Aside0.mk (below_step HBX.out hbx); clear hbx) | (go_at_call 51; (with_reducible refine (HTM.out _ HBX.out).mono ?_); rintro e wx ⟨rfl, hbx⟩; have HFX := Aside0.mk (HFX.out.below hbx); have HBX := Aside0.mk (below_step HBX.out hbx); clear hbx))
          all_goals (go_wp2; go_meet; exact ⟨_, rfl, (by rw [cbb]), HBX, HFX⟩)
        case rest =>
          obtain ⟨wc, rfl, rfl, HBC, HFC⟩ := hcut
          rw [cbb]
          go_wp2
          exact bodyPost_ret (v := .tuple #[.slice none 0 0, .int .i64 3]) (by simp [results, Try.results47, go_sem]) rfl ⟨_, rfl, Kd.R_nil _ _ _ _ _, HBC.out⟩
      · rw [if_neg hbig]
        have cbb : decide (4096 < (nB l : Int) - (t - f) + nB m) = false := decide_eq_false hbig
        clear hbig
        go_enter Try.func47, Try.ntmps47
        go_upto_region 3 with (first | (go_at_call 53; (with_reducible refine (HWI.out _ HB4.out).mono ?_); rintro e w5 ⟨rfl, hb5⟩; have HB5 := Aside0.mk (below_step HB4.out hb5); have HF5 := Aside0.mk (HF.out.below hb5); obtain ⟨q0, q1, q2, q3⟩ := (HF.out.below hb5).cells; clear hb5) | (go_at_call 50; (with_reducible refine (HGO.out _ HB5.out).mono ?_); rintro e w6 ⟨rfl, hb6⟩; have HB6 := Aside0.mk (below_step HB5.out hb6); have HF6 := Aside0.mk (HF5.out.below hb6); obtain ⟨r0, r1, r2, r3⟩ := (HF5.out.below hb6).cells; clear hb6))
        go_cut [29] from 20 to 29 (fun bb wc => ∃ (wc1 : World), wc1 = wc ∧ bb = .bool (decide (4096 < (nB l : Int) - (t - f) + nB m)) ∧ Aside0 (Below w.heap.size w wc1) ∧ Aside0 (F4 wc1 w.heap.size (.slice A l.length c) (.int .i64 f) (.int .i64 t) (.slice A2 m.length c2) 22 3 3 22))
        case first =>
          have HBX := Aside0.mk (below_step HB6.out (below_drew (Below.refl _ _)))
          have HFX := Aside0.mk (HF6.out.below (below_drew (Below.refl _ _)))
          go_region_held3 (fun w' => w'.cell? ⟨w.heap.size, 0, none⟩ = some (.slice A l.length c) ∧ w'.cell? ⟨w.heap.size + 1, 0, none⟩ = some (.int .i64 f) ∧ w'.cell? ⟨w.heap.size + 1 + 1, 0, none⟩ = some (.int .i64 t) ∧ w'.cell? ⟨w.heap.size + 1 + 1 + 1, 0, none⟩ = some (.slice A2 m.length c2)) (first | exact HFX.out.cells | go_keep) (first | (go_at_call 51; (with_reducible refine (HTL.out _ HBX.out).mono ?_); rintro e wx ⟨rfl, hbx⟩; have HFX := Aside0.mk (HFX.out.below hbx); have HBX := Aside0.mk (below_step HBX.out hbx); clear hbx) | (go_at_call 51; (with_reducible refine (HTM.out _ HBX.out).mono ?_); rintro e wx ⟨rfl, hbx⟩; have HFX := Aside0.mk (HFX.out.below hbx); have HBX := Aside0.mk (below_step HBX.out hbx); clear hbx))
          all_goals (go_wp2; go_meet; exact ⟨_, rfl, (by rw [cbb]), HBX, HFX⟩)
        case rest =>
          obtain ⟨wc, rfl, rfl, HBC, HFC⟩ := hcut
          rw [cbb]
          go_wp2_with (first | (go_at_call 54; (with_reducible refine (HGA.out _ HBC.out HFC.out).mono ?_); rintro e w7 ⟨v7, rfl, hr7, hb7⟩; have HR7 := Aside0.mk (Kd.R_lower hr7 HBC.out.size); have HB7 := Aside0.mk (below_step HBC.out hb7); obtain ⟨A7, c7, e7⟩ := Kd.R_slice hr7; subst e7; clear hr7 hb7))
          exact bodyPost_ret (v := .tuple #[.slice A7 (spl l f t m).length c7, .int .i64 0]) (by simp [results, Try.results47, go_sem]) rfl ⟨_, rfl, HR7.out, HB7.out⟩

end Go.Proofs.Ytgaggoglbkcomaa.Ext
