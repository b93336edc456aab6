/- strip.Cut, by its walk. -/
import Derived.Test.YtgaggoglbkcomaaExtSA
import Derived.Test.YtgaggoglbkcomaaXRRx2
import Derived.Test.YtgaggoglbkcomaaXRRx3
import Derived.Test.YtgaggoglbkcomaaXRRx4
import Derived.Test.YtgaggoglbkcomaaXRRx0
import Derived.Test.YtgaggoglbkcomaaWMore
import Derived.WalkKit
import Derived.WalkMore
import Derived.Below
import Derived.KernelRfl
import Derived.LoopTactic
import Derived.Deep.RegionWith
import Derived.Deep.RegionHeld3
import Derived.IntWalk
import Derived.Deep.DeepCutAuto
import Derived.Deep.CutBlock
import Derived.BigQuiet
import Derived.Laws.RangeString
import Derived.Laws.RangeAny
import Derived.Laws.Rows
import Derived.Laws.Runes
import Derived.Lib.OthersKept
import Derived.OpenShut
set_option linter.unusedVariables false
set_option linter.unusedSimpArgs false
namespace Go.Proofs.Ytgaggoglbkcomaa.Ext
open Go.RowKit Go.Lib Go.Proofs.YtgaggoglbkcomaaW.PrintWords Go.Proofs.YtgaggoglbkcomaaW.PrintMore Go.Proofs.Ytgaggoglbkcomaa.XRR

theorem cutZ (s : ByteArray) (l : List Rn) (f t : Int) (h : withinT s l f t = true) : sliZ l f t = (sli l f t, 0) := by
  obtain ⟨hg, h0, h1, h2⟩ := withinT_good h
  obtain ⟨hgl, hnl⟩ := goodT_good hg
  unfold sliZ withinB
  rw [hgl, decide_eq_true h0, decide_eq_true h1, decide_eq_true (by omega : t ≤ (nB l : Int))]
  rfl
set_option maxRecDepth 100000 in
set_option maxHeartbeats 8000000 in
theorem Cut_w (w : World) (s : ByteArray) (A : Option Addr) (c : Nat) (l : List Rn) (f t : Int) (hr : Kd.C k29 w A l.length l) (hc : l.length ≤ c) (hl : l.length ≤ 8000000000000000000) :
    Calls Try.prog 28 #[vT s (.slice A l.length c), .int .i64 f, .int .i64 t] w fun e w' => ∃ v0 : Value, e = .returned (.tuple #[vT (cutT s l f t).1 v0, .int .i64 (cutT s l f t).2.2]) ∧ Kd.R k29 29 w' w.heap.size (fun _ => True) v0 (cutT s l f t).2.1 ∧ Below w.heap.size w w' := by
  obtain ⟨hb2, xa, xc⟩ := W2_facts w s e0 (.slice A l.length c) (.slice none 0 0)
  have HX2 := Aside0.mk (⟨xa, xc⟩ : _ ∧ _)
  obtain ⟨a0, a1, -, -⟩ := xa.cells
  obtain ⟨c0, c1, f0, f1⟩ := xc.cells
  have HB2 := Aside0.mk hb2
  have HWI := Aside0.mk (fun (w1 : World) (hb : Below w.heap.size w w1) => strip_within.calls (l.length + 2 + l.length) s A c l f t _ w1 (Kd.C_below hr hb) hc (withinT_k s l hl f t _ (Nat.le_refl _)))
  have HSL := Aside0.mk (fun (w1 : World) (hb : Below w.heap.size w w1) => Slice_w w1 A c l f t (Kd.C_below hr hb) hc hl)
  clear hb2 xa xc hr
  cases hwi : withinT s l f t
  · have ez : cutT s l f t = (⟨#[]⟩, [], 2) := by unfold cutT; rw [hwi]; rfl
    rw [ez]
    rw [hwi] at HWI
    clear hwi ez
    go_enter Try.func28, Try.ntmps28
    go_wp2_with (first | (go_at_call 46; (with_reducible refine (HWI.out _ HB2.out).mono ?_); rintro e w5 ⟨rfl, hb5⟩; have HB5 := Aside0.mk (below_step HB2.out hb5); have HX5 := Aside0.mk (⟨HX2.out.1.below hb5, HX2.out.2.below hb5⟩ : _ ∧ _); clear a0 a1 c0 c1 f0 f1; obtain ⟨a0, a1, -, -⟩ := HX5.out.1.cells; obtain ⟨c0, c1, f0, f1⟩ := HX5.out.2.cells; have la5 := HX5.out.1.lt; have lc5 := HX5.out.2.lt; clear hb5))
    exact bodyPost_ret (v := .tuple #[vT e0 (.slice none 0 0), .int .i64 2]) (by simp [results, Try.results28, go_sem, c0, c1, lc5]) rfl ⟨_, rfl, Kd.R_nil _ _ _ _ _, two_set HB5.out (by omega)⟩
  · have ez : cutT s l f t = (s.extract f.toNat t.toNat, sli l f t, 0) := by unfold cutT; rw [hwi]; rfl
    have ea := cutZ s l f t hwi
    obtain ⟨-, hf0, hft, hts⟩ := withinT_good hwi
    rw [ez]
    rw [ea] at HSL
    rw [hwi] at HWI
    have hfs : f ≤ (s.size : Int) := by omega
    have ht0 : 0 ≤ t := by omega
    clear hwi ez ea
    go_enter Try.func28, Try.ntmps28
    go_wp2_with (first | (go_at_call 46; (with_reducible refine (HWI.out _ HB2.out).mono ?_); rintro e w5 ⟨rfl, hb5⟩; have HB5 := Aside0.mk (below_step HB2.out hb5); have HX5 := Aside0.mk (⟨HX2.out.1.below hb5, HX2.out.2.below hb5⟩ : _ ∧ _); clear a0 a1 c0 c1 f0 f1; obtain ⟨a0, a1, -, -⟩ := HX5.out.1.cells; obtain ⟨c0, c1, f0, f1⟩ := HX5.out.2.cells; have la5 := HX5.out.1.lt; have lc5 := HX5.out.2.lt; clear hb5) | (go_at_call 48; (with_reducible refine (HSL.out _ HB5.out).mono ?_); rintro e w7 ⟨v7, rfl, hr7, hb7⟩; obtain ⟨A7, c7, e7⟩ := Kd.R_slice hr7; subst e7; have HR7 := Aside0.mk (Kd.R_lower hr7 HB5.out.size); have HB7 := Aside0.mk (below_step HB5.out hb7); have HX7 := Aside0.mk (⟨HX5.out.1.below hb7, HX5.out.2.below hb7⟩ : _ ∧ _); clear a0 a1 c0 c1 f0 f1; obtain ⟨a0, a1, -, -⟩ := HX7.out.1.cells; obtain ⟨c0, c1, f0, f1⟩ := HX7.out.2.cells; have la7 := HX7.out.1.lt; have lc7 := HX7.out.2.lt; clear hb7 hr7))
    exact bodyPost_ret (v := .tuple #[vT (s.extract f.toNat t.toNat) (.slice A7 (sli l f t).length c7), .int .i64 0]) (by simp [results, Try.results28, go_sem, c0, c1, lc7]) rfl ⟨_, rfl, R_two HR7.out HX7.out.2 _ _, two_set HB7.out (by omega)⟩

end Go.Proofs.Ytgaggoglbkcomaa.Ext
