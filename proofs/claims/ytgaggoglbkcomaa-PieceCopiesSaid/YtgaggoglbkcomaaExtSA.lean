/- runs.Slice and strip.Cut, by their walks. -/
import Derived.Test.YtgaggoglbkcomaaExtSB
import Derived.Test.YtgaggoglbkcomaaXRRx2
import Derived.Test.YtgaggoglbkcomaaXRRx3
import Derived.Test.YtgaggoglbkcomaaXRRx4
import Derived.Test.YtgaggoglbkcomaaXRRx0
import Derived.Test.YtgaggoglbkcomaaWMore
import Derived.WalkKit
import Derived.WalkMore
import Derived.Below
import Derived.KernelRfl
import Derived.LoopTactic
import Derived.Deep.RegionWith
import Derived.Deep.RegionHeld3
import Derived.IntWalk
import Derived.Deep.DeepCutAuto
import Derived.Deep.CutBlock
import Derived.BigQuiet
import Derived.Laws.RangeString
import Derived.Laws.RangeAny
import Derived.Laws.Rows
import Derived.Laws.Runes
import Derived.Lib.OthersKept
import Derived.OpenShut
set_option linter.unusedVariables false
set_option linter.unusedSimpArgs false
namespace Go.Proofs.Ytgaggoglbkcomaa.Ext
open Go.RowKit Go.Lib Go.Proofs.YtgaggoglbkcomaaW.PrintWords Go.Proofs.YtgaggoglbkcomaaW.PrintMore Go.Proofs.Ytgaggoglbkcomaa.XRR

set_option maxRecDepth 100000 in
set_option maxHeartbeats 4000000 in
theorem slice1_w (w0 w : World) (A : Option Addr) (c : Nat) (l : List Rn) (f t : Int) (b p1 p2 p3 : Nat) (hr : Kd.C k29 w0 A l.length l) (h1 : Cap w0 p1 (.slice A l.length c) 22) (h2 : Cap w0 p2 (.int .i64 f) 3) (h3 : Cap w0 p3 (.int .i64 t) 3) (h : Gs w0 w w0.heap.size b []) (hl : okL l) (hf : 0 ≤ f ∧ f ≤ 100000) (ht : 0 ≤ t ∧ t ≤ 100000) :
    Calls Try.prog 57 #[addF b, .pointer (some ⟨p1, 0, none⟩), .pointer (some ⟨p2, 0, none⟩), .pointer (some ⟨p3, 0, none⟩)] w fun e w' => e = .returned (.tuple #[]) ∧ Gs w0 w' w0.heap.size b (sli l f t) := by
  have c1 := h1.cell h.hb
  have c2 := h2.cell h.hb
  have c3 := h3.cell h.hb
  have HS := Aside0.mk (some_w w0 w A c l f t b [] 0 0 hr h hl.1 hl.2 Bd.nil (by decide) (by decide) hf ht)
  clear hr h h1 h2 h3 hf ht
  go_enter Try.func57, Try.ntmps57
  go_wp2_with (first | (go_at_call 56; (with_reducible refine HS.out.mono ?_); rintro e w2 ⟨rfl, hg2, -, -⟩; have HG2 := Aside0.mk hg2; clear hg2))
  go_end0
  exact ⟨rfl, HG2.out⟩
set_option maxRecDepth 100000 in
set_option maxHeartbeats 4000000 in
theorem gather_slice (w : World) (p1 p2 p3 : Nat) (res : List Rn) (H : ∀ (w1 : World), Gs w w1 w.heap.size w.heap.size [] → Calls Try.prog 57 #[addF w.heap.size, .pointer (some ⟨p1, 0, none⟩), .pointer (some ⟨p2, 0, none⟩), .pointer (some ⟨p3, 0, none⟩)] w1 fun e w' => e = .returned (.tuple #[]) ∧ Gs w w' w.heap.size w.heap.size res) :
    Calls Try.prog 54 #[.func (.func 57) #[] #[.pointer (some ⟨p1, 0, none⟩), .pointer (some ⟨p2, 0, none⟩), .pointer (some ⟨p3, 0, none⟩)]] w fun e w' => ∃ v : Value, e = .returned v ∧ Kd.R k29 29 w' w.heap.size (fun _ => True) v res ∧ Below w.heap.size w w' := by
  have HL := Aside0.mk (H _ (gs_start w))
  clear H
  go_enter Try.func54, Try.ntmps54
  go_wp2_with (first | (go_at_call 57; (with_reducible refine HL.out.mono ?_); rintro e w2 ⟨rfl, hg2⟩; have hb2 := hg2.hb; obtain ⟨v, hx, hr⟩ := hg2.out; have cc := cell_of_one hx; have HR2 := Aside0.mk hr; have HB2 := Aside0.mk hb2; obtain ⟨Av, cv, ev⟩ := Kd.R_slice hr; subst ev; clear hg2 hx hr hb2))
  go_ret
  exact ⟨_, rfl, HR2.out, HB2.out⟩
/-- Three variables of one cell. -/
abbrev V3 (w : World) (a b c : Value) (ta tb tc : TypeId) : World := ((w.alloc (.cells #[a] ta)).alloc (.cells #[b] tb)).alloc (.cells #[c] tc)
structure F3 (w : World) (p : Nat) (a b c : Value) (ta tb tc : TypeId) : Prop where
  a : w.heap[p]? = some (.cells #[a] ta (0, 0))
  b : w.heap[p + 1]? = some (.cells #[b] tb (0, 0))
  c : w.heap[p + 1 + 1]? = some (.cells #[c] tc (0, 0))
theorem F3.below {w w' : World} {p : Nat} {a b c : Value} {ta tb tc : TypeId} (h : F3 w p a b c ta tb tc) (hb : Below w.heap.size w w') : F3 w' p a b c ta tb tc := ⟨one_below h.a hb, one_below h.b hb, one_below h.c hb⟩
theorem F3.cells {w : World} {p : Nat} {a b c : Value} {ta tb tc : TypeId} (h : F3 w p a b c ta tb tc) : w.cell? ⟨p, 0, none⟩ = some a ∧ w.cell? ⟨p + 1, 0, none⟩ = some b ∧ w.cell? ⟨p + 1 + 1, 0, none⟩ = some c := ⟨cell_of_one h.a, cell_of_one h.b, cell_of_one h.c⟩
theorem V3_facts (w : World) (a b c : Value) (ta tb tc : TypeId) : Below w.heap.size w (V3 w a b c ta tb tc) ∧ F3 (V3 w a b c ta tb tc) w.heap.size a b c ta tb tc := by
  have e1 : (w.alloc (.cells #[a] ta)).heap.size = w.heap.size + 1 := by simp
  have e2 : ((w.alloc (.cells #[a] ta)).alloc (.cells #[b] tb)).heap.size = w.heap.size + 1 + 1 := by simp
  refine ⟨below_alloc (below_alloc (below_alloc (Below.refl _ _) _) _) _, ?_, ?_, ?_⟩
  · rw [Below.heap_alloc _ _ _ (by omega), Below.heap_alloc _ _ _ (by omega)]
    exact heap_alloc_new _ _
  · rw [Below.heap_alloc _ _ _ (by omega)]
    have := heap_alloc_new (w.alloc (.cells #[a] ta)) (.cells #[b] tb)
    rwa [e1] at this
  · have := heap_alloc_new ((w.alloc (.cells #[a] ta)).alloc (.cells #[b] tb)) (.cells #[c] tc)
    rwa [e2] at this
set_option maxRecDepth 100000 in
set_option maxHeartbeats 8000000 in
theorem Slice_w (w : World) (A : Option Addr) (c : Nat) (l : List Rn) (f t : Int) (hr : Kd.C k29 w A l.length l) (hc : l.length ≤ c) (hl : l.length ≤ 8000000000000000000) :
    Calls Try.prog 48 #[.slice A l.length c, .int .i64 f, .int .i64 t] w fun e w' => ∃ v0 : Value, e = .returned (.tuple #[v0, .int .i64 (sliZ l f t).2]) ∧ Kd.R k29 29 w' w.heap.size (fun _ => True) v0 (sliZ l f t).1 ∧ Below w.heap.size w w' := by
  obtain ⟨hb4, hF⟩ := V3_facts w (.slice A l.length c) (.int .i64 f) (.int .i64 t) 22 3 3
  have HF := Aside0.mk hF
  have HB4 := Aside0.mk hb4
  have HWI := Aside0.mk (fun (w1 : World) (hb : Below w.heap.size w w1) => runs_within.calls (l.length + 2 + l.length) A c l f t _ w1 (Kd.C_below hr hb) hc (within_k l hl f t _ (Nat.le_refl _)))
  clear hb4 hF
  cases hwi : withinB l f t
  · have ez : sliZ l f t = ([], 2) := by unfold sliZ; rw [hwi]; rfl
    rw [ez]
    rw [hwi] at HWI
    clear hwi ez hr
    go_enter Try.func48, Try.ntmps48
    go_wp2_with (first | (go_at_call 53; (with_reducible refine (HWI.out _ HB4.out).mono ?_); rintro e w5 ⟨rfl, hb5⟩; have HB5 := Aside0.mk (below_step HB4.out hb5); have HF5 := Aside0.mk (HF.out.below hb5); obtain ⟨q0, q1, q2⟩ := (HF.out.below hb5).cells; clear hb5))
    exact bodyPost_ret (v := .tuple #[.slice none 0 0, .int .i64 2]) (by simp [results, Try.results48, go_sem]) rfl ⟨_, rfl, Kd.R_nil _ _ _ _ _, HB5.out⟩
  · obtain ⟨hgl, hf0, hft, htn⟩ := within_good hwi
    have hnl := good_n hgl
    have HGA := Aside0.mk (fun (w1 : World) (hb : Below w.heap.size w w1) (hF : F3 w1 w.heap.size (.slice A l.length c) (.int .i64 f) (.int .i64 t) 22 3 3) => gather_slice w1 w.heap.size (w.heap.size + 1) (w.heap.size + 1 + 1) (sli l f t) (fun w2 hg => slice1_w w1 w2 A c l f t w1.heap.size _ _ _ (Kd.C_below hr hb) ⟨hF.a⟩ ⟨hF.b⟩ ⟨hF.c⟩ hg (good_okL hgl) (by omega) (by omega)))
    have ez : sliZ l f t = (sli l f t, 0) := by unfold sliZ; rw [hwi]; rfl
    rw [ez]
    rw [hwi] at HWI
    clear hwi ez hr hgl
    go_enter Try.func48, Try.ntmps48
    go_wp2_with (first | (go_at_call 53; (with_reducible refine (HWI.out _ HB4.out).mono ?_); rintro e w5 ⟨rfl, hb5⟩; have HB5 := Aside0.mk (below_step HB4.out hb5); have HF5 := Aside0.mk (HF.out.below hb5); obtain ⟨q0, q1, q2⟩ := (HF.out.below hb5).cells; clear hb5) | (go_at_call 54; (with_reducible refine (HGA.out _ HB5.out HF5.out).mono ?_); rintro e w7 ⟨v7, rfl, hr7, hb7⟩; have HR7 := Aside0.mk (Kd.R_lower hr7 HB5.out.size); have HB7 := Aside0.mk (below_step HB5.out hb7); obtain ⟨A7, c7, e7⟩ := Kd.R_slice hr7; subst e7; clear hr7 hb7))
    exact bodyPost_ret (v := .tuple #[.slice A7 (sli l f t).length c7, .int .i64 0]) (by simp [results, Try.results48, go_sem]) rfl ⟨_, rfl, HR7.out, HB7.out⟩

end Go.Proofs.Ytgaggoglbkcomaa.Ext
