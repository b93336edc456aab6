/- runs: gather with the closures of Normal and Splice, by their walks. -/
import Derived.Test.YtgaggoglbkcomaaExtRC
import Derived.Test.YtgaggoglbkcomaaXRRx0
import Derived.Test.YtgaggoglbkcomaaWMore
import Derived.WalkKit
import Derived.WalkMore
import Derived.Below
import Derived.KernelRfl
import Derived.LoopTactic
import Derived.Deep.RegionWith
import Derived.Deep.RegionHeld3
import Derived.IntWalk
import Derived.Deep.DeepCutAuto
import Derived.Deep.CutBlock
import Derived.BigQuiet
import Derived.Laws.RangeString
import Derived.Laws.RangeAny
import Derived.Laws.Rows
import Derived.Laws.Runes
import Derived.Lib.OthersKept
import Derived.OpenShut
set_option linter.unusedVariables false
set_option linter.unusedSimpArgs false
namespace Go.Proofs.Ytgaggoglbkcomaa.Ext
open Go.RowKit Go.Lib Go.Proofs.YtgaggoglbkcomaaW.PrintWords Go.Proofs.YtgaggoglbkcomaaW.PrintMore Go.Proofs.Ytgaggoglbkcomaa.XRR

theorem Bd.nil : Bd 0 0 [] := ⟨Nat.le_refl _, fun x h => (List.not_mem_nil h).elim⟩
/-- A captured variable of one cell, and a list that it has. -/
structure Cap (w0 : World) (b : Nat) (v : Value) (t : TypeId) : Prop where
  x : w0.heap[b]? = some (.cells #[v] t (0, 0))
theorem Cap.cell {w0 w : World} {b : Nat} {v : Value} {t : TypeId} (h : Cap w0 b v t) (hb : Below w0.heap.size w0 w) : w.cell? ⟨b, 0, none⟩ = some v := by
  have := (hb.block b (Array.getElem?_eq_some_iff.1 h.x).1).trans h.x
  exact cell_of_one this
def okL (l : List Rn) : Prop := (∀ r, r ∈ l → 0 ≤ r.f1 ∧ r.f1 ≤ 5000) ∧ l.length ≤ 5000
def spl (l : List Rn) (f t : Int) (m : List Rn) : List Rn := someR t 4096 0 l (someR 0 4096 0 m (someR 0 f 0 l []))
set_option maxRecDepth 100000 in
set_option maxHeartbeats 4000000 in
theorem splice1_w (w0 w : World) (A A2 : Option Addr) (c c2 : Nat) (l m : List Rn) (f t : Int) (b p1 p2 p3 p4 : Nat) (hr : Kd.C k29 w0 A l.length l) (hr2 : Kd.C k29 w0 A2 m.length m) (h1 : Cap w0 p1 (.slice A l.length c) 22) (h2 : Cap w0 p2 (.int .i64 f) 3) (h3 : Cap w0 p3 (.slice A2 m.length c2) 22) (h4 : Cap w0 p4 (.int .i64 t) 3) (h : Gs w0 w w0.heap.size b []) (hl : okL l) (hm : okL m) (hf : 0 ≤ f ∧ f ≤ 100000) (ht : 0 ≤ t ∧ t ≤ 100000) :
    Calls Try.prog 55 #[addF b, .pointer (some ⟨p1, 0, none⟩), .pointer (some ⟨p2, 0, none⟩), .pointer (some ⟨p3, 0, none⟩), .pointer (some ⟨p4, 0, none⟩)] w fun e w' => e = .returned (.tuple #[]) ∧ Gs w0 w' w0.heap.size b (spl l f t m) := by
  have hll := hl.2
  have hml := hm.2
  have k1 := h1.cell h.hb
  have k2 := h2.cell h.hb
  have HC := Aside0.mk (fun (w1 : World) (hb : Below w0.heap.size w0 w1) => (⟨h1.cell hb, h3.cell hb, h4.cell hb⟩ : _ ∧ _ ∧ _))
  have HS1 := Aside0.mk (some_w w0 w A c l 0 f b [] 0 0 hr h hl.1 hl.2 Bd.nil (by decide) (by decide) (by decide) hf)
  have HS2 := Aside0.mk (fun (w1 : World) (hg : Gs w0 w1 w0.heap.size b (someR 0 f 0 l [])) (hb : Bd (0 + 5000 * l.length) (0 + l.length) (someR 0 f 0 l [])) => some_w w0 w1 A2 c2 m 0 4096 b _ _ _ hr2 hg hm.1 hm.2 hb (by omega) (by omega) (by decide) (by decide))
  have HS3 := Aside0.mk (fun (w1 : World) (xs : List Rn) (hg : Gs w0 w1 w0.heap.size b xs) (hb : Bd (0 + 5000 * l.length + 5000 * m.length) (0 + l.length + m.length) xs) => some_w w0 w1 A c l t 4096 b _ _ _ hr hg hl.1 hl.2 hb (by omega) (by omega) ht (by decide))
  clear hr hr2 h h1 h2 h3 h4
  go_enter Try.func55, Try.ntmps55
  go_wp2_with (first
    | (go_at_call 56; (with_reducible refine HS1.out.mono ?_); rintro e w2 ⟨rfl, hg2, hb2, -⟩; have HG2 := Aside0.mk hg2; have HB2 := Aside0.mk hb2; obtain ⟨d1, d3, d4⟩ := HC.out _ hg2.hb; clear hg2 hb2)
    | (go_at_call 56; (with_reducible refine (HS2.out _ HG2.out HB2.out).mono ?_); rintro e w3 ⟨rfl, hg3, hb3, -⟩; have HG3 := Aside0.mk hg3; have HB3 := Aside0.mk hb3; obtain ⟨e1, e3, e4⟩ := HC.out _ hg3.hb; clear hg3 hb3)
    | (go_at_call 56; (with_reducible refine (HS3.out _ _ HG3.out HB3.out).mono ?_); rintro e w4 ⟨rfl, hg4, -, -⟩; have HG4 := Aside0.mk hg4; clear hg4))
  go_end0
  exact ⟨rfl, HG4.out⟩
theorem gs_start (w : World) : Gs w (w.alloc (.cells #[.slice none 0 0] 22)) w.heap.size w.heap.size [] :=
  ⟨Nat.le_refl _, by simp, below_alloc (Below.refl _ _) _, _, heap_alloc_new _ _, Kd.R_nil _ _ _ _ _⟩
set_option maxRecDepth 100000 in
set_option maxHeartbeats 4000000 in
theorem gather_splice (w : World) (p1 p2 p3 p4 : Nat) (res : List Rn) (H : ∀ (w1 : World), Gs w w1 w.heap.size w.heap.size [] → Calls Try.prog 55 #[addF w.heap.size, .pointer (some ⟨p1, 0, none⟩), .pointer (some ⟨p2, 0, none⟩), .pointer (some ⟨p3, 0, none⟩), .pointer (some ⟨p4, 0, none⟩)] w1 fun e w' => e = .returned (.tuple #[]) ∧ Gs w w' w.heap.size w.heap.size res) :
    Calls Try.prog 54 #[.func (.func 55) #[] #[.pointer (some ⟨p1, 0, none⟩), .pointer (some ⟨p2, 0, none⟩), .pointer (some ⟨p3, 0, none⟩), .pointer (some ⟨p4, 0, none⟩)]] w fun e w' => ∃ v : Value, e = .returned v ∧ Kd.R k29 29 w' w.heap.size (fun _ => True) v res ∧ Below w.heap.size w w' := by
  have HL := Aside0.mk (H _ (gs_start w))
  clear H
  go_enter Try.func54, Try.ntmps54
  go_wp2_with (first | (go_at_call 55; (with_reducible refine HL.out.mono ?_); rintro e w2 ⟨rfl, hg2⟩; have hb2 := hg2.hb; obtain ⟨v, hx, hr⟩ := hg2.out; have cc := cell_of_one hx; have HR2 := Aside0.mk hr; have HB2 := Aside0.mk hb2; obtain ⟨Av, cv, ev⟩ := Kd.R_slice hr; subst ev; clear hg2 hx hr hb2))
  go_ret
  exact ⟨_, rfl, HR2.out, HB2.out⟩

end Go.Proofs.Ytgaggoglbkcomaa.Ext
