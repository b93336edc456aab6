/- strip: Good, Splice, Cat and Raise, by their walks. -/
import Derived.Test.YtgaggoglbkcomaaExtRG
import Derived.Test.YtgaggoglbkcomaaXRRx2
import Derived.Test.YtgaggoglbkcomaaXRRx3
import Derived.Test.YtgaggoglbkcomaaXRRx4
import Derived.Test.YtgaggoglbkcomaaXRRx0
import Derived.Test.YtgaggoglbkcomaaWMore
import Derived.WalkKit
import Derived.WalkMore
import Derived.Below
import Derived.KernelRfl
import Derived.LoopTactic
import Derived.Deep.RegionWith
import Derived.Deep.RegionHeld3
import Derived.IntWalk
import Derived.Deep.DeepCutAuto
import Derived.Deep.CutBlock
import Derived.BigQuiet
import Derived.Laws.RangeString
import Derived.Laws.RangeAny
import Derived.Laws.Rows
import Derived.Laws.Runes
import Derived.Lib.OthersKept
import Derived.OpenShut
set_option linter.unusedVariables false
set_option linter.unusedSimpArgs false
namespace Go.Proofs.Ytgaggoglbkcomaa.Ext
open Go.RowKit Go.Lib Go.Proofs.YtgaggoglbkcomaaW.PrintWords Go.Proofs.YtgaggoglbkcomaaW.PrintMore Go.Proofs.Ytgaggoglbkcomaa.XRR

def goodT (s : ByteArray) (l : List Rn) : Bool := goodB l && (((nB l : Nat) : Int) == (s.size : Int))
theorem goodT_good {s : ByteArray} {l : List Rn} (h : goodT s l = true) : goodB l = true ∧ nB l = s.size := by
  unfold goodT at h
  rw [Bool.and_eq_true, beq_iff_eq] at h
  exact ⟨h.1, by omega⟩
theorem goodT_k (s : ByteArray) (l : List Rn) (hl : l.length ≤ 8000000000000000000) (k : Nat) (hk : l.length + 2 + l.length ≤ k) : strip_Good.f k s l = some (goodT s l) := by
  unfold strip_Good.f goodT
  rw [Good_k l hl k hk, Option.bind_some]
  cases e : goodB l
  · rfl
  · rw [if_pos rfl, Total_k l (by omega) k (by omega), Option.bind_some, good_tot e]
    rfl
def withinT (s : ByteArray) (l : List Rn) (f t : Int) : Bool := goodT s l && decide (0 ≤ f) && decide (f ≤ t) && decide (t ≤ (s.size : Int))
theorem withinT_k (s : ByteArray) (l : List Rn) (hl : l.length ≤ 8000000000000000000) (f t : Int) (k : Nat) (hk : l.length + 2 + l.length ≤ k) : strip_within.f k s l f t = some (withinT s l f t) := by
  unfold strip_within.f withinT
  rw [goodT_k s l hl k hk, Option.bind_some]
  cases goodT s l
  · rfl
  · rw [if_pos rfl]
    by_cases c1 : f ≥ 0
    · rw [if_pos c1, decide_eq_true (by omega : 0 ≤ f)]
      by_cases c2 : f ≤ t
      · rw [if_pos c2, decide_eq_true c2]; rfl
      · rw [if_neg c2, decide_eq_false c2]; rfl
    · rw [if_neg c1, decide_eq_false (by omega : ¬ 0 ≤ f)]; rfl
theorem withinT_good {s : ByteArray} {l : List Rn} {f t : Int} (h : withinT s l f t = true) : goodT s l = true ∧ 0 ≤ f ∧ f ≤ t ∧ t ≤ (s.size : Int) := by
  unfold withinT at h
  rw [Bool.and_eq_true, Bool.and_eq_true, Bool.and_eq_true, decide_eq_true_eq, decide_eq_true_eq, decide_eq_true_eq] at h
  exact ⟨h.1.1.1, h.1.1.2, h.1.2, h.2⟩
/-- A labelled text's Splice: bytes, runs, error. -/
def splT (s : ByteArray) (l : List Rn) (f t : Int) (x : ByteArray) (m : List Rn) : ByteArray × List Rn × Int :=
  if (withinT s l f t && goodT x m) = true then (if (s.size : Int) - (t - f) + x.size > 4096 then (⟨#[]⟩, [], 3) else (s.extract 0 f.toNat ++ x ++ s.extract t.toNat s.size, spl l f t m, 0)) else (⟨#[]⟩, [], 2)
abbrev vT (s : ByteArray) (v : Value) : Value := .agg #[.string s, v]
structure BX (w : World) (p : Nat) (s : ByteArray) (v : Value) : Prop where
  x : w.heap[p]? = some (.cells #[.string s, v] 24 (0, 0))
theorem BX.below {w w' : World} {p : Nat} {s : ByteArray} {v : Value} (h : BX w p s v) (hb : Below w.heap.size w w') : BX w' p s v := ⟨(hb.block p (Array.getElem?_eq_some_iff.1 h.x).1).trans h.x⟩
theorem BX.cells {w : World} {p : Nat} {s : ByteArray} {v : Value} (h : BX w p s v) : w.cell? ⟨p, 0, none⟩ = some (.string s) ∧ w.cell? ⟨p, 1, none⟩ = some v ∧ w.frozen? ⟨p, 0, none⟩ = false ∧ w.frozen? ⟨p, 1, none⟩ = false :=
  ⟨by rw [cell_of_row w p _ _ _ _ h.x]; rfl, by rw [cell_of_row w p _ _ _ _ h.x]; rfl, frozen_of_row w p 0 _ _ h.x, frozen_of_row w p 1 _ _ h.x⟩
theorem BX.lt {w : World} {p : Nat} {s : ByteArray} {v : Value} (h : BX w p s v) : p < w.heap.size := (Array.getElem?_eq_some_iff.1 h.x).1
abbrev e0 : ByteArray := ⟨#[]⟩
abbrev W3 (w : World) (s x y : ByteArray) (v u z : Value) : World := ((w.alloc (.cells #[.string s, v] 24)).alloc (.cells #[.string x, u] 24)).alloc (.cells #[.string y, z] 24)
theorem W3_facts (w : World) (s x y : ByteArray) (v u z : Value) : Below w.heap.size w (W3 w s x y v u z) ∧ BX (W3 w s x y v u z) w.heap.size s v ∧ BX (W3 w s x y v u z) (w.heap.size + 1) x u ∧ BX (W3 w s x y v u z) (w.heap.size + 1 + 1) y z := by
  have e1 : (w.alloc (.cells #[.string s, v] 24)).heap.size = w.heap.size + 1 := by simp
  have e2 : ((w.alloc (.cells #[.string s, v] 24)).alloc (.cells #[.string x, u] 24)).heap.size = w.heap.size + 1 + 1 := by simp
  refine ⟨below_alloc (below_alloc (below_alloc (Below.refl _ _) _) _) _, ⟨?_⟩, ⟨?_⟩, ⟨?_⟩⟩
  · rw [Below.heap_alloc _ _ _ (by omega), Below.heap_alloc _ _ _ (by omega)]
    exact heap_alloc_new _ _
  · rw [Below.heap_alloc _ _ _ (by omega)]
    have := heap_alloc_new (w.alloc (.cells #[.string s, v] 24)) (.cells #[.string x, u] 24)
    rwa [e1] at this
  · have := heap_alloc_new ((w.alloc (.cells #[.string s, v] 24)).alloc (.cells #[.string x, u] 24)) (.cells #[.string y, z] 24)
    rwa [e2] at this
theorem R_old {α : Type} {d : Kd α} {e base : Nat} {w w1 : World} {ok : Nat → Prop} {v : Value} {xs : List α} (h : d.R e w base ok v xs) (hk : ∀ k, base ≤ k → w1.heap[k]? = w.heap[k]?) : d.R e w1 base ok v xs :=
  Kd.R_mono (Kd.R_move (Kd.R_bound h) (fun k hk2 => hk k hk2.2.1)) (fun _ hk => hk.1)
theorem two_set {w0 w : World} {T : Nat} {x y : Value} (hb : Below w0.heap.size w0 w) (hT : w0.heap.size ≤ T) : Below w0.heap.size w0 ((w.setCell ⟨T, 0, none⟩ x).setCell ⟨T, 1, none⟩ y) := below_set (below_set hb hT) hT
theorem R_two {w : World} {base T : Nat} {ok : Nat → Prop} {v : Value} {xs : List Rn} {s : ByteArray} {u : Value} (h : Kd.R k29 29 w base ok v xs) (hx : BX w T s u) (x y : Value) : Kd.R k29 29 ((w.setCell ⟨T, 0, none⟩ x).setCell ⟨T, 1, none⟩ y) base ok v xs := by
  have h1 := Kd.R_set h hx.x (by decide) 0 x
  exact Kd.R_set h1 (heap_setCell_same w T 0 _ _ x hx.x) (by decide) 1 y
set_option maxRecDepth 100000 in
set_option maxHeartbeats 8000000 in
theorem spliceT_w (w : World) (s x : ByteArray) (A A2 : Option Addr) (c c2 : Nat) (l m : List Rn) (f t : Int) (hr : Kd.C k29 w A l.length l) (hc : l.length ≤ c) (hr2 : Kd.C k29 w A2 m.length m) (hc2 : m.length ≤ c2) (hl : l.length ≤ 8000000000000000000) (hm : m.length ≤ 8000000000000000000) :
    Calls Try.prog 27 #[vT s (.slice A l.length c), .int .i64 f, .int .i64 t, vT x (.slice A2 m.length c2)] w fun e w' => ∃ v0 : Value, e = .returned (.tuple #[vT (splT s l f t x m).1 v0, .int .i64 (splT s l f t x m).2.2]) ∧ Kd.R k29 29 w' w.heap.size (fun _ => True) v0 (splT s l f t x m).2.1 ∧ Below w.heap.size w w' := by
  obtain ⟨hb3, xa, xb, xc⟩ := W3_facts w s x e0 (.slice A l.length c) (.slice A2 m.length c2) (.slice none 0 0)
  have HA := Aside0.mk xa
  have HBB := Aside0.mk xb
  have HCC := Aside0.mk xc
  have HB3 := Aside0.mk hb3
  have HWI := Aside0.mk (fun (w1 : World) (hb : Below w.heap.size w w1) => strip_within.calls (l.length + 2 + l.length) s A c l f t _ w1 (Kd.C_below hr hb) hc (withinT_k s l hl f t _ (Nat.le_refl _)))
  have HGO := Aside0.mk (fun (w1 : World) (hb : Below w.heap.size w w1) => strip_Good.calls (m.length + 2 + m.length) x A2 c2 m _ w1 (Kd.C_below hr2 hb) hc2 (goodT_k x m hm _ (Nat.le_refl _)))
  have HSP := Aside0.mk (fun (w1 : World) (hb : Below w.heap.size w w1) => Splice_w w1 A A2 c c2 l m f t (Kd.C_below hr hb) hc (Kd.C_below hr2 hb) hc2 hl hm)
  clear hb3 xa xb xc hr hr2
  cases hwi : withinT s l f t
  · have ez : splT s l f t x m = (⟨#[]⟩, [], 2) := by unfold splT; rw [hwi]; rfl
    rw [ez]
    rw [hwi] at HWI
    clear hwi ez
    go_enter Try.func27, Try.ntmps27
    go_wp2_with (first | (go_at_call 46; (with_reducible refine (HWI.out _ HB3.out).mono ?_); rintro e w5 ⟨rfl, hb5⟩; have HB5 := Aside0.mk (below_step HB3.out hb5); have HX5 := Aside0.mk (⟨HA.out.below hb5, HBB.out.below hb5, HCC.out.below hb5⟩ : _ ∧ _ ∧ _); obtain ⟨a0, a1, -, -⟩ := HX5.out.1.cells; obtain ⟨b0, b1, -, -⟩ := HX5.out.2.1.cells; obtain ⟨c0, c1, f0, f1⟩ := HX5.out.2.2.cells; have la5 := HX5.out.1.lt; have lb5 := HX5.out.2.1.lt; have lc5 := HX5.out.2.2.lt; clear hb5))
    exact bodyPost_ret (v := .tuple #[vT e0 (.slice none 0 0), .int .i64 2]) (by simp [results, Try.results27, go_sem, c0, c1, lc5]) rfl ⟨_, rfl, Kd.R_nil _ _ _ _ _, two_set HB5.out (by omega)⟩
  · obtain ⟨hgt, hf0, hft, hts⟩ := withinT_good hwi
    obtain ⟨hgl, hnl⟩ := goodT_good hgt
    rw [hwi] at HWI
    cases hgm : goodT x m
    · have ez : splT s l f t x m = (⟨#[]⟩, [], 2) := by unfold splT; rw [hgm, Bool.and_false]; rfl
      rw [ez]
      rw [hgm] at HGO
      clear hwi ez hgm
      go_enter Try.func27, Try.ntmps27
      go_wp2_with (first | (go_at_call 46; (with_reducible refine (HWI.out _ HB3.out).mono ?_); rintro e w5 ⟨rfl, hb5⟩; have HB5 := Aside0.mk (below_step HB3.out hb5); have HX5 := Aside0.mk (⟨HA.out.below hb5, HBB.out.below hb5, HCC.out.below hb5⟩ : _ ∧ _ ∧ _); obtain ⟨a0, a1, -, -⟩ := HX5.out.1.cells; obtain ⟨b0, b1, -, -⟩ := HX5.out.2.1.cells; obtain ⟨c0, c1, f0, f1⟩ := HX5.out.2.2.cells; have la5 := HX5.out.1.lt; have lb5 := HX5.out.2.1.lt; have lc5 := HX5.out.2.2.lt; clear hb5) | (go_at_call 36; (with_reducible refine (HGO.out _ HB5.out).mono ?_); rintro e w6 ⟨rfl, hb6⟩; have HB6 := Aside0.mk (below_step HB5.out hb6); have HX6 := Aside0.mk (⟨HX5.out.1.below hb6, HX5.out.2.1.below hb6, HX5.out.2.2.below hb6⟩ : _ ∧ _ ∧ _); clear a0 a1 b0 b1 c0 c1 f0 f1; obtain ⟨a0, a1, -, -⟩ := HX6.out.1.cells; obtain ⟨b0, b1, -, -⟩ := HX6.out.2.1.cells; obtain ⟨c0, c1, f0, f1⟩ := HX6.out.2.2.cells; have la6 := HX6.out.1.lt; have lb6 := HX6.out.2.1.lt; have lc6 := HX6.out.2.2.lt; clear hb6))
      exact bodyPost_ret (v := .tuple #[vT e0 (.slice none 0 0), .int .i64 2]) (by simp [results, Try.results27, go_sem, c0, c1, lc6]) rfl ⟨_, rfl, Kd.R_nil _ _ _ _ _, two_set HB6.out (by omega)⟩
    · obtain ⟨hgb, hnm⟩ := goodT_good hgm
      have hwb : (withinB l f t && goodB m) = true := by
        unfold withinB
        rw [hgl, hgb, decide_eq_true hf0, decide_eq_true hft, decide_eq_true (by omega : t ≤ (nB l : Int))]
        rfl
      have esz : splZ l f t m = if (s.size : Int) - (t - f) + x.size > 4096 then ([], 3) else (spl l f t m, 0) := by unfold splZ; rw [hwb, if_pos rfl, hnl, hnm]
      have ez : splT s l f t x m = if (s.size : Int) - (t - f) + x.size > 4096 then (⟨#[]⟩, [], 3) else (s.extract 0 f.toNat ++ x ++ s.extract t.toNat s.size, spl l f t m, 0) := by unfold splT; rw [hwi, hgm]; rfl
      have hs4 : s.size ≤ 4096 := by have := good_n hgl; omega
      have hx4 : x.size ≤ 4096 := by have := good_n hgb; omega
      rw [ez]
      rw [esz] at HSP
      rw [hgm] at HGO
      clear hwi hgm ez esz hwb
      by_cases hbig : (s.size : Int) - (t - f) + x.size > 4096
      · rw [if_pos hbig] at HSP
        rw [if_pos hbig]
        clear hbig
        go_enter Try.func27, Try.ntmps27
        go_wp2_with (first | (go_at_call 46; (with_reducible refine (HWI.out _ HB3.out).mono ?_); rintro e w5 ⟨rfl, hb5⟩; have HB5 := Aside0.mk (below_step HB3.out hb5); have HX5 := Aside0.mk (⟨HA.out.below hb5, HBB.out.below hb5, HCC.out.below hb5⟩ : _ ∧ _ ∧ _); obtain ⟨a0, a1, -, -⟩ := HX5.out.1.cells; obtain ⟨b0, b1, -, -⟩ := HX5.out.2.1.cells; obtain ⟨c0, c1, f0, f1⟩ := HX5.out.2.2.cells; have la5 := HX5.out.1.lt; have lb5 := HX5.out.2.1.lt; have lc5 := HX5.out.2.2.lt; clear hb5) | (go_at_call 36; (with_reducible refine (HGO.out _ HB5.out).mono ?_); rintro e w6 ⟨rfl, hb6⟩; have HB6 := Aside0.mk (below_step HB5.out hb6); have HX6 := Aside0.mk (⟨HX5.out.1.below hb6, HX5.out.2.1.below hb6, HX5.out.2.2.below hb6⟩ : _ ∧ _ ∧ _); clear a0 a1 b0 b1 c0 c1 f0 f1; obtain ⟨a0, a1, -, -⟩ := HX6.out.1.cells; obtain ⟨b0, b1, -, -⟩ := HX6.out.2.1.cells; obtain ⟨c0, c1, f0, f1⟩ := HX6.out.2.2.cells; have la6 := HX6.out.1.lt; have lb6 := HX6.out.2.1.lt; have lc6 := HX6.out.2.2.lt; clear hb6) | (go_at_call 47; (with_reducible refine (HSP.out _ HB6.out).mono ?_); rintro e w7 ⟨v7, rfl, hr7, hb7⟩; obtain ⟨A7, c7, e7⟩ := Kd.R_slice hr7; subst e7; have HR7 := Aside0.mk (Kd.R_lower hr7 HB6.out.size); have HB7 := Aside0.mk (below_step HB6.out hb7); have HX7 := Aside0.mk (⟨HX6.out.1.below hb7, HX6.out.2.1.below hb7, HX6.out.2.2.below hb7⟩ : _ ∧ _ ∧ _); clear a0 a1 b0 b1 c0 c1 f0 f1; obtain ⟨a0, a1, -, -⟩ := HX7.out.1.cells; obtain ⟨b0, b1, -, -⟩ := HX7.out.2.1.cells; obtain ⟨c0, c1, f0, f1⟩ := HX7.out.2.2.cells; have la7 := HX7.out.1.lt; have lb7 := HX7.out.2.1.lt; have lc7 := HX7.out.2.2.lt; clear hb7 hr7))
        exact bodyPost_ret (v := .tuple #[vT e0 (.slice none 0 0), .int .i64 3]) (by simp [results, Try.results27, go_sem, c0, c1, lc7]) rfl ⟨_, rfl, Kd.R_nil _ _ _ _ _, two_set HB7.out (by omega)⟩
      · rw [if_neg hbig] at HSP
        rw [if_neg hbig]
        have z1 : (s.extract 0 f.toNat).size = f.toNat := by rw [ByteArray.size_extract]; omega
        have z2 : (s.extract t.toNat s.size).size = s.size - t.toNat := by rw [ByteArray.size_extract]; omega
        have z3 : (s.extract 0 f.toNat ++ x).size = f.toNat + x.size := by rw [ByteArray.size_append, z1]
        have y1 : (9223372036854775807 < (s.extract 0 f.toNat).size + x.size) = False := eq_false (by rw [z1]; omega)
        have y2 : (9223372036854775807 < (s.extract 0 f.toNat ++ x).size + (s.extract t.toNat s.size).size) = False := eq_false (by rw [z3, z2]; omega)
        have hfs : f ≤ (s.size : Int) := by omega
        have ht0 : 0 ≤ t := by omega
        have htt : t.toNat ≤ s.size := by omega
        clear hbig z1 z2 z3
        go_enter Try.func27, Try.ntmps27
        go_wp2_with (first | (go_at_call 46; (with_reducible refine (HWI.out _ HB3.out).mono ?_); rintro e w5 ⟨rfl, hb5⟩; have HB5 := Aside0.mk (below_step HB3.out hb5); have HX5 := Aside0.mk (⟨HA.out.below hb5, HBB.out.below hb5, HCC.out.below hb5⟩ : _ ∧ _ ∧ _); obtain ⟨a0, a1, -, -⟩ := HX5.out.1.cells; obtain ⟨b0, b1, -, -⟩ := HX5.out.2.1.cells; obtain ⟨c0, c1, f0, f1⟩ := HX5.out.2.2.cells; have la5 := HX5.out.1.lt; have lb5 := HX5.out.2.1.lt; have lc5 := HX5.out.2.2.lt; clear hb5) | (go_at_call 36; (with_reducible refine (HGO.out _ HB5.out).mono ?_); rintro e w6 ⟨rfl, hb6⟩; have HB6 := Aside0.mk (below_step HB5.out hb6); have HX6 := Aside0.mk (⟨HX5.out.1.below hb6, HX5.out.2.1.below hb6, HX5.out.2.2.below hb6⟩ : _ ∧ _ ∧ _); clear a0 a1 b0 b1 c0 c1 f0 f1; obtain ⟨a0, a1, -, -⟩ := HX6.out.1.cells; obtain ⟨b0, b1, -, -⟩ := HX6.out.2.1.cells; obtain ⟨c0, c1, f0, f1⟩ := HX6.out.2.2.cells; have la6 := HX6.out.1.lt; have lb6 := HX6.out.2.1.lt; have lc6 := HX6.out.2.2.lt; clear hb6) | (go_at_call 47; (with_reducible refine (HSP.out _ HB6.out).mono ?_); rintro e w7 ⟨v7, rfl, hr7, hb7⟩; obtain ⟨A7, c7, e7⟩ := Kd.R_slice hr7; subst e7; have HR7 := Aside0.mk (Kd.R_lower hr7 HB6.out.size); have HB7 := Aside0.mk (below_step HB6.out hb7); have HX7 := Aside0.mk (⟨HX6.out.1.below hb7, HX6.out.2.1.below hb7, HX6.out.2.2.below hb7⟩ : _ ∧ _ ∧ _); clear a0 a1 b0 b1 c0 c1 f0 f1; obtain ⟨a0, a1, -, -⟩ := HX7.out.1.cells; obtain ⟨b0, b1, -, -⟩ := HX7.out.2.1.cells; obtain ⟨c0, c1, f0, f1⟩ := HX7.out.2.2.cells; have la7 := HX7.out.1.lt; have lb7 := HX7.out.2.1.lt; have lc7 := HX7.out.2.2.lt; clear hb7 hr7))
        go_region
        go_wp2
        exact bodyPost_ret (v := .tuple #[vT (s.extract 0 f.toNat ++ x ++ s.extract t.toNat s.size) (.slice A7 (spl l f t m).length c7), .int .i64 0]) (by simp [results, Try.results27, go_sem, c0, c1, lc7]) rfl ⟨_, rfl, Kd.R_drew (R_two HR7.out HX7.out.2.2 _ _), below_drew (two_set HB7.out (by omega))⟩

end Go.Proofs.Ytgaggoglbkcomaa.Ext
