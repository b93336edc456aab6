/- strip: Cat and Raise, by their walks. -/
import Derived.Test.YtcaoopmpbpfeaaaExtRH
import Derived.Test.YtcaoopmpbpfeaaaXRRx2
import Derived.Test.YtcaoopmpbpfeaaaXRRx4
import Derived.Test.YtcaoopmpbpfeaaaXRRx0
import Derived.Test.YtcaoopmpbpfeaaaWMore
import Derived.WalkKit
import Derived.WalkMore
import Derived.Below
import Derived.KernelRfl
import Derived.LoopTactic
import Derived.Deep.RegionWith
import Derived.Deep.RegionHeld3
import Derived.IntWalk
import Derived.Deep.DeepCutAuto
import Derived.Deep.CutBlock
import Derived.BigQuiet
import Derived.Laws.RangeString
import Derived.Laws.RangeAny
import Derived.Laws.Rows
import Derived.Laws.Runes
import Derived.Lib.OthersKept
import Derived.OpenShut
set_option linter.unusedVariables false
set_option linter.unusedSimpArgs false
namespace Go.Proofs.Ytcaoopmpbpfeaaa.Ext
open Go.RowKit Go.Lib Go.Proofs.YtcaoopmpbpfeaaaW.PrintWords Go.Proofs.YtcaoopmpbpfeaaaW.PrintMore Go.Proofs.Ytcaoopmpbpfeaaa.XRR

theorem wrap_ok (x : Int) (h : -9223372036854775808 ≤ x ∧ x ≤ 9223372036854775807) : IntKind.i64.wrap x = x := by
  rw [show IntKind.i64.wrap x = wrap64 x from by unfold wrap64; exact IntKind.wrap_i64 _, IntWalk.wrap64_in _ ⟨by omega, by omega⟩]
def catT (s : ByteArray) (l : List Rn) (x : ByteArray) (m : List Rn) : ByteArray × List Rn × Int := splT s l s.size s.size x m
set_option maxRecDepth 100000 in
set_option maxHeartbeats 8000000 in
theorem catT_w (w : World) (s x : ByteArray) (A A2 : Option Addr) (c c2 : Nat) (l m : List Rn) (hr : Kd.C k43 w A l.length l) (hc : l.length ≤ c) (hr2 : Kd.C k43 w A2 m.length m) (hc2 : m.length ≤ c2) (hl : l.length ≤ 8000000000000000000) (hm : m.length ≤ 8000000000000000000) :
    Calls Try.prog 7 #[vT s (.slice A l.length c), vT x (.slice A2 m.length c2)] w fun e w' => ∃ v0 : Value, e = .returned (.tuple #[vT (catT s l x m).1 v0, .int .i64 (catT s l x m).2.2]) ∧ Kd.R k43 43 w' w.heap.size (fun _ => True) v0 (catT s l x m).2.1 ∧ Below w.heap.size w w' := by
  obtain ⟨hb3, xa, xb, xc⟩ := W3_facts w s x e0 (.slice A l.length c) (.slice A2 m.length c2) (.slice none 0 0)
  have HX3 := Aside0.mk (⟨xa, xb, xc⟩ : _ ∧ _ ∧ _)
  obtain ⟨a0, a1, -, -⟩ := xa.cells
  obtain ⟨b0, b1, -, -⟩ := xb.cells
  have HB3 := Aside0.mk hb3
  have HSP := Aside0.mk (fun (w1 : World) (hb : Below w.heap.size w w1) => spliceT_w w1 s x A A2 c c2 l m s.size s.size (Kd.C_below hr hb) hc (Kd.C_below hr2 hb) hc2 hl hm)
  clear hb3 xa xb xc hr hr2
  unfold catT
  generalize splT s l s.size s.size x m = z at *
  obtain ⟨z1, z2, z3⟩ := z
  dsimp only at HSP ⊢
  go_enter Try.func7, Try.ntmps7
  go_wp2_with (first | (go_at_call 14; (with_reducible refine (HSP.out _ HB3.out).mono ?_); rintro e w7 ⟨v7, rfl, hr7, hb7⟩; obtain ⟨A7, c7, e7⟩ := Kd.R_slice hr7; subst e7; have HR7 := Aside0.mk (Kd.R_lower hr7 HB3.out.size); have HB7 := Aside0.mk (below_step HB3.out hb7); have HX7 := Aside0.mk (⟨HX3.out.1.below hb7, HX3.out.2.1.below hb7, HX3.out.2.2.below hb7⟩ : _ ∧ _ ∧ _); clear a0 a1 b0 b1; obtain ⟨c0, c1, f0, f1⟩ := HX7.out.2.2.cells; have lc7 := HX7.out.2.2.lt; clear hb7 hr7))
  exact bodyPost_ret (v := .tuple #[vT z1 (.slice A7 z2.length c7), .int .i64 z3]) (by simp [results, Try.results7, go_sem, c0, c1, lc7]) rfl ⟨_, rfl, R_two HR7.out HX7.out.2.2 _ _, two_set HB7.out (by omega)⟩
abbrev W2 (w : World) (s y : ByteArray) (v z : Value) : World := (w.alloc (.cells #[.string s, v] 28)).alloc (.cells #[.string y, z] 28)
theorem W2_facts (w : World) (s y : ByteArray) (v z : Value) : Below w.heap.size w (W2 w s y v z) ∧ BX (W2 w s y v z) w.heap.size s v ∧ BX (W2 w s y v z) (w.heap.size + 1) y z := by
  have e1 : (w.alloc (.cells #[.string s, v] 28)).heap.size = w.heap.size + 1 := by simp
  refine ⟨below_alloc (below_alloc (Below.refl _ _) _) _, ⟨?_⟩, ⟨?_⟩⟩
  · rw [Below.heap_alloc _ _ _ (by omega)]
    exact heap_alloc_new _ _
  · have := heap_alloc_new (w.alloc (.cells #[.string s, v] 28)) (.cells #[.string y, z] 28)
    rwa [e1] at this
def raiT (s : ByteArray) (l : List Rn) (by_ : Int) : ByteArray × List Rn × Int := if goodT s l = true then (s, rai l 0 s.size by_, 0) else (⟨#[]⟩, [], 2)
set_option maxRecDepth 100000 in
set_option maxHeartbeats 8000000 in
theorem raiseT_w (w : World) (s : ByteArray) (A : Option Addr) (c : Nat) (l : List Rn) (by_ : Int) (hr : Kd.C k43 w A l.length l) (hc : l.length ≤ c) (hl : l.length ≤ 8000000000000000000) :
    Calls Try.prog 9 #[vT s (.slice A l.length c), .int .u64 by_] w fun e w' => ∃ v0 : Value, e = .returned (.tuple #[vT (raiT s l by_).1 v0, .int .i64 (raiT s l by_).2.2]) ∧ Kd.R k43 43 w' w.heap.size (fun _ => True) v0 (raiT s l by_).2.1 ∧ Below w.heap.size w w' := by
  obtain ⟨hb2, xa, xc⟩ := W2_facts w s e0 (.slice A l.length c) (.slice none 0 0)
  have HX2 := Aside0.mk (⟨xa, xc⟩ : _ ∧ _)
  obtain ⟨a0, a1, -, -⟩ := xa.cells
  obtain ⟨c0, c1, f0, f1⟩ := xc.cells
  have HB2 := Aside0.mk hb2
  have HGO := Aside0.mk (fun (w1 : World) (hb : Below w.heap.size w w1) => strip_Good.calls (l.length + 2 + l.length) s A c l _ w1 (Kd.C_below hr hb) hc (goodT_k s l hl _ (Nat.le_refl _)))
  have HRA := Aside0.mk (fun (w1 : World) (hb : Below w.heap.size w w1) => Raise_w w1 A c l 0 s.size by_ (Kd.C_below hr hb) hc hl)
  clear hb2 xa xc hr
  cases hgt : goodT s l
  · have ez : raiT s l by_ = (⟨#[]⟩, [], 2) := by unfold raiT; rw [hgt]; rfl
    rw [ez]
    rw [hgt] at HGO
    clear hgt ez
    go_enter Try.func9, Try.ntmps9
    go_wp2_with (first | (go_at_call 11; (with_reducible refine (HGO.out _ HB2.out).mono ?_); rintro e w6 ⟨rfl, hb6⟩; have HB6 := Aside0.mk (below_step HB2.out hb6); have HX6 := Aside0.mk (⟨HX2.out.1.below hb6, HX2.out.2.below hb6⟩ : _ ∧ _); clear a0 a1 c0 c1 f0 f1; obtain ⟨a0, a1, -, -⟩ := HX6.out.1.cells; obtain ⟨c0, c1, f0, f1⟩ := HX6.out.2.cells; have la6 := HX6.out.1.lt; have lc6 := HX6.out.2.lt; clear hb6))
    exact bodyPost_ret (v := .tuple #[vT e0 (.slice none 0 0), .int .i64 2]) (by simp [results, Try.results9, go_sem, c0, c1, lc6]) rfl ⟨_, rfl, Kd.R_nil _ _ _ _ _, two_set HB6.out (by omega)⟩
  · obtain ⟨hgl, hnl⟩ := goodT_good hgt
    have ez : raiT s l by_ = (s, rai l 0 s.size by_, 0) := by unfold raiT; rw [hgt]; rfl
    have hwb : withinB l 0 s.size = true := by
      unfold withinB
      rw [hgl, decide_eq_true (by omega : (0 : Int) ≤ (s.size : Int)), decide_eq_true (by omega : (s.size : Int) ≤ (nB l : Int))]
      rfl
    have ea : raiZ l 0 s.size by_ = (rai l 0 s.size by_, 0) := by unfold raiZ; rw [hwb]; rfl
    rw [ez]
    rw [ea] at HRA
    rw [hgt] at HGO
    clear hgt ez ea hwb
    go_enter Try.func9, Try.ntmps9
    go_wp2_with (first | (go_at_call 11; (with_reducible refine (HGO.out _ HB2.out).mono ?_); rintro e w6 ⟨rfl, hb6⟩; have HB6 := Aside0.mk (below_step HB2.out hb6); have HX6 := Aside0.mk (⟨HX2.out.1.below hb6, HX2.out.2.below hb6⟩ : _ ∧ _); clear a0 a1 c0 c1 f0 f1; obtain ⟨a0, a1, -, -⟩ := HX6.out.1.cells; obtain ⟨c0, c1, f0, f1⟩ := HX6.out.2.cells; have la6 := HX6.out.1.lt; have lc6 := HX6.out.2.lt; clear hb6) | (go_at_call 16; (with_reducible refine (HRA.out _ HB6.out).mono ?_); rintro e w7 ⟨v7, rfl, hr7, hb7⟩; obtain ⟨A7, c7, e7⟩ := Kd.R_slice hr7; subst e7; have HR7 := Aside0.mk (Kd.R_lower hr7 HB6.out.size); have HB7 := Aside0.mk (below_step HB6.out hb7); have HX7 := Aside0.mk (⟨HX6.out.1.below hb7, HX6.out.2.below hb7⟩ : _ ∧ _); clear a0 a1 c0 c1 f0 f1; obtain ⟨a0, a1, -, -⟩ := HX7.out.1.cells; obtain ⟨c0, c1, f0, f1⟩ := HX7.out.2.cells; have la7 := HX7.out.1.lt; have lc7 := HX7.out.2.lt; clear hb7 hr7))
    exact bodyPost_ret (v := .tuple #[vT s (.slice A7 (rai l 0 s.size by_).length c7), .int .i64 0]) (by simp [results, Try.results9, go_sem, c0, c1, lc7]) rfl ⟨_, rfl, R_two HR7.out HX7.out.2 _ _, two_set HB7.out (by omega)⟩

end Go.Proofs.Ytcaoopmpbpfeaaa.Ext
