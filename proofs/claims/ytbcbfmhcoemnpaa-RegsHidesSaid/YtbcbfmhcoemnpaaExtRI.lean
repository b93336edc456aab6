/- strip: Cat and Raise, by their walks. -/
import Derived.Test.YtbcbfmhcoemnpaaExtRH
import Derived.Test.YtbcbfmhcoemnpaaXRRx2
import Derived.Test.YtbcbfmhcoemnpaaXRRx3
import Derived.Test.YtbcbfmhcoemnpaaXRRx4
import Derived.Test.YtbcbfmhcoemnpaaXRRx0
import Derived.Test.YtbcbfmhcoemnpaaWMore
import Derived.WalkKit
import Derived.WalkMore
import Derived.Below
import Derived.KernelRfl
import Derived.LoopTactic
import Derived.Deep.RegionWith
import Derived.Deep.RegionHeld3
import Derived.IntWalk
import Derived.Deep.DeepCutAuto
import Derived.Deep.CutBlock
import Derived.BigQuiet
import Derived.Laws.RangeString
import Derived.Laws.RangeAny
import Derived.Laws.Rows
import Derived.Laws.Runes
import Derived.Lib.OthersKept
import Derived.OpenShut
set_option linter.unusedVariables false
set_option linter.unusedSimpArgs false
namespace Go.Proofs.Ytbcbfmhcoemnpaa.Ext
open Go.RowKit Go.Lib Go.Proofs.YtbcbfmhcoemnpaaW.PrintWords Go.Proofs.YtbcbfmhcoemnpaaW.PrintMore Go.Proofs.Ytbcbfmhcoemnpaa.XRR

theorem wrap_ok (x : Int) (h : -9223372036854775808 ≤ x ∧ x ≤ 9223372036854775807) : IntKind.i64.wrap x = x := by
  rw [show IntKind.i64.wrap x = wrap64 x from by unfold wrap64; exact IntKind.wrap_i64 _, IntWalk.wrap64_in _ ⟨by omega, by omega⟩]
def catT (s : ByteArray) (l : List Rn) (x : ByteArray) (m : List Rn) : ByteArray × List Rn × Int := splT s l s.size s.size x m
set_option maxRecDepth 100000 in
set_option maxHeartbeats 8000000 in
theorem catT_w (w : World) (s x : ByteArray) (A A2 : Option Addr) (c c2 : Nat) (l m : List Rn) (hr : Kd.C k58 w A l.length l) (hc : l.length ≤ c) (hr2 : Kd.C k58 w A2 m.length m) (hc2 : m.length ≤ c2) (hl : l.length ≤ 8000000000000000000) (hm : m.length ≤ 8000000000000000000) :
    Calls Try.prog 33 #[vT s (.slice A l.length c), vT x (.slice A2 m.length c2)] w fun e w' => ∃ v0 : Value, e = .returned (.tuple #[vT (catT s l x m).1 v0, .int .i64 (catT s l x m).2.2]) ∧ Kd.R k58 58 w' w.heap.size (fun _ => True) v0 (catT s l x m).2.1 ∧ Below w.heap.size w w' := by
  obtain ⟨hb3, xa, xb, xc⟩ := W3_facts w s x e0 (.slice A l.length c) (.slice A2 m.length c2) (.slice none 0 0)
  have HX3 := Aside0.mk (⟨xa, xb, xc⟩ : _ ∧ _ ∧ _)
  obtain ⟨a0, a1, -, -⟩ := xa.cells
  obtain ⟨b0, b1, -, -⟩ := xb.cells
  have HB3 := Aside0.mk hb3
  have HSP := Aside0.mk (fun (w1 : World) (hb : Below w.heap.size w w1) => spliceT_w w1 s x A A2 c c2 l m s.size s.size (Kd.C_below hr hb) hc (Kd.C_below hr2 hb) hc2 hl hm)
  clear hb3 xa xb xc hr hr2
  unfold catT
  generalize splT s l s.size s.size x m = z at *
  obtain ⟨z1, z2, z3⟩ := z
  dsimp only at HSP ⊢
  go_enter Try.func33, Try.ntmps33
  go_wp2_with (first | (go_at_call 38; (with_reducible refine (HSP.out _ HB3.out).mono ?_); rintro e w7 ⟨v7, rfl, hr7, hb7⟩; obtain ⟨A7, c7, e7⟩ := Kd.R_slice hr7; subst e7; have HR7 := Aside0.mk (Kd.R_lower hr7 HB3.out.size); have HB7 := Aside0.mk (below_step HB3.out hb7); have HX7 := Aside0.mk (⟨HX3.out.1.below hb7, HX3.out.2.1.below hb7, HX3.out.2.2.below hb7⟩ : _ ∧ _ ∧ _); clear a0 a1 b0 b1; obtain ⟨c0, c1, f0, f1⟩ := HX7.out.2.2.cells; have lc7 := HX7.out.2.2.lt; clear hb7 hr7))
  exact bodyPost_ret (v := .tuple #[vT z1 (.slice A7 z2.length c7), .int .i64 z3]) (by simp [results, Try.results33, go_sem, c0, c1, lc7]) rfl ⟨_, rfl, R_two HR7.out HX7.out.2.2 _ _, two_set HB7.out (by omega)⟩
abbrev W2 (w : World) (s y : ByteArray) (v z : Value) : World := (w.alloc (.cells #[.string s, v] 29)).alloc (.cells #[.string y, z] 29)
theorem W2_facts (w : World) (s y : ByteArray) (v z : Value) : Below w.heap.size w (W2 w s y v z) ∧ BX (W2 w s y v z) w.heap.size s v ∧ BX (W2 w s y v z) (w.heap.size + 1) y z := by
  have e1 : (w.alloc (.cells #[.string s, v] 29)).heap.size = w.heap.size + 1 := by simp
  refine ⟨below_alloc (below_alloc (Below.refl _ _) _) _, ⟨?_⟩, ⟨?_⟩⟩
  · rw [Below.heap_alloc _ _ _ (by omega)]
    exact heap_alloc_new _ _
  · have := heap_alloc_new (w.alloc (.cells #[.string s, v] 29)) (.cells #[.string y, z] 29)
    rwa [e1] at this
def raiT (s : ByteArray) (l : List Rn) (by_ : Int) : ByteArray × List Rn × Int := if goodT s l = true then (s, rai l 0 s.size by_, 0) else (⟨#[]⟩, [], 2)

end Go.Proofs.Ytbcbfmhcoemnpaa.Ext
