/- runs: the closures of Raise, by their walks. -/
import Derived.Test.YtgaggoglbkcomaaExtRD
import Derived.Test.YtgaggoglbkcomaaXRRx0
import Derived.Test.YtgaggoglbkcomaaWMore
import Derived.WalkKit
import Derived.WalkMore
import Derived.Below
import Derived.KernelRfl
import Derived.LoopTactic
import Derived.Deep.RegionWith
import Derived.Deep.RegionHeld3
import Derived.IntWalk
import Derived.Deep.DeepCutAuto
import Derived.Deep.CutBlock
import Derived.BigQuiet
import Derived.Laws.RangeString
import Derived.Laws.RangeAny
import Derived.Laws.Rows
import Derived.Laws.Runes
import Derived.Lib.OthersKept
import Derived.OpenShut
set_option linter.unusedVariables false
set_option linter.unusedSimpArgs false
namespace Go.Proofs.Ytgaggoglbkcomaa.Ext
open Go.RowKit Go.Lib Go.Proofs.YtgaggoglbkcomaaW.PrintWords Go.Proofs.YtgaggoglbkcomaaW.PrintMore Go.Proofs.Ytgaggoglbkcomaa.XRR

def joinL (a b : Int) : Int := Go.bits .or .u64 a b
def upJ (by_ : Int) (r : Rn) : Rn := ⟨joinL r.f0 by_, r.f1⟩
/-- The closure's own variables: add itself, and the label. -/
structure JC (w : World) (base pa pb b : Nat) (by_ : Int) : Prop where
  a : w.heap[pa]? = some (.cells #[addF b] 104 (0, 0))
  b : w.heap[pb]? = some (.cells #[.int .u64 by_] 27 (0, 0))
theorem JC.cells {w : World} {base pa pb b : Nat} {by_ : Int} (h : JC w base pa pb b by_) : w.cell? ⟨pa, 0, none⟩ = some (addF b) ∧ w.cell? ⟨pb, 0, none⟩ = some (.int .u64 by_) := ⟨cell_of_one h.a, cell_of_one h.b⟩
theorem KeepV2 {w w1 w2 : World} {b : Nat} {v : Value} (hx : w.heap[b]? = some (.cells #[v] 22 (0, 0))) (hb : Below w.heap.size w w1) (hk : Keep w1 w2 b) : Keep w w2 b :=
  KeepV.keep hx ((KeepV.of hb).trans (hk v ((hb.block b (Array.getElem?_eq_some_iff.1 hx).1).trans hx)))
theorem JC.below {w w' : World} {base pa pb b : Nat} {by_ : Int} (h : JC w base pa pb b by_) (hb : Below w.heap.size w w') : JC w' base pa pb b by_ :=
  ⟨(hb.block pa (Array.getElem?_eq_some_iff.1 h.a).1).trans h.a, (hb.block pb (Array.getElem?_eq_some_iff.1 h.b).1).trans h.b⟩
theorem JC.keep {w0 w w' : World} {base pa pb b : Nat} {by_ : Int} {xs : List Rn} (h : JC w base pa pb b by_) (hg : Gs w0 w base b xs) (hk : Keep w w' b) : JC w' base pa pb b by_ := by
  obtain ⟨v, e, hr⟩ := hg.out
  have k := hk v e
  have far : ∀ (i : Nat) (cs : Array Value) (t : TypeId), w.heap[i]? = some (.cells cs t (0, 0)) → t ≠ 29 → some i ≠ v.ownBlock := fun i cs t hi ht e2 => by
    obtain ⟨c2, x2⟩ := tyR hr i e2.symm
    exact ty_ne hi x2 ht rfl
  exact ⟨(k.k pa (Array.getElem?_eq_some_iff.1 h.a).1 (ty_ne h.a e (by decide)) (far _ _ _ h.a (by decide))).trans h.a, (k.k pb (Array.getElem?_eq_some_iff.1 h.b).1 (ty_ne h.b e (by decide)) (far _ _ _ h.b (by decide))).trans h.b⟩
/-- A block that was made behind the row stays, too. -/
theorem Gs.keep_new {w0 w w1 w' : World} {base b : Nat} {xs : List Rn} (hg : Gs w0 w base b xs) (hb : Below w.heap.size w w1) (hk : Keep w1 w' b) {i : Nat} {o : Obj} (hi : w.heap.size ≤ i) (hx : w1.heap[i]? = some o) : w'.heap[i]? = some o := by
  obtain ⟨v, e, hr⟩ := hg.out
  have hlb := hg.lt
  have e1 := (hb.block b hlb).trans e
  have k := hk v e1
  exact (k.k i (Array.getElem?_eq_some_iff.1 hx).1 (by omega) (Kd.fresh' (Kd.R_lt hr) i hi)).trans hx
attribute [local go_sem] mxO_int mnO_int max_two min_two
theorem JC.kt {w w' : World} {base pa pb b : Nat} {by_ : Int} (h : JC w base pa pb b by_) (hk : KT w w') : JC w' base pa pb b by_ := ⟨hk.k _ _ _ h.a (by decide) (by decide), hk.k _ _ _ h.b (by decide) (by decide)⟩
def rai (l : List Rn) (f t by_ : Int) : List Rn := someR t 4096 0 l (someR f t 0 (l.map (upJ by_)) (someR 0 f 0 l []))

end Go.Proofs.Ytgaggoglbkcomaa.Ext
