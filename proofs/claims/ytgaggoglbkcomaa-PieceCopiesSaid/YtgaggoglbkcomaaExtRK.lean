/- strip.View, by its walk. -/
import Derived.Test.YtgaggoglbkcomaaExtRJ
import Derived.Test.YtgaggoglbkcomaaXRRx2
import Derived.Test.YtgaggoglbkcomaaXRRx3
import Derived.Test.YtgaggoglbkcomaaXRRx4
import Derived.Test.YtgaggoglbkcomaaXRRx0
import Derived.Test.YtgaggoglbkcomaaWMore
import Derived.WalkKit
import Derived.WalkMore
import Derived.Below
import Derived.KernelRfl
import Derived.LoopTactic
import Derived.Deep.RegionWith
import Derived.Deep.RegionHeld3
import Derived.IntWalk
import Derived.Deep.DeepCutAuto
import Derived.Deep.CutBlock
import Derived.BigQuiet
import Derived.Laws.RangeString
import Derived.Laws.RangeAny
import Derived.Laws.Rows
import Derived.Laws.Runes
import Derived.Lib.OthersKept
import Derived.OpenShut
set_option linter.unusedVariables false
set_option linter.unusedSimpArgs false
namespace Go.Proofs.Ytgaggoglbkcomaa.Ext
open Go.RowKit Go.Lib Go.Proofs.YtgaggoglbkcomaaW.PrintWords Go.Proofs.YtgaggoglbkcomaaW.PrintMore Go.Proofs.Ytgaggoglbkcomaa.XRR

def belowB (a b : Int) : Bool := Go.bits .andNot .u64 a b == 0
def vf (L : Int) (x : Int) (b : UInt8) : UInt8 := if belowB x L = true then b else 35
/-- The bytes when those that bear P have been looked at. -/
def vst (L : Int) (bs : List UInt8) (P : List Int) : List UInt8 := List.zipWith (vf L) P bs ++ bs.drop P.length
theorem vst_len (L : Int) (bs : List UInt8) (P : List Int) (h : P.length ≤ bs.length) : (vst L bs P).length = bs.length := by
  unfold vst
  rw [List.length_append, List.length_zipWith, List.length_drop]
  omega
theorem vst_one (L : Int) (bs : List UInt8) (P : List Int) (x : Int) (h : P.length < bs.length) : vst L bs (P ++ [x]) = (vst L bs P).set P.length (vf L x bs[P.length]) := by
  unfold vst
  have hz : (List.zipWith (vf L) P bs).length = P.length := by rw [List.length_zipWith]; omega
  rw [List.set_append_right _ _ (by omega), hz, Nat.sub_self, List.drop_eq_getElem_cons h, List.set_cons_zero]
  have e : List.zipWith (vf L) (P ++ [x]) bs = List.zipWith (vf L) P bs ++ [vf L x bs[P.length]] := by
    conv => lhs; rw [show bs = bs.take P.length ++ bs.drop P.length from (List.take_append_drop _ _).symm]
    rw [List.zipWith_append (by rw [List.length_take]; omega), List.drop_eq_getElem_cons h]
    congr 1
    conv => rhs; rw [show bs = bs.take P.length ++ bs.drop P.length from (List.take_append_drop _ _).symm]
    rw [show P = P ++ [] from (List.append_nil _).symm, List.zipWith_append (by rw [List.append_nil, List.length_take]; omega)]
    simp
  rw [e, List.length_append, List.length_singleton, List.append_assoc]
  rfl
theorem vst_see (L : Int) (bs : List UInt8) (P : List Int) (x : Int) (h : P.length < bs.length) (hx : belowB x L = true) : vst L bs (P ++ [x]) = vst L bs P := by
  rw [vst_one L bs P x h]
  have hz : (List.zipWith (vf L) P bs).length = P.length := by rw [List.length_zipWith]; omega
  have hl : P.length < (vst L bs P).length := by rw [vst_len L bs P (by omega)]; exact h
  have e : (vst L bs P)[P.length]? = bs[P.length]? := by
    unfold vst
    rw [List.getElem?_append_right (by omega), hz, Nat.sub_self, List.getElem?_drop, Nat.add_zero]
  rw [List.getElem?_eq_getElem hl, List.getElem?_eq_getElem h] at e
  rw [show vf L x bs[P.length] = bs[P.length] by unfold vf; rw [if_pos hx], ← Option.some.inj e]
  exact List.set_getElem_self hl
theorem vst_hide (L : Int) (bs : List UInt8) (P : List Int) (x : Int) (h : P.length < bs.length) (hx : belowB x L = false) : vst L bs (P ++ [x]) = (vst L bs P).set P.length 35 := by
  rw [vst_one L bs P x h]
  congr 1
  unfold vf
  rw [hx]
  rfl
theorem vst_sees (L : Int) (bs : List UInt8) (P : List Int) (x : Int) (hx : belowB x L = true) : ∀ (n : Nat), P.length + n ≤ bs.length → vst L bs (P ++ List.replicate n x) = vst L bs P
  | 0, _ => by simp
  | n + 1, h => by
    rw [List.replicate_succ', ← List.append_assoc, vst_see L bs _ x (by rw [List.length_append, List.length_replicate]; omega) hx]
    exact vst_sees L bs P x hx n (by omega)
/-- A block of bytes, with the mark of a conversion. -/
structure Bk (w : World) (g : Nat) (bs : List UInt8) : Prop where
  x : ∃ (arr : Array Value) (hi : Nat), w.heap[g]? = some (.cells arr 5 (arr.size, hi)) ∧ bs.length ≤ arr.size ∧ ∀ (i : Nat) (h : i < bs.length), arr[i]? = some (.int .u8 (bs[i].toNat : Int))
theorem Bk.cell {w : World} {g : Nat} {bs : List UInt8} (h : Bk w g bs) (i : Nat) (hi : i < bs.length) : w.cell? ⟨g, i, none⟩ = some (.int .u8 (bs[i].toNat : Int)) ∧ w.frozen? ⟨g, i, none⟩ = false := by
  obtain ⟨arr, hi2, hx, hl, hv⟩ := h.x
  refine ⟨by rw [cell_of_row w g i _ _ _ hx]; exact hv i hi, ?_⟩
  unfold World.frozen?
  rw [hx]
  simp only
  rw [Bool.and_eq_false_iff]
  exact Or.inl (decide_eq_false (by omega))
theorem Bk.lt {w : World} {g : Nat} {bs : List UInt8} (h : Bk w g bs) : g < w.heap.size := by
  obtain ⟨arr, hi2, hx, hl, hv⟩ := h.x
  exact (Array.getElem?_eq_some_iff.1 hx).1
theorem Bk.set {w : World} {g : Nat} {bs : List UInt8} (h : Bk w g bs) (i : Nat) (v : UInt8) (hi : i < bs.length) : Bk (w.setCell ⟨g, i, none⟩ (.int .u8 (v.toNat : Int))) g (bs.set i v) := by
  obtain ⟨arr, hi2, hx, hl, hv⟩ := h.x
  refine ⟨arr.setIfInBounds i (.int .u8 (v.toNat : Int)), hi2, ?_, ?_, ?_⟩
  · rw [setCell_eq_setRow w g i arr _ _ _ hx]
    rw [Array.size_setIfInBounds]
    exact setRow_heap w g arr _ _ _ hx
  · rw [List.length_set, Array.size_setIfInBounds]; exact hl
  · intro j hj
    rw [List.length_set] at hj
    rw [Array.getElem?_setIfInBounds, List.getElem_set]
    by_cases e : i = j
    · subst e; rw [if_pos rfl, if_pos (by omega), if_pos rfl]
    · rw [if_neg e, if_neg e]; exact hv j hj
theorem Bk.below {w w' : World} {g : Nat} {bs : List UInt8} (h : Bk w g bs) (hb : Below w.heap.size w w') : Bk w' g bs := by
  obtain ⟨arr, hi2, hx, hl, hv⟩ := h.x
  exact ⟨arr, hi2, (hb.block g h.lt).trans hx, hl, hv⟩
theorem Bk.start (w : World) (s : ByteArray) : Bk (Lib.bytesWorld w 5 s) w.heap.size s.data.toList := by
  refine ⟨_, _, Lib.bytesWorld_at_new w _ s, ?_, ?_⟩
  · unfold Lib.bytesCells
    simp
  · intro i h
    have h2 := Lib.bytesWorld_cell w 5 s i (by rw [Array.length_toList] at h; exact h)
    rw [cell_of_row _ _ i _ _ _ (Lib.bytesWorld_at_new w _ s)] at h2
    rw [h2, List.getD_eq_getElem?_getD, List.getElem?_eq_getElem h]
    rfl
/-- What a level sees of a text. -/
def vieT (s : ByteArray) (l : List Rn) (L : Int) : ByteArray := ⟨(vst L s.data.toList (bytesR l)).toArray⟩

end Go.Proofs.Ytgaggoglbkcomaa.Ext
