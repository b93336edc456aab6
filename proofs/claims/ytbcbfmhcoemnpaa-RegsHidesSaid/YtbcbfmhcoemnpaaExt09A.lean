/- regs: the row of registers in memory. -/
import Derived.Test.YtbcbfmhcoemnpaaExtRM
import Derived.Test.YtbcbfmhcoemnpaaXRRx2
import Derived.Test.YtbcbfmhcoemnpaaXRRx3
import Derived.Test.YtbcbfmhcoemnpaaXRRx4
import Derived.Test.YtbcbfmhcoemnpaaXRRx0
import Derived.Test.YtbcbfmhcoemnpaaWMore
import Derived.WalkKit
import Derived.WalkMore
import Derived.Below
import Derived.KernelRfl
import Derived.LoopTactic
import Derived.Deep.RegionWith
import Derived.Deep.RegionHeld3
import Derived.IntWalk
import Derived.Deep.DeepCutAuto
import Derived.Deep.CutBlock
import Derived.BigQuiet
import Derived.Laws.RangeString
import Derived.Laws.RangeAny
import Derived.Laws.Rows
import Derived.Laws.Runes
import Derived.Lib.OthersKept
import Derived.OpenShut
set_option linter.unusedVariables false
set_option linter.unusedSimpArgs false
namespace Go.Proofs.Ytbcbfmhcoemnpaa.Ext
open Go.RowKit Go.Lib Go.Proofs.YtbcbfmhcoemnpaaW.PrintWords Go.Proofs.YtbcbfmhcoemnpaaW.PrintMore Go.Proofs.Ytbcbfmhcoemnpaa.XRR

variable {bs : Nat}
/-- A register. -/
structure Hs where
  is : Bool
  s : ByteArray
  l : List Rn
  b : Bool
def hz : Hs := ⟨false, ⟨#[]⟩, [], false⟩
def slotC (h : Hs) (v : Value) : List Value := [.bool h.is, .string h.s, v, .bool h.b]
def rowC : List Hs → List Value → List Value
  | h :: g, v :: vs => slotC h v ++ rowC g vs
  | _, _ => []
abbrev nilS : Value := .slice none 0 0
abbrev gd (g : List Hs) (i : Nat) : Hs := g.getD i hz
abbrev vd (vs : List Value) (i : Nat) : Value := vs.getD i nilS
theorem rowC_get : ∀ (g : List Hs) (vs : List Value) (i j : Nat), vs.length = g.length → i < g.length → j < 4 → (rowC g vs)[i * 4 + j]? = (slotC (gd g i) (vd vs i))[j]?
  | [], _, i, j, _, hi, _ => by simp at hi
  | h :: g, [], i, j, hl, _, _ => by simp at hl
  | h :: g, v :: vs, 0, j, hl, hi, hj => by
    show (slotC h v ++ rowC g vs)[0 * 4 + j]? = (slotC h v)[j]?
    rw [Nat.zero_mul, Nat.zero_add]
    exact List.getElem?_append_left hj
  | h :: g, v :: vs, i + 1, j, hl, hi, hj => by
    have ih := rowC_get g vs i j (by simpa using hl) (by simpa using hi) hj
    show (slotC h v ++ rowC g vs)[(i + 1) * 4 + j]? = _
    rw [List.getElem?_append_right (by show (slotC h v).length ≤ _; show 4 ≤ _; omega), show (i + 1) * 4 + j - (slotC h v).length = i * 4 + j by show (i + 1) * 4 + j - 4 = _; omega, ih]
    rfl
theorem rowC_len : ∀ (g : List Hs) (vs : List Value), vs.length = g.length → (rowC g vs).length = g.length * 4
  | [], _, _ => rfl
  | h :: g, [], hl => by simp at hl
  | h :: g, v :: vs, hl => by
    show (slotC h v ++ rowC g vs).length = _
    rw [List.length_append, rowC_len g vs (by simpa using hl), List.length_cons]
    show 4 + _ = _
    omega
theorem rowC_set : ∀ (g : List Hs) (vs : List Value) (i : Nat) (x : Hs) (v : Value), vs.length = g.length → i < g.length →
    ((((rowC g vs).set (i * 4) (.bool x.is)).set (i * 4 + 1) (.string x.s)).set (i * 4 + 2) v).set (i * 4 + 3) (.bool x.b) = rowC (g.set i x) (vs.set i v)
  | [], _, i, _, _, _, hi => by simp at hi
  | h :: g, [], _, _, _, hl, _ => by simp at hl
  | h :: g, u :: vs, 0, x, v, hl, hi => by
    simp [rowC, slotC]
  | h :: g, u :: vs, i + 1, x, v, hl, hi => by
    have ih := rowC_set g vs i x v (by simpa using hl) (by simpa using hi)
    have hs : (slotC h u).length = 4 := rfl
    have e : ∀ (m : Nat) (L : List Value) (y : Value), (slotC h u ++ L).set (4 + m) y = slotC h u ++ L.set m y := fun m L y => by
      rw [List.set_append_right _ _ (by omega), hs, show 4 + m - 4 = m by omega]
    show ((((slotC h u ++ rowC g vs).set ((i + 1) * 4) _).set ((i + 1) * 4 + 1) _).set ((i + 1) * 4 + 2) _).set ((i + 1) * 4 + 3) _ = slotC h u ++ rowC (g.set i x) (vs.set i v)
    rw [show (i + 1) * 4 = 4 + i * 4 by omega, show 4 + i * 4 + 1 = 4 + (i * 4 + 1) by omega, show 4 + i * 4 + 2 = 4 + (i * 4 + 2) by omega, show 4 + i * 4 + 3 = 4 + (i * 4 + 3) by omega, e, e, e, e, ih]
def regC (g : List Hs) (vs : List Value) : Array Value := (Value.bool true :: rowC g vs).toArray
/-- Registers in memory, and what their slices have. -/
structure RG (bs : Nat) (w : World) (B : Nat) (g : List Hs) (vs : List Value) : Prop where
  x : w.heap[B]? = some (.cells (regC g vs) 53 (0, 0))
  n : g.length = 38
  m : vs.length = 38
  r : ∀ i, i < 38 → Kd.R k58 58 w bs (fun _ => True) (vd vs i) (gd g i).l
  lb : bs ≤ w.heap.size
theorem RG.lt {w : World} {B : Nat} {g : List Hs} {vs : List Value} (h : RG bs w B g vs) : B < w.heap.size := (Array.getElem?_eq_some_iff.1 h.x).1
theorem regC_get (g : List Hs) (vs : List Value) (hn : g.length = 38) (hm : vs.length = 38) (i j : Nat) (hi : i < 38) (hj : j < 4) : (regC g vs)[1 + i * 4 + j]? = (slotC (gd g i) (vd vs i))[j]? := by
  unfold regC
  rw [List.getElem?_toArray, show 1 + i * 4 + j = (i * 4 + j) + 1 by omega, List.getElem?_cons_succ]
  exact rowC_get g vs i j (by omega) (by omega) hj
theorem RG.cells {w : World} {B : Nat} {g : List Hs} {vs : List Value} (h : RG bs w B g vs) (i : Nat) (hi : i < 38) :
    w.cell? ⟨B, 1 + i * 4, none⟩ = some (.bool (gd g i).is) ∧ w.cell? ⟨B, 1 + i * 4 + 1, none⟩ = some (.string (gd g i).s) ∧ w.cell? ⟨B, 1 + i * 4 + 2, none⟩ = some (vd vs i) ∧ w.cell? ⟨B, 1 + i * 4 + 3, none⟩ = some (.bool (gd g i).b) := by
  have c := fun (j : Nat) (hj : j < 4) => (cell_of_row w B (1 + i * 4 + j) _ _ _ h.x).trans (regC_get g vs h.n h.m i j hi hj)
  exact ⟨c 0 (by decide), c 1 (by decide), c 2 (by decide), c 3 (by decide)⟩
theorem RG.made {w : World} {B : Nat} {g : List Hs} {vs : List Value} (h : RG bs w B g vs) : w.cell? ⟨B, 0, none⟩ = some (.bool true) := by
  rw [cell_of_row w B 0 _ _ _ h.x]
  rfl
theorem RG.free {w : World} {B : Nat} {g : List Hs} {vs : List Value} (h : RG bs w B g vs) (j : Nat) : w.frozen? ⟨B, j, none⟩ = false := frozen_of_row w B j _ _ h.x
theorem RG.below {w w' : World} {B : Nat} {g : List Hs} {vs : List Value} (h : RG bs w B g vs) (hb : Below w.heap.size w w') : RG bs w' B g vs :=
  ⟨(hb.block B h.lt).trans h.x, h.n, h.m, fun i hi => Kd.R_below (h.r i hi) hb, Nat.le_trans h.lb hb.size⟩
/-- A slice of runs stays what it is where only the registers' block has turned. -/
theorem keep_runs {w w' : World} {base B : Nat} {ok : Nat → Prop} {v : Value} {xs : List Rn} {cs : Array Value} (h : Kd.R k58 58 w base ok v xs) (hB : w.heap[B]? = some (.cells cs 53 (0, 0))) (hG : w.grownBy w' (some B)) : Kd.R k58 58 w' base ok v xs :=
  Kd.R_mono (Kd.R_step (Kd.R_types h hB (fun q hq => by
    rcases List.mem_cons.1 hq with e | e
    · rw [e]; decide
    · exact (List.not_mem_nil e).elim)) (fun k hk hlt => hG.block k hlt (fun e => hk.2 (by injection e)))) (fun _ hk => hk.1)
/-- The four stores of a register. -/
abbrev put4 (w : World) (B i : Nat) (x : Hs) (v : Value) : World := (((w.setCell ⟨B, 1 + i * 4, none⟩ (.bool x.is)).setCell ⟨B, 1 + i * 4 + 1, none⟩ (.string x.s)).setCell ⟨B, 1 + i * 4 + 2, none⟩ v).setCell ⟨B, 1 + i * 4 + 3, none⟩ (.bool x.b)
theorem put4_far (w : World) (B i : Nat) (x : Hs) (v : Value) (k : Nat) (h : k ≠ B) : (put4 w B i x v).heap[k]? = w.heap[k]? := by
  unfold put4
  rw [heap_setCell_other _ _ _ _ (by exact h), heap_setCell_other _ _ _ _ (by exact h), heap_setCell_other _ _ _ _ (by exact h), heap_setCell_other _ _ _ _ (by exact h)]
theorem RG.put {w : World} {B : Nat} {g : List Hs} {vs : List Value} (h : RG bs w B g vs) (i : Nat) (hi : i < 38) (x : Hs) (v : Value) (hr : Kd.R k58 58 w bs (fun _ => True) v x.l) : RG bs (put4 w B i x v) B (g.set i x) (vs.set i v) := by
  have keep : ∀ {u : Value} {xs : List Rn}, Kd.R k58 58 w bs (fun _ => True) u xs → Kd.R k58 58 (put4 w B i x v) bs (fun _ => True) u xs := fun hu =>
    Kd.R_mono (Kd.R_move (Kd.R_types hu h.x (fun q hq => by
      rcases List.mem_cons.1 hq with e | e
      · rw [e]; decide
      · exact (List.not_mem_nil e).elim)) (fun k hk => put4_far w B i x v k hk.2)) (fun _ hk => hk.1)
  have hn := h.n
  have hm := h.m
  refine ⟨?_, by rw [List.length_set]; exact hn, by rw [List.length_set]; exact hm, fun j hj => ?_, by simpa [put4] using h.lb⟩
  · have h1 := heap_setCell_same w B (1 + i * 4) _ _ (.bool x.is) h.x
    have h2 := heap_setCell_same _ B (1 + i * 4 + 1) _ _ (.string x.s) h1
    have h3 := heap_setCell_same _ B (1 + i * 4 + 2) _ _ v h2
    have h4 := heap_setCell_same _ B (1 + i * 4 + 3) _ _ (.bool x.b) h3
    have ea : ((((regC g vs).setIfInBounds (1 + i * 4) (.bool x.is)).setIfInBounds (1 + i * 4 + 1) (.string x.s)).setIfInBounds (1 + i * 4 + 2) v).setIfInBounds (1 + i * 4 + 3) (.bool x.b) = regC (g.set i x) (vs.set i v) := by
      unfold regC
      rw [List.setIfInBounds_toArray, List.setIfInBounds_toArray, List.setIfInBounds_toArray, List.setIfInBounds_toArray]
      rw [show 1 + i * 4 = (i * 4) + 1 by omega, show i * 4 + 1 + 1 = (i * 4 + 1) + 1 from rfl, show i * 4 + 1 + 2 = (i * 4 + 2) + 1 by omega, show i * 4 + 1 + 3 = (i * 4 + 3) + 1 by omega, List.set_cons_succ, List.set_cons_succ, List.set_cons_succ, List.set_cons_succ, rowC_set g vs i x v (by omega) (by omega)]
    rw [ea] at h4
    exact h4
  · by_cases e : i = j
    · subst e
      have e1 : vd (vs.set i v) i = v := by simp [List.getD_eq_getElem?_getD, List.getElem?_set_self (show i < vs.length by omega)]
      have e2 : gd (g.set i x) i = x := by simp [List.getD_eq_getElem?_getD, List.getElem?_set_self (show i < g.length by omega)]
      rw [e1, e2]
      exact keep hr
    · have e1 : vd (vs.set i v) j = vd vs j := by simp [List.getD_eq_getElem?_getD, List.getElem?_set_ne e]
      have e2 : gd (g.set i x) j = gd g j := by simp [List.getD_eq_getElem?_getD, List.getElem?_set_ne e]
      rw [e1, e2]
      exact keep (h.r j hj)
theorem zeroRegs (w : World) : (zeroValue 53).run Try.prog w = .ok (.agg (Value.bool false :: rowC (List.replicate 38 hz) (List.replicate 38 nilS)).toArray) w := by
  have h : (Try.prog.info? 53).map (fun i => i.zero) = some (some (.agg (Value.bool false :: rowC (List.replicate 38 hz) (List.replicate 38 nilS)).toArray)) := by kernel_rfl
  cases e : Try.prog.info? 53 with
  | none => rw [e] at h; cases h
  | some i =>
    rw [e] at h
    have h2 : i.zero = some (.agg (Value.bool false :: rowC (List.replicate 38 hz) (List.replicate 38 nilS)).toArray) := Option.some.inj h
    simp [zeroValue, typeInfo, e, h2, Result.andThen]
set_option maxRecDepth 100000 in
set_option maxHeartbeats 8000000 in
theorem new_w (w : World) (hbs : bs ≤ w.heap.size) : Calls Try.prog 8 #[] w fun e w' => e = .returned (.pointer (some ⟨w.heap.size, 0, none⟩)) ∧ RG bs w' w.heap.size (List.replicate 38 hz) (List.replicate 38 nilS) ∧ Below w.heap.size w w' := by
  have kz := zeroRegs
  have ln : (rowC (List.replicate 38 hz) (List.replicate 38 nilS)).length = 152 := by rw [rowC_len] <;> simp
  obtain ⟨R0, h0⟩ : ∃ R0, R0 = rowC (List.replicate 38 hz) (List.replicate 38 nilS) := ⟨_, rfl⟩
  rw [← h0] at kz ln
  have h0 : Aside0 (R0 = rowC (List.replicate 38 hz) (List.replicate 38 nilS)) := ⟨h0⟩
  go_enter Try.func8, Try.ntmps8
  go_wp2
  go_ret
  refine ⟨rfl, ⟨?_, by simp, by simp, fun i hi => ?_, Nat.le_trans hbs (below_alloc (Below.refl _ _) _).size⟩, below_alloc (Below.refl _ _) _⟩
  · rw [regC]
    exact heap_alloc_new _ _
  · rw [vd, gd, List.getD_eq_getElem?_getD, List.getD_eq_getElem?_getD, List.getElem?_replicate, List.getElem?_replicate, if_pos hi, if_pos hi]
    exact Kd.R_nil _ _ _ _ _

end Go.Proofs.Ytbcbfmhcoemnpaa.Ext
