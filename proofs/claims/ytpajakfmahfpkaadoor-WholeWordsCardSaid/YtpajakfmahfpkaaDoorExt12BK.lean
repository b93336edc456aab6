/- The walker of 'move': its methods, each by its walk. -/
import Derived.Test.YtpajakfmahfpkaaDoorExt12AK
import Derived.Test.YtpajakfmahfpkaaDoorWMore
import Derived.WalkKit
import Derived.WalkMore
import Derived.Below
import Derived.KernelRfl
import Derived.LoopTactic
import Derived.Deep.RegionWith
import Derived.Deep.RegionHeld3
import Derived.IntWalk
import Derived.Deep.DeepCutAuto
import Derived.Deep.CutBlock
import Derived.BigQuiet
import Derived.Laws.RangeString
import Derived.Laws.RangeAny
import Derived.Laws.Rows
import Derived.Laws.Runes
import Derived.Lib.OthersKept
import Derived.OpenShut
set_option linter.unusedVariables false
set_option linter.unusedSimpArgs false
namespace Go.Proofs.YtpajakfmahfpkaaDoor.Ext
open Go.RowKit Go.Lib Go.Proofs.YtpajakfmahfpkaaDoorW.PrintWords Go.Proofs.YtpajakfmahfpkaaDoorW.PrintMore

structure Wk where
  s : ByteArray
  a : Int
  n : Int
  line : Int
  f : Int
  t : Int
def mcs (k : Wk) : Array Value := #[.string k.s, .int .i64 k.a, .int .i64 k.n, .int .i64 k.line, .int .i64 k.f, .int .i64 k.t]
def WRow (w : World) (R : Nat) (k : Wk) : Prop := w.heap[R]? = some (.cells (mcs k) 50 (0, 0))
theorem WRow.cells {w : World} {R : Nat} {k : Wk} (h : WRow w R k) :
    w.cell? ⟨R, 0, none⟩ = some (.string k.s) ∧ w.cell? ⟨R, 1, none⟩ = some (.int .i64 k.a) ∧ w.cell? ⟨R, 2, none⟩ = some (.int .i64 k.n) ∧ w.cell? ⟨R, 3, none⟩ = some (.int .i64 k.line) ∧ w.cell? ⟨R, 4, none⟩ = some (.int .i64 k.f) ∧ w.cell? ⟨R, 5, none⟩ = some (.int .i64 k.t) := by
  refine ⟨?_, ?_, ?_, ?_, ?_, ?_⟩ <;> (rw [cell_of_row w R _ _ _ _ h]; rfl)
theorem WRow.lt {w : World} {R : Nat} {k : Wk} (h : WRow w R k) : R < w.heap.size := (Array.getElem?_eq_some_iff.1 h).1
theorem WRow.below {w w' : World} {R : Nat} {k : Wk} (h : WRow w R k) (hb : Below w.heap.size w w') : WRow w' R k := by
  unfold WRow; rw [hb.block R h.lt]; exact h
def clsZ (s : ByteArray) (a : Int) : Int := if a < 0 then -1 else if a ≥ (s.size : Int) then -1 else classZ (runeZ s a)
def begZ (s : ByteArray) (a : Int) : Bool := (clsZ s a == 1 || clsZ s a == 2) && (a == 0 || clsZ s (prevZ s a) != clsZ s a)
def finZ (s : ByteArray) (a : Int) : Bool := (clsZ s a == 1 || clsZ s a == 2) && (clsZ s (nextZ s a) != clsZ s a)
def empZ (s : ByteArray) (a : Int) : Bool := (a == 0 || bt s (a - 1) == 10) && (a == (s.size : Int) || bt s a == 10)
set_option maxRecDepth 100000 in
set_option maxHeartbeats 2000000 in
theorem class_w (R : Nat) (k : Wk) (a : Int) (w : World) (hs : k.s.size < 1000000) (hR : WRow w R k) (hT : Tabs w) :
    Calls Tryd.prog 69 #[.pointer (some ⟨R, 0, none⟩), .int .i64 a] w fun e w' => e = .returned (.int .i64 (clsZ k.s a)) ∧ Below w.heap.size w w' := by
  obtain ⟨h0, h1, h2, h3, h4, h5⟩ := hR.cells
  have HT := Aside0.mk hT
  have HA := Aside0.mk (At_w k.s hs a w hT)
  clear hT hR
  by_cases c1 : a < 0
  · have E : clsZ k.s a = -1 := by unfold clsZ; rw [if_pos c1]
    have cb : decide (a < 0) = true := decide_eq_true c1
    rw [E]
    clear E
    go_enter Tryd.func69, Tryd.ntmps69
    go_wp2
    go_ret
    exact ⟨rfl, Below.refl _ _⟩
  · have cb : decide (a < 0) = false := decide_eq_false c1
    by_cases c2 : a ≥ (k.s.size : Int)
    · have E : clsZ k.s a = -1 := by unfold clsZ; rw [if_neg c1, if_pos c2]
      have cb2 : decide ((k.s.size : Int) ≤ a) = true := decide_eq_true c2
      rw [E]
      clear E c1
      go_enter Tryd.func69, Tryd.ntmps69
      go_wp2
      go_ret
      exact ⟨rfl, Below.refl _ _⟩
    · have E : clsZ k.s a = classZ (runeZ k.s a) := by unfold clsZ; rw [if_neg c1, if_neg c2]
      have cb2 : decide ((k.s.size : Int) ≤ a) = false := decide_eq_false c2
      rw [E]
      clear E c1 c2
      go_enter Tryd.func69, Tryd.ntmps69
      go_wp2_with (first
        | (go_at_call 53; refine HA.out.mono ?_; rintro e w1 ⟨rfl, hb1⟩)
        | (go_at_call 54; refine (Class_w _ w1 (HT.out.below hb1 (Nat.le_refl _))).mono ?_; rintro e w2 ⟨rfl, hb2⟩))
      go_ret
      exact ⟨rfl, hb1.trans (hb2.mono hb1.size)⟩
set_option maxRecDepth 100000 in
set_option maxHeartbeats 4000000 in
theorem begins_w (R : Nat) (k : Wk) (a : Int) (w : World) (hs : k.s.size < 1000000) (hR : WRow w R k) (hT : Tabs w) :
    Calls Tryd.prog 73 #[.pointer (some ⟨R, 0, none⟩), .int .i64 a] w fun e w' => e = .returned (.bool (begZ k.s a)) ∧ Below w.heap.size w w' := by
  have HR := Aside0.mk hR
  have HT := Aside0.mk hT
  have HC := Aside0.mk (class_w R k a w hs hR hT)
  have HP := Aside0.mk (fun w1 hT1 => Prev_w k.s hs a w1 hT1)
  have HC2 := Aside0.mk (fun w2 hR2 hT2 => class_w R k (prevZ k.s a) w2 hs hR2 hT2)
  clear hT hR
  have E : begZ k.s a = ((clsZ k.s a == 1 || clsZ k.s a == 2) && (a == 0 || clsZ k.s (prevZ k.s a) != clsZ k.s a)) := rfl
  rw [E]
  clear E
  generalize clsZ k.s (prevZ k.s a) = c2 at HC2 ⊢
  generalize clsZ k.s a = c at HC ⊢
  generalize prevZ k.s a = p at HP HC2
  cases b1 : (c == 1) <;> cases b2 : (c == 2) <;> cases b3 : (a == 0) <;>
    simp only [Bool.true_or, Bool.false_or, Bool.or_true, Bool.true_and, Bool.false_and, Bool.or_self] <;>
    first
    | (go_enter Tryd.func73, Tryd.ntmps73
       go_wp2_with (go_at_call 69; with_reducible refine HC.out.mono ?_; rintro e w1 ⟨rfl, hb1⟩)
       go_ret
       exact ⟨rfl, hb1⟩)
    | (go_enter Tryd.func73, Tryd.ntmps73
       go_wp2_with (first
         | (go_at_call 69; with_reducible refine HC.out.mono ?_; rintro e w1 ⟨rfl, hb1⟩; have hR1 := HR.out.below hb1; obtain ⟨h0, h1, h2, h3, h4, h5⟩ := hR1.cells)
         | (go_at_call 35; refine (HP.out w1 (HT.out.below hb1 (Nat.le_refl _))).mono ?_; rintro e w2 ⟨rfl, hb2⟩)
         | (go_at_call 69; with_reducible refine (HC2.out w2 (hR1.below hb2) ((HT.out.below hb1 (Nat.le_refl _)).below hb2 (Nat.le_refl _))).mono ?_; rintro e w3 ⟨rfl, hb3⟩))
       go_ret
       exact ⟨rfl, (hb1.trans (hb2.mono hb1.size)).trans (hb3.mono (Nat.le_trans hb1.size hb2.size))⟩)
set_option maxRecDepth 100000 in
set_option maxHeartbeats 4000000 in
theorem ends_w (R : Nat) (k : Wk) (a : Int) (w : World) (hs : k.s.size < 1000000) (hR : WRow w R k) (hT : Tabs w) :
    Calls Tryd.prog 36 #[.pointer (some ⟨R, 0, none⟩), .int .i64 a] w fun e w' => e = .returned (.bool (finZ k.s a)) ∧ Below w.heap.size w w' := by
  have HR := Aside0.mk hR
  have HT := Aside0.mk hT
  have HC := Aside0.mk (class_w R k a w hs hR hT)
  have HP := Aside0.mk (fun w1 hT1 => Next_w k.s hs a w1 hT1)
  have HC2 := Aside0.mk (fun w2 hR2 hT2 => class_w R k (nextZ k.s a) w2 hs hR2 hT2)
  clear hT hR
  have E : finZ k.s a = ((clsZ k.s a == 1 || clsZ k.s a == 2) && (clsZ k.s (nextZ k.s a) != clsZ k.s a)) := rfl
  rw [E]
  clear E
  generalize clsZ k.s (nextZ k.s a) = c2 at HC2 ⊢
  generalize clsZ k.s a = c at HC ⊢
  generalize nextZ k.s a = p at HP HC2
  cases b1 : (c == 1) <;> cases b2 : (c == 2) <;>
    simp only [Bool.true_or, Bool.false_or, Bool.or_true, Bool.true_and, Bool.false_and, Bool.or_self] <;>
    first
    | (go_enter Tryd.func36, Tryd.ntmps36
       go_wp2_with (go_at_call 69; with_reducible refine HC.out.mono ?_; rintro e w1 ⟨rfl, hb1⟩)
       go_ret
       exact ⟨rfl, hb1⟩)
    | (go_enter Tryd.func36, Tryd.ntmps36
       go_wp2_with (first
         | (go_at_call 69; with_reducible refine HC.out.mono ?_; rintro e w1 ⟨rfl, hb1⟩; have hR1 := HR.out.below hb1; obtain ⟨h0, h1, h2, h3, h4, h5⟩ := hR1.cells)
         | (go_at_call 68; refine (HP.out w1 (HT.out.below hb1 (Nat.le_refl _))).mono ?_; rintro e w2 ⟨rfl, hb2⟩)
         | (go_at_call 69; with_reducible refine (HC2.out w2 (hR1.below hb2) ((HT.out.below hb1 (Nat.le_refl _)).below hb2 (Nat.le_refl _))).mono ?_; rintro e w3 ⟨rfl, hb3⟩))
       go_ret
       exact ⟨rfl, (hb1.trans (hb2.mono hb1.size)).trans (hb3.mono (Nat.le_trans hb1.size hb2.size))⟩)
set_option maxRecDepth 100000 in
theorem any_w (a : Int) (w : World) : Calls Tryd.prog 72 #[.int .i64 a] w fun e w' => e = .returned (.bool true) ∧ Below w.heap.size w w' := by
  go_enter Tryd.func72, Tryd.ntmps72
  go_wp2
  go_ret
  exact ⟨rfl, Below.refl _ _⟩
set_option maxRecDepth 100000 in
set_option maxHeartbeats 2000000 in
theorem is_w (R b2 b3 : Nat) (k : Wk) (g a : Int) (w : World) (hs : k.s.size < 1000000) (hR : WRow w R k) (hT : Tabs w) (k2 : w.cell? ⟨b2, 0, none⟩ = some (.pointer (some ⟨R, 0, none⟩))) (k3 : w.cell? ⟨b3, 1, none⟩ = some (.int .i32 g)) :
    Calls Tryd.prog 70 #[.int .i64 a, .pointer (some ⟨b2, 0, none⟩), .pointer (some ⟨b3, 0, none⟩)] w fun e w' => e = .returned (.bool (runeZ k.s a == g)) ∧ Below w.heap.size w w' := by
  obtain ⟨h0, h1, h2, h3, h4, h5⟩ := hR.cells
  have HA := Aside0.mk (At_w k.s hs a w hT)
  have l3 : b3 < w.heap.size := World.block_lt_of_cell? w _ k3
  clear hT hR
  generalize runeZ k.s a = r at HA ⊢
  go_enter Tryd.func70, Tryd.ntmps70
  go_wp2_with (go_at_call 53; refine HA.out.mono ?_; rintro e w1 ⟨rfl, hb1⟩; have k3' := (hb1.cell (p := ⟨b3, 1, none⟩) l3).trans k3)
  go_ret
  exact ⟨rfl, hb1⟩

end Go.Proofs.YtpajakfmahfpkaaDoor.Ext
