/- caps: the law's alive, by its walk. -/
import Derived.Test.YtecbdhampjmlaaaExt17HG
import Derived.Test.YtecbdhampjmlaaaWMore
import Derived.WalkKit
import Derived.WalkMore
import Derived.Below
import Derived.KernelRfl
import Derived.LoopTactic
import Derived.Deep.RegionWith
import Derived.Deep.RegionHeld3
import Derived.IntWalk
import Derived.Deep.DeepCutAuto
import Derived.Deep.CutBlock
import Derived.BigQuiet
import Derived.Laws.RangeString
import Derived.Laws.RangeAny
import Derived.Laws.Rows
import Derived.Laws.Runes
import Derived.Lib.OthersKept
import Derived.OpenShut
set_option linter.unusedVariables false
set_option linter.unusedSimpArgs false
namespace Go.Proofs.Ytecbdhampjmlaaa.Ext
open Go.RowKit Go.Lib Go.Proofs.YtecbdhampjmlaaaW.PrintWords Go.Proofs.YtecbdhampjmlaaaW.PrintMore

theorem below_of_only {a w : World} {B : Nat} (h : a.grownBy w (some B)) (hB : a.heap.size ≤ B) : Below a.heap.size a w :=
  ⟨h.os, h.tape, h.output, h.size, fun i hi => h.block i hi (fun e => by injection e with e; omega)⟩
def l0_ : List Sl := List.replicate (2 : Int).toNat sl0
def l1_ : List Sl := [⟨1, true, ⟨5, 15, 1, 0, 0⟩⟩, sl0]
def l2_ : List Sl := [⟨1, true, ⟨5, 15, 1, 0, 0⟩⟩, ⟨1, true, ⟨5, 3, 2, 0, 1⟩⟩]
theorem em_ : mintZ 2 l0_ 5 15 1 = (l1_, 0, 1, 0) := rfl
theorem ed_ : deriveZ 2 l1_ 0 1 1 3 2 = (l2_, 1, 1, 0) := rfl
theorem el_ : lookZ l2_ 1 1 2 1 = (⟨5, 3, 2, 0, 1⟩, 0) := rfl
theorem er_ : (revokeZ l2_ 0 1).2 = (2, 0) := rfl
theorem cap_lay {w : World} {T : Nat} {a b c d e : Value} {t : TypeId} (h : w.heap[T]? = some (.cells #[a, b, c, d, e] t (0, 0))) : w.cell? ⟨T, 0, none⟩ = some a ∧ w.cell? ⟨T, 1, none⟩ = some b ∧ w.cell? ⟨T, 2, none⟩ = some c ∧ w.cell? ⟨T, 3, none⟩ = some d ∧ w.cell? ⟨T, 4, none⟩ = some e :=
  ⟨by rw [cell_of_row w T _ _ _ _ h]; rfl, by rw [cell_of_row w T _ _ _ _ h]; rfl, by rw [cell_of_row w T _ _ _ _ h]; rfl, by rw [cell_of_row w T _ _ _ _ h]; rfl, by rw [cell_of_row w T _ _ _ _ h]; rfl⟩
set_option maxRecDepth 100000 in
set_option maxHeartbeats 8000000 in
theorem alive_w (w : World) :
    Calls Try.prog 8 #[] w fun e w' => e = .returned (.bool true) ∧ Below w.heap.size w w' := by
  have HN := Aside0.mk (New_w 2 2 w (by decide) (by decide))
  have HM := Aside0.mk (fun (R B : Nat) (w1 : World) (h : TRow w1 R B l0_ 2) => show Calls _ _ _ _ (GiveP w1 R B 2 (l1_, 0, 1, 0)) from em_ ▸ Mint_w R B l0_ 2 5 15 1 w1 h)
  have HD := Aside0.mk (fun (R B : Nat) (w1 : World) (h : TRow w1 R B l1_ 2) => show Calls _ _ _ _ (GiveP w1 R B 2 (l2_, 1, 1, 0)) from ed_ ▸ Derive_w R B l1_ 2 0 1 1 3 2 w1 h)
  have HL := Aside0.mk (fun (R B : Nat) (w1 : World) (h : TRow w1 R B l2_ 2) => Look_w R B l2_ 2 1 1 2 1 w1 h)
  have HV := Aside0.mk (fun (R B : Nat) (w1 : World) (h : TRow w1 R B l2_ 2) => Revoke_w R B l2_ 2 0 1 w1 h)
  rw [el_] at HL
  rw [er_] at HV
  go_enter Try.func8, Try.ntmps8
  go_wp2_with (first
    | (go_at_call 9; (with_reducible refine HN.out.mono ?_); rintro e w1 ⟨R, B, hR, hB, rfl, hT1, hb1⟩; have HT1 := Aside0.mk hT1; have HB1 := Aside0.mk hb1; have ltR := hT1.ltR; have ltB := hT1.ltB; clear hT1 hb1)
    | (go_at_call 15; (with_reducible refine (HM.out R B _ HT1.out).mono ?_); rintro e w2 ⟨rfl, hT2, hG2⟩; have HT2 := Aside0.mk hT2; have HG2 := Aside0.mk (only_after HB1.out hG2); have ltR2 := hT2.ltR; have ltB2 := hT2.ltB; clear hT2 hG2)
    | (go_at_call 17; (with_reducible refine (HD.out R B _ (HT2.out.alloc _)).mono ?_); rintro e w3 ⟨rfl, hT3, hG3⟩; have x2 := only_cells hG3 (heap_alloc_new _ _) (by omega); have HT3 := Aside0.mk hT3; have HG3 := Aside0.mk (only_trans (only_alloc HG2.out _) hG3); have l23 : w2.heap.size < w3.heap.size := (Array.getElem?_eq_some_iff.1 x2).1; have ltB3 := hT3.ltB; have X2 := Aside0.mk x2; clear x2 hT3 hG3)
    | (go_at_call 13; (with_reducible refine (HL.out R B _ (HT3.out.alloc _)).mono ?_); rintro e w4 ⟨rfl, hb4⟩; have x4 := (hb4.block _ (Array.getElem?_eq_some_iff.1 (heap_alloc_new _ _)).1).trans (heap_alloc_new _ _); have x2 := (hb4.block _ (Nat.lt_trans l23 (Array.getElem?_eq_some_iff.1 (heap_alloc_new _ _)).1)).trans ((Below.heap_alloc _ _ _ l23).trans X2.out); have HT4 := Aside0.mk ((HT3.out.alloc _).below hb4); have HG4 := Aside0.mk (only_trans (only_alloc HG3.out _) (only_of_below hb4 _)); have l34 : w3.heap.size < w4.heap.size := (Array.getElem?_eq_some_iff.1 x4).1; have l24 : w2.heap.size < w4.heap.size := Nat.lt_trans l23 l34; obtain ⟨t0, t1, _, _⟩ := tok_lay x2; have X22 := Aside0.mk x2; have X44 := Aside0.mk x4; clear x2 x4 hb4)
    | (go_at_call 14; (with_reducible refine (HV.out R B _ (HT4.out.alloc _)).mono ?_); rintro e w5 ⟨rfl, hT5, hG5⟩; have x2 := only_cells hG5 ((Below.heap_alloc _ _ _ l24).trans X22.out) (by omega); have x4 := only_cells hG5 ((Below.heap_alloc _ _ _ l34).trans X44.out) (by omega); have x6 := only_cells hG5 (heap_alloc_new _ _) (by have := HT4.out.ltB; omega); clear t0 t1; obtain ⟨t0, t1, _, _⟩ := tok_lay x2; obtain ⟨s0, s1, _, _⟩ := tok_lay x4; obtain ⟨q0, q1, q2, q3, q4⟩ := cap_lay x6; have HG5 := Aside0.mk (only_trans (only_alloc HG4.out _) hG5); clear x2 x4 x6 hT5 hG5))
  go_ret
  exact ⟨rfl, below_of_only HG5.out hB⟩

end Go.Proofs.Ytecbdhampjmlaaa.Ext
