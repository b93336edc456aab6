/- caps: free, some, find, by their walks. -/
import Derived.Test.YtecbdhampjmlaaaExt17AG
import Derived.Test.YtecbdhampjmlaaaWMore
import Derived.WalkKit
import Derived.WalkMore
import Derived.Below
import Derived.KernelRfl
import Derived.LoopTactic
import Derived.Deep.RegionWith
import Derived.Deep.RegionHeld3
import Derived.IntWalk
import Derived.Deep.DeepCutAuto
import Derived.Deep.CutBlock
import Derived.BigQuiet
import Derived.Laws.RangeString
import Derived.Laws.RangeAny
import Derived.Laws.Rows
import Derived.Laws.Runes
import Derived.Lib.OthersKept
import Derived.OpenShut
set_option linter.unusedVariables false
set_option linter.unusedSimpArgs false
namespace Go.Proofs.Ytecbdhampjmlaaa.Ext
open Go.RowKit Go.Lib Go.Proofs.YtecbdhampjmlaaaW.PrintWords Go.Proofs.YtecbdhampjmlaaaW.PrintMore

abbrev vS (s : Sl) : Value := .agg #[.int .i64 s.gen, .bool s.alive, .int .i64 s.cap.obj, .int .i64 s.cap.rights, .int .i64 s.cap.owner, .int .i64 s.cap.us, .int .i64 s.cap.ug]
set_option maxRecDepth 100000 in
set_option maxHeartbeats 2000000 in
theorem free_w (R B : Nat) (l : List Sl) (g : Int) (s : Sl) (w : World) (h : TRow w R B l g) :
    Calls Try.prog 34 #[.pointer (some ⟨R, 0, none⟩), vS s] w fun e w' => e = .returned (.bool (freeS g s)) ∧ Below w.heap.size w w' := by
  have lt := h.ltR
  have c1 := h.c1
  clear h
  obtain ⟨gen, alive, obj, rights, owner, us, ug⟩ := s
  cases alive
  · have e : freeS g ⟨gen, false, ⟨obj, rights, owner, us, ug⟩⟩ = decide (gen < g) := rfl
    rw [e]
    clear e
    go_enter Try.func34, Try.ntmps34
    go_wp2
    go_quiet (fail)
    go_wp2
    go_ret
    exact ⟨rfl, by repeat (first | exact Below.refl _ _ | apply pw_below_drewN | exact (Below.refl _ _).alloc (Nat.le_refl _) _)⟩
  · have e : freeS g ⟨gen, true, ⟨obj, rights, owner, us, ug⟩⟩ = false := rfl
    rw [e]
    clear e
    go_enter Try.func34, Try.ntmps34
    go_wp2
    go_quiet (fail)
    go_wp2
    go_ret
    exact ⟨rfl, by repeat (first | exact Below.refl _ _ | apply pw_below_drewN | exact (Below.refl _ _).alloc (Nat.le_refl _) _)⟩
def someZ (r : Int) : Bool := decide (1 ≤ r ∧ r ≤ 15)
theorem some_w (r : Int) (w : World) :
    Calls Try.prog 28 #[.int .i64 r] w fun e w' => e = .returned (.bool (someZ r)) ∧ w = w' := by
  by_cases c : 1 ≤ r
  · have e : someZ r = decide (r ≤ 15) := decide_eq_decide.2 ⟨fun h => h.2, fun h => ⟨c, h⟩⟩
    have cb : decide (1 ≤ r) = true := decide_eq_true c
    rw [e]
    clear e c
    go_enter Try.func28, Try.ntmps28
    go_wp2
    go_ret
    exact ⟨rfl, rfl⟩
  · have e : someZ r = false := decide_eq_false (fun h => c h.1)
    have cb : decide (1 ≤ r) = false := decide_eq_false c
    rw [e]
    clear e c
    go_enter Try.func28, Try.ntmps28
    go_wp2
    go_ret
    exact ⟨rfl, rfl⟩
abbrev vK (ks kg : Int) : Value := .agg #[.int .i64 ks, .int .i64 kg]
set_option maxRecDepth 100000 in
set_option maxHeartbeats 2000000 in
theorem find_no6 (R B : Nat) (l : List Sl) (g ks kg : Int) (w : World) (h : TRow w R B l g) (hk : ks < 0 ∨ (l.length : Int) ≤ ks) :
    Calls Try.prog 27 #[.pointer (some ⟨R, 0, none⟩), vK ks kg] w fun e w' => e = .returned (.tuple #[.pointer none, .int .i64 6]) ∧ Below w.heap.size w w' := by
  have lt := h.ltR
  obtain ⟨cc0, hcc0, c0⟩ := h.c0
  have n := h.n
  clear h
  by_cases k0 : ks < 0
  · have cb : decide (ks < 0) = true := decide_eq_true k0
    clear hk k0
    go_enter Try.func27, Try.ntmps27
    go_wp2
    go_quiet (fail)
    go_wp2
    go_ret2
    exact ⟨rfl, by repeat (first | exact Below.refl _ _ | apply pw_below_drewN | exact (Below.refl _ _).alloc (Nat.le_refl _) _)⟩
  · have cb : decide (ks < 0) = false := decide_eq_false k0
    have cb2 : decide ((l.length : Int) ≤ ks) = true := decide_eq_true (by omega)
    clear hk k0
    go_enter Try.func27, Try.ntmps27
    go_wp2
    go_quiet (fail)
    go_wp2
    go_ret2
    exact ⟨rfl, by repeat (first | exact Below.refl _ _ | apply pw_below_drewN | exact (Below.refl _ _).alloc (Nat.le_refl _) _)⟩
set_option maxRecDepth 100000 in
set_option maxHeartbeats 2000000 in
theorem find_no7 (R B : Nat) (l : List Sl) (g : Int) (i : Nat) (kg : Int) (w : World) (h : TRow w R B l g) (hi : i < l.length) (hk : (atS l i).alive = false ∨ (atS l i).gen ≠ kg) :
    Calls Try.prog 27 #[.pointer (some ⟨R, 0, none⟩), vK (i : Int) kg] w fun e w' => e = .returned (.tuple #[.pointer none, .int .i64 7]) ∧ Below w.heap.size w w' := by
  have lt := h.ltR
  have ltB := h.ltB
  obtain ⟨cc0, hcc0, c0⟩ := h.c0
  have n := h.n
  have d0 := h.at_ i 0 hi (by decide)
  have d1 := h.at_ i 1 hi (by decide)
  clear h
  generalize atS l i = s at *
  obtain ⟨gen, alive, obj, rights, owner, us, ug⟩ := s
  simp only [csl, List.getElem?_cons_zero, List.getElem?_cons_succ, Nat.add_zero] at d0 d1
  have cb : decide ((i : Int) < 0) = false := decide_eq_false (by omega)
  have cb2 : decide (l.length ≤ i) = false := decide_eq_false (by omega)
  have cb3 : decide ((l.length : Int) ≤ (i : Int)) = false := decide_eq_false (by omega)
  cases alive
  · clear hk
    go_enter Try.func27, Try.ntmps27
    go_wp2
    go_quiet (fail)
    go_wp2
    go_quiet (fail)
    go_wp2
    go_ret2
    exact ⟨rfl, by repeat (first | exact Below.refl _ _ | apply pw_below_drewN | exact (Below.refl _ _).alloc (Nat.le_refl _) _)⟩
  · have cb4 : (gen != kg) = true := bne_iff_ne.2 (by rcases hk with h | h; cases h; exact h)
    clear hk
    go_enter Try.func27, Try.ntmps27
    go_wp2
    go_quiet (fail)
    go_wp2
    go_quiet (fail)
    go_wp2
    go_ret2
    exact ⟨rfl, by repeat (first | exact Below.refl _ _ | apply pw_below_drewN | exact (Below.refl _ _).alloc (Nat.le_refl _) _)⟩
set_option maxRecDepth 100000 in
set_option maxHeartbeats 2000000 in
theorem find_ok (R B : Nat) (l : List Sl) (g : Int) (i : Nat) (w : World) (h : TRow w R B l g) (hi : i < l.length) (hk : (atS l i).alive = true) :
    Calls Try.prog 27 #[.pointer (some ⟨R, 0, none⟩), vK (i : Int) (atS l i).gen] w fun e w' => e = .returned (.tuple #[.pointer (some ⟨B, i * 7, none⟩), .int .i64 0]) ∧ Below w.heap.size w w' := by
  have lt := h.ltR
  have ltB := h.ltB
  obtain ⟨cc0, hcc0, c0⟩ := h.c0
  have n := h.n
  have d0 := h.at_ i 0 hi (by decide)
  have d1 := h.at_ i 1 hi (by decide)
  clear h
  generalize atS l i = s at *
  obtain ⟨gen, alive, obj, rights, owner, us, ug⟩ := s
  simp only [csl, List.getElem?_cons_zero, List.getElem?_cons_succ, Nat.add_zero] at d0 d1
  simp only at hk
  subst hk
  have cb : decide ((i : Int) < 0) = false := decide_eq_false (by omega)
  have cb2 : decide (l.length ≤ i) = false := decide_eq_false (by omega)
  have cb3 : decide ((l.length : Int) ≤ (i : Int)) = false := decide_eq_false (by omega)
  have cb4 : (gen != gen) = false := bne_self_eq_false gen
  go_enter Try.func27, Try.ntmps27
  go_wp2
  go_quiet (fail)
  go_wp2
  go_quiet (fail)
  go_wp2
  go_quiet (fail)
  go_wp2
  go_ret2
  exact ⟨rfl, by repeat (first | exact Below.refl _ _ | apply pw_below_drewN | exact (Below.refl _ _).alloc (Nat.le_refl _) _)⟩

end Go.Proofs.Ytecbdhampjmlaaa.Ext
