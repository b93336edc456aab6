/- The grammar's methods, each by its walk. -/
import Derived.Test.YtfhlohmhacfngaaProg
import Derived.WalkKit
import Derived.WalkMore
import Derived.Deep.RegionWith
import Derived.BigQuiet
import Derived.Below
import Derived.KernelRfl
import Derived.Laws.Rows
import Derived.Shelf.Small.Strs
import Derived.Test.YtfhlohmhacfngaaShelf
import Derived.Test.YtfhlohmhacfngaaWWords
import Derived.Test.YtfhlohmhacfngaaGramM
set_option linter.unusedVariables false
set_option linter.unusedSimpArgs false
namespace Go.Proofs.Ytfhlohmhacfngaa.Ext
open Go.RowKit Go.Lib Go.Proofs.YtfhlohmhacfngaaW.PrintWords

def cs (s : St) (vis : Bool) (v : Value) : Array Value := #[.int .i32 s.reg, .int .i64 s.cnt, .int .i32 s.verb, .int .i32 s.move, .int .i32 s.arg, .bool vis, .int .i64 s.n, .bool s.told, .int .i64 s.state, v]
def Row (w : World) (R : Nat) (s : St) (vis : Bool) (v : Value) : Prop := w.heap[R]? = some (.cells (cs s vis v) 43 (0, 0))
theorem Row.cells {w : World} {R : Nat} {s : St} {vis : Bool} {v : Value} (h : Row w R s vis v) :
    w.cell? ⟨R, 0, none⟩ = some (.int .i32 s.reg) ∧ w.cell? ⟨R, 1, none⟩ = some (.int .i64 s.cnt) ∧ w.cell? ⟨R, 2, none⟩ = some (.int .i32 s.verb) ∧ w.cell? ⟨R, 3, none⟩ = some (.int .i32 s.move) ∧ w.cell? ⟨R, 4, none⟩ = some (.int .i32 s.arg) ∧
    w.cell? ⟨R, 5, none⟩ = some (.bool vis) ∧ w.cell? ⟨R, 6, none⟩ = some (.int .i64 s.n) ∧ w.cell? ⟨R, 7, none⟩ = some (.bool s.told) ∧ w.cell? ⟨R, 8, none⟩ = some (.int .i64 s.state) ∧ w.cell? ⟨R, 9, none⟩ = some v := by
  refine ⟨?_, ?_, ?_, ?_, ?_, ?_, ?_, ?_, ?_, ?_⟩ <;> (rw [cell_of_row w R _ _ _ _ h]; rfl)
theorem Row.frozen {w : World} {R : Nat} {s : St} {vis : Bool} {v : Value} (h : Row w R s vis v) (i : Nat) : w.frozen? ⟨R, i, none⟩ = false := frozen_of_row w R i _ _ h
theorem Row.lt {w : World} {R : Nat} {s : St} {vis : Bool} {v : Value} (h : Row w R s vis v) : R < w.heap.size := (Array.getElem?_eq_some_iff.1 h).1

theorem Row.set {w : World} {R : Nat} {c : Array Value} (h : w.heap[R]? = some (.cells c 43 (0, 0))) (i : Nat) (x : Value) : (w.setCell ⟨R, i, none⟩ x).heap[R]? = some (.cells (c.setIfInBounds i x) 43 (0, 0)) := heap_setCell_same w R i c _ x h

set_option maxRecDepth 100000 in
set_option maxHeartbeats 1000000 in
theorem ends_w (B R : Nat) (s : St) (vis : Bool) (v : Value) (ok : Bool) (w : World) (hB : B ≤ R) (hR : Row w R s vis v) :
    Calls Try.prog 23 #[.pointer (some ⟨R, 0, none⟩), .bool ok] w fun e w' => e = .returned (.tuple #[]) ∧ Row w' R (endsS s ok) vis v ∧ Below B w w' := by
  obtain ⟨h0, h1, h2, h3, h4, h5, h6, h7, h8, h9⟩ := hR.cells
  have hf := hR.frozen
  have HR := Aside0.mk hR
  have HB := Aside0.mk hB
  clear hR hB
  go_enter Try.func23, Try.ntmps23
  cases ok
  · go_wp2
    go_end0
    exact ⟨rfl, Row.set HR.out 8 _, (Below.refl _ _).setCell HB.out _⟩
  · go_wp2
    go_end0
    exact ⟨rfl, Row.set (Row.set HR.out 8 _) 8 _, ((Below.refl _ _).setCell HB.out _).setCell HB.out _⟩

set_option maxRecDepth 100000 in
set_option maxHeartbeats 1000000 in
theorem digit_w (B R : Nat) (s : St) (vis : Bool) (v : Value) (k : Int) (w : World) (hB : B ≤ R) (hR : Row w R s vis v) (hb : Bd s) :
    Calls Try.prog 25 #[.pointer (some ⟨R, 0, none⟩), .int .i32 k] w fun e w' => e = .returned (.bool (digZ s.told k)) ∧ Row w' R (if digZ s.told k = true then digS s k else s) vis v ∧ Below B w w' := by
  obtain ⟨h0, h1, h2, h3, h4, h5, h6, h7, h8, h9⟩ := hR.cells
  have hf := hR.frozen
  have HR := Aside0.mk hR
  have HB := Aside0.mk hB
  obtain ⟨b0, b1, b2, b3⟩ := hb
  clear hR hB
  go_enter Try.func25, Try.ntmps25
  by_cases c1 : k < 48
  · have c1b : decide (k < 48) = true := decide_eq_true c1
    have e : digZ s.told k = false := by simp [digZ]; omega
    rw [e]
    go_wp2
    go_ret
    exact ⟨rfl, HR.out, Below.refl _ _⟩
  · have c1b : decide (k < 48) = false := decide_eq_false c1
    by_cases c2 : 57 < k
    · have c2b : decide (57 < k) = true := decide_eq_true c2
      have e : digZ s.told k = false := by simp [digZ]; omega
      rw [e]
      go_wp2
      go_ret
      exact ⟨rfl, HR.out, Below.refl _ _⟩
    · have c2b : decide (57 < k) = false := decide_eq_false c2
      by_cases c3 : k = 48
      · subst c3
        cases ht : s.told
        · have e : digZ false 48 = false := by decide
          rw [e]
          rw [ht] at h7
          go_wp2
          go_ret
          exact ⟨rfl, HR.out, Below.refl _ _⟩
        · have e : digZ true 48 = true := by decide
          rw [e]
          rw [ht] at h7
          have E : digS s 48 = { s with told := true, n := min (s.n * 10) 999 } := by simp [digS]
          have HE := Aside0.mk E
          clear E
          go_wp2
          go_ret
          exact ⟨rfl, by rw [HE.out]; exact Row.set (Row.set HR.out 7 _) 6 _, ((Below.refl _ _).setCell HB.out _).setCell HB.out _⟩
      · have c3b : (k == 48) = false := beq_eq_false_iff_ne.mpr c3
        have e : digZ s.told k = true := by simp [digZ, c3]; omega
        rw [e]
        go_wp2
        go_ret
        exact ⟨rfl, Row.set (Row.set HR.out 7 _) 6 _, ((Below.refl _ _).setCell HB.out _).setCell HB.out _⟩

set_option maxRecDepth 100000 in
set_option maxHeartbeats 1000000 in
theorem counted_w (B R : Nat) (s : St) (vis : Bool) (v : Value) (w : World) (hB : B ≤ R) (hR : Row w R s vis v) (hb : Bd s) :
    Calls Try.prog 26 #[.pointer (some ⟨R, 0, none⟩)] w fun e w' => e = .returned (.tuple #[]) ∧ Row w' R (ctdS s) vis v ∧ Below B w w' := by
  obtain ⟨reg, cnt, verb, move, arg, n, told, state, nx⟩ := s
  obtain ⟨h0, h1, h2, h3, h4, h5, h6, h7, h8, h9⟩ := hR.cells
  have hf := hR.frozen
  have HR := Aside0.mk hR
  have HB := Aside0.mk hB
  obtain ⟨b0, b1, b2, b3⟩ := hb
  simp only at h0 h1 h2 h3 h4 h5 h6 h7 h8 h9 b0 b1 b2 b3
  clear hR hB
  go_enter Try.func26, Try.ntmps26
  cases told
  · go_wp2
    go_end0
    exact ⟨rfl, Row.set (Row.set HR.out 6 _) 7 _, ((Below.refl _ _).setCell HB.out _).setCell HB.out _⟩
  · by_cases c : cnt = 0
    · subst c
      go_wp2
      go_end0
      exact ⟨rfl, Row.set (Row.set (Row.set HR.out 1 _) 6 _) 7 _, (((Below.refl _ _).setCell HB.out _).setCell HB.out _).setCell HB.out _⟩
    · have cb : (cnt == 0) = false := beq_eq_false_iff_ne.mpr c
      have hm0 : 0 ≤ cnt * n := Int.mul_nonneg b2 b0
      have hm1 : cnt * n ≤ 998001 := Int.le_trans (Int.mul_le_mul b3 b1 b0 (by omega)) (by omega)
      have E : ctdS ⟨reg, cnt, verb, move, arg, n, true, state, nx⟩ = ⟨reg, min (cnt * n) 999, verb, move, arg, 0, false, state, nx⟩ := by simp [ctdS, c]
      rw [E]
      have HE := Aside0.mk E
      clear E c
      go_wp2
      go_region
      all_goals go_wp2
      all_goals go_end0
      all_goals exact ⟨rfl, Row.set (Row.set (Row.set HR.out 1 _) 6 _) 7 _, ((((Below.refl _ _).setCell HB.out _).setCell HB.out _).setCell HB.out _).drew⟩

set_option maxRecDepth 100000 in
set_option maxHeartbeats 1000000 in
theorem in_w (k : Int) (s : ByteArray) (w : World) :
    Calls Try.prog 15 #[.int .i32 k, .string s] w fun e w' => e = .returned (.bool (inZ k s)) ∧ Below w.heap.size w w' := by
  go_enter Try.func15, Try.ntmps15
  by_cases c1 : 0 < k
  · have c1b : decide (0 < k) = true := decide_eq_true c1
    by_cases c2 : k < 128
    · have c2b : decide (k < 128) = true := decide_eq_true c2
      have E : inZ k s = decide (0 ≤ indexByte s.data.toList k.toNat.toUInt8) := by simp [inZ, c1, c2]
      rw [E]
      clear E
      go_wp2_with (go_at_call 19; refine (Try.strings_IndexByte s k _).mono ?_; rintro e w' ⟨rfl, rfl⟩)
      go_ret
      exact ⟨rfl, Below.refl _ _⟩
    · have c2b : decide (k < 128) = false := decide_eq_false c2
      have E : inZ k s = false := by simp [inZ, c2]
      rw [E]
      go_wp2
      go_ret
      exact ⟨rfl, Below.refl _ _⟩
  · have c1b : decide (0 < k) = false := decide_eq_false c1
    have E : inZ k s = false := by simp [inZ, c1]
    rw [E]
    go_wp2
    go_ret
    exact ⟨rfl, Below.refl _ _⟩
set_option maxRecDepth 100000 in
set_option maxHeartbeats 1000000 in
theorem Motion_w (k : Int) (w : World) :
    Calls Try.prog 8 #[.int .i32 k] w fun e w' => e = .returned (.bool (motZ k)) ∧ Below w.heap.size w w' := by
  go_enter Try.func8, Try.ntmps8
  go_wp2_with (go_at_call 15; refine (in_w k tMot _).mono ?_; rintro e w' ⟨rfl, hb⟩)
  go_ret
  exact ⟨rfl, hb⟩
set_option maxRecDepth 100000 in
set_option maxHeartbeats 1000000 in
theorem Operator_w (k : Int) (w : World) :
    Calls Try.prog 10 #[.int .i32 k] w fun e w' => e = .returned (.bool (opZ k)) ∧ Below w.heap.size w w' := by
  go_enter Try.func10, Try.ntmps10
  go_wp2_with (go_at_call 15; refine (in_w k tOp _).mono ?_; rintro e w' ⟨rfl, hb⟩)
  go_ret
  exact ⟨rfl, hb⟩
set_option maxRecDepth 100000 in
set_option maxHeartbeats 1000000 in
theorem object_w (k : Int) (w : World) :
    Calls Try.prog 29 #[.int .i32 k] w fun e w' => e = .returned (.bool (rtZ .object k)) ∧ Below w.heap.size w w' := by
  go_enter Try.func29, Try.ntmps29
  go_wp2_with (go_at_call 15; refine (in_w k tObj _).mono ?_; rintro e w' ⟨rfl, hb⟩)
  go_ret
  exact ⟨rfl, hb⟩
set_option maxRecDepth 100000 in
set_option maxHeartbeats 1000000 in
theorem sign_w (k : Int) (w : World) :
    Calls Try.prog 31 #[.int .i32 k] w fun e w' => e = .returned (.bool (rtZ .sign k)) ∧ Below w.heap.size w w' := by
  go_enter Try.func31, Try.ntmps31
  go_wp2
  go_ret
  exact ⟨rfl, Below.refl _ _⟩
set_option maxRecDepth 100000 in
set_option maxHeartbeats 1000000 in
theorem isG_w (k : Int) (w : World) :
    Calls Try.prog 34 #[.int .i32 k] w fun e w' => e = .returned (.bool (rtZ .isG k)) ∧ Below w.heap.size w w' := by
  go_enter Try.func34, Try.ntmps34
  go_wp2
  go_ret
  exact ⟨rfl, Below.refl _ _⟩
set_option maxRecDepth 100000 in
set_option maxHeartbeats 1000000 in
theorem mac_w (k : Int) (w : World) :
    Calls Try.prog 32 #[.int .i32 k] w fun e w' => e = .returned (.bool (rtZ .mac k)) ∧ Below w.heap.size w w' := by
  go_enter Try.func32, Try.ntmps32
  by_cases c1 : 97 ≤ k
  · have c1b : decide (97 ≤ k) = true := decide_eq_true c1
    have E : rtZ .mac k = decide (k ≤ 122) := by simp [rtZ, macZ, c1]
    rw [E]
    clear E
    go_wp2
    go_ret
    exact ⟨rfl, Below.refl _ _⟩
  · have c1b : decide (97 ≤ k) = false := decide_eq_false c1
    have E : rtZ .mac k = false := by simp [rtZ, macZ, c1]
    rw [E]
    clear E
    go_wp2
    go_ret
    exact ⟨rfl, Below.refl _ _⟩
set_option maxRecDepth 100000 in
set_option maxHeartbeats 1000000 in
theorem name_w (k : Int) (w : World) :
    Calls Try.prog 22 #[.int .i32 k] w fun e w' => e = .returned (.bool (nameZ k)) ∧ Below w.heap.size w w' := by
  go_enter Try.func22, Try.ntmps22
  have E : nameZ k = ((decide (97 ≤ k) && decide (k ≤ 122)) || ((decide (65 ≤ k) && decide (k ≤ 90)) || ((decide (48 ≤ k) && decide (k ≤ 57)) || inZ k tName))) := rfl
  rw [E]
  clear E
  cases b1 : decide (97 ≤ k) <;> cases b2 : decide (k ≤ 122) <;> cases b3 : decide (65 ≤ k) <;> cases b4 : decide (k ≤ 90) <;> cases b5 : decide (48 ≤ k) <;> cases b6 : decide (k ≤ 57) <;>
    simp only [Bool.true_and, Bool.false_and, Bool.and_false, Bool.and_true, Bool.true_or, Bool.false_or] <;>
    first
    | (exfalso; simp at b1 b2 b3 b4 b5 b6; omega)
    | (go_wp2; go_ret; exact ⟨rfl, Below.refl _ _⟩)
    | (go_wp2_with (go_at_call 15; refine (in_w k tName _).mono ?_; rintro e w' ⟨rfl, hb⟩); go_ret; exact ⟨rfl, hb⟩)
end Go.Proofs.Ytfhlohmhacfngaa.Ext
