/- The shape of an instruction, in the print's form: what it takes, lays down, its argument's bounds, whether it has one, whether there is such an instruction. -/
import Derived.Test.YtlpiknclbgogbaaProg
import Derived.WalkKit
import Derived.KernelRfl
import Derived.Laws.Rows
import Derived.Laws.ResultCell
import Derived.Test.YtlpiknclbgogbaaWWords
import Derived.Test.YtlpiknclbgogbaaExtShapesD
set_option linter.unusedVariables false
set_option linter.unusedSimpArgs false
namespace Go.Proofs.Ytlpiknclbgogbaa.Ext
open Go.RowKit Go.Proofs.YtlpiknclbgogbaaW.PrintWords

set_option maxRecDepth 100000 in
set_option maxHeartbeats 1000000 in
theorem shapes_0 (a : Int) (w : World) :
    Calls Try.prog 30 #[.agg #[.int .i64 0, .int .i64 a]] w fun e w' => e = .returned (.tuple #[.agg #[.int .i64 0, .int .i64 0, .int .i64 0, .int .i64 0, .bool false], .bool true]) ∧ Below w.heap.size w w' := by
  go_enter Try.func30, Try.ntmps30
  go_wp2
  refine bodyPost_ret (v := .tuple #[.agg #[.int .i64 0, .int .i64 0, .int .i64 0, .int .i64 0, .bool false], .bool true]) (by simp [results, Try.results30, go_sem]) rfl ⟨rfl, ?_⟩
  exact ((Below.refl _ _).alloc (Nat.le_refl _) _).alloc (by simp) _

set_option maxRecDepth 100000 in
set_option maxHeartbeats 1000000 in
theorem shapes_1 (a : Int) (w : World) :
    Calls Try.prog 30 #[.agg #[.int .i64 1, .int .i64 a]] w fun e w' => e = .returned (.tuple #[.agg #[.int .i64 0, .int .i64 1, .int .i64 (-32768), .int .i64 32767, .bool true], .bool true]) ∧ Below w.heap.size w w' := by
  go_enter Try.func30, Try.ntmps30
  go_wp2
  refine bodyPost_ret (v := .tuple #[.agg #[.int .i64 0, .int .i64 1, .int .i64 (-32768), .int .i64 32767, .bool true], .bool true]) (by simp [results, Try.results30, go_sem]) rfl ⟨rfl, ?_⟩
  exact ((Below.refl _ _).alloc (Nat.le_refl _) _).alloc (by simp) _

set_option maxRecDepth 100000 in
set_option maxHeartbeats 1000000 in
theorem shapes_2 (a : Int) (w : World) :
    Calls Try.prog 30 #[.agg #[.int .i64 2, .int .i64 a]] w fun e w' => e = .returned (.tuple #[.agg #[.int .i64 1, .int .i64 0, .int .i64 0, .int .i64 0, .bool false], .bool true]) ∧ Below w.heap.size w w' := by
  go_enter Try.func30, Try.ntmps30
  go_wp2
  refine bodyPost_ret (v := .tuple #[.agg #[.int .i64 1, .int .i64 0, .int .i64 0, .int .i64 0, .bool false], .bool true]) (by simp [results, Try.results30, go_sem]) rfl ⟨rfl, ?_⟩
  exact ((Below.refl _ _).alloc (Nat.le_refl _) _).alloc (by simp) _

set_option maxRecDepth 100000 in
set_option maxHeartbeats 1000000 in
theorem shapes_3 (a : Int) (w : World) :
    Calls Try.prog 30 #[.agg #[.int .i64 3, .int .i64 a]] w fun e w' => e = .returned (.tuple #[.agg #[.int .i64 1, .int .i64 2, .int .i64 0, .int .i64 0, .bool false], .bool true]) ∧ Below w.heap.size w w' := by
  go_enter Try.func30, Try.ntmps30
  go_wp2
  refine bodyPost_ret (v := .tuple #[.agg #[.int .i64 1, .int .i64 2, .int .i64 0, .int .i64 0, .bool false], .bool true]) (by simp [results, Try.results30, go_sem]) rfl ⟨rfl, ?_⟩
  exact ((Below.refl _ _).alloc (Nat.le_refl _) _).alloc (by simp) _

set_option maxRecDepth 100000 in
set_option maxHeartbeats 1000000 in
theorem shapes_4 (a : Int) (w : World) :
    Calls Try.prog 30 #[.agg #[.int .i64 4, .int .i64 a]] w fun e w' => e = .returned (.tuple #[.agg #[.int .i64 2, .int .i64 2, .int .i64 0, .int .i64 0, .bool false], .bool true]) ∧ Below w.heap.size w w' := by
  go_enter Try.func30, Try.ntmps30
  go_wp2
  refine bodyPost_ret (v := .tuple #[.agg #[.int .i64 2, .int .i64 2, .int .i64 0, .int .i64 0, .bool false], .bool true]) (by simp [results, Try.results30, go_sem]) rfl ⟨rfl, ?_⟩
  exact ((Below.refl _ _).alloc (Nat.le_refl _) _).alloc (by simp) _

set_option maxRecDepth 100000 in
set_option maxHeartbeats 1000000 in
theorem shapes_5 (a : Int) (w : World) :
    Calls Try.prog 30 #[.agg #[.int .i64 5, .int .i64 a]] w fun e w' => e = .returned (.tuple #[.agg #[.int .i64 2, .int .i64 1, .int .i64 0, .int .i64 0, .bool false], .bool true]) ∧ Below w.heap.size w w' := by
  go_enter Try.func30, Try.ntmps30
  go_wp2
  refine bodyPost_ret (v := .tuple #[.agg #[.int .i64 2, .int .i64 1, .int .i64 0, .int .i64 0, .bool false], .bool true]) (by simp [results, Try.results30, go_sem]) rfl ⟨rfl, ?_⟩
  exact ((Below.refl _ _).alloc (Nat.le_refl _) _).alloc (by simp) _

set_option maxRecDepth 100000 in
set_option maxHeartbeats 1000000 in
theorem shapes_6 (a : Int) (w : World) :
    Calls Try.prog 30 #[.agg #[.int .i64 6, .int .i64 a]] w fun e w' => e = .returned (.tuple #[.agg #[.int .i64 2, .int .i64 1, .int .i64 0, .int .i64 0, .bool false], .bool true]) ∧ Below w.heap.size w w' := by
  go_enter Try.func30, Try.ntmps30
  go_wp2
  refine bodyPost_ret (v := .tuple #[.agg #[.int .i64 2, .int .i64 1, .int .i64 0, .int .i64 0, .bool false], .bool true]) (by simp [results, Try.results30, go_sem]) rfl ⟨rfl, ?_⟩
  exact ((Below.refl _ _).alloc (Nat.le_refl _) _).alloc (by simp) _

set_option maxRecDepth 100000 in
set_option maxHeartbeats 1000000 in
theorem shapes_7 (a : Int) (w : World) :
    Calls Try.prog 30 #[.agg #[.int .i64 7, .int .i64 a]] w fun e w' => e = .returned (.tuple #[.agg #[.int .i64 2, .int .i64 1, .int .i64 0, .int .i64 0, .bool false], .bool true]) ∧ Below w.heap.size w w' := by
  go_enter Try.func30, Try.ntmps30
  go_wp2
  refine bodyPost_ret (v := .tuple #[.agg #[.int .i64 2, .int .i64 1, .int .i64 0, .int .i64 0, .bool false], .bool true]) (by simp [results, Try.results30, go_sem]) rfl ⟨rfl, ?_⟩
  exact ((Below.refl _ _).alloc (Nat.le_refl _) _).alloc (by simp) _

set_option maxRecDepth 100000 in
set_option maxHeartbeats 1000000 in
theorem shapes_8 (a : Int) (w : World) :
    Calls Try.prog 30 #[.agg #[.int .i64 8, .int .i64 a]] w fun e w' => e = .returned (.tuple #[.agg #[.int .i64 2, .int .i64 1, .int .i64 0, .int .i64 0, .bool false], .bool true]) ∧ Below w.heap.size w w' := by
  go_enter Try.func30, Try.ntmps30
  go_wp2
  refine bodyPost_ret (v := .tuple #[.agg #[.int .i64 2, .int .i64 1, .int .i64 0, .int .i64 0, .bool false], .bool true]) (by simp [results, Try.results30, go_sem]) rfl ⟨rfl, ?_⟩
  exact ((Below.refl _ _).alloc (Nat.le_refl _) _).alloc (by simp) _

set_option maxRecDepth 100000 in
set_option maxHeartbeats 1000000 in
theorem shapes_9 (a : Int) (w : World) :
    Calls Try.prog 30 #[.agg #[.int .i64 9, .int .i64 a]] w fun e w' => e = .returned (.tuple #[.agg #[.int .i64 2, .int .i64 1, .int .i64 0, .int .i64 0, .bool false], .bool true]) ∧ Below w.heap.size w w' := by
  go_enter Try.func30, Try.ntmps30
  go_wp2
  refine bodyPost_ret (v := .tuple #[.agg #[.int .i64 2, .int .i64 1, .int .i64 0, .int .i64 0, .bool false], .bool true]) (by simp [results, Try.results30, go_sem]) rfl ⟨rfl, ?_⟩
  exact ((Below.refl _ _).alloc (Nat.le_refl _) _).alloc (by simp) _

set_option maxRecDepth 100000 in
set_option maxHeartbeats 1000000 in
theorem shapes_10 (a : Int) (w : World) :
    Calls Try.prog 30 #[.agg #[.int .i64 10, .int .i64 a]] w fun e w' => e = .returned (.tuple #[.agg #[.int .i64 2, .int .i64 1, .int .i64 0, .int .i64 0, .bool false], .bool true]) ∧ Below w.heap.size w w' := by
  go_enter Try.func30, Try.ntmps30
  go_wp2
  refine bodyPost_ret (v := .tuple #[.agg #[.int .i64 2, .int .i64 1, .int .i64 0, .int .i64 0, .bool false], .bool true]) (by simp [results, Try.results30, go_sem]) rfl ⟨rfl, ?_⟩
  exact ((Below.refl _ _).alloc (Nat.le_refl _) _).alloc (by simp) _

set_option maxRecDepth 100000 in
set_option maxHeartbeats 1000000 in
theorem shapes_11 (a : Int) (w : World) :
    Calls Try.prog 30 #[.agg #[.int .i64 11, .int .i64 a]] w fun e w' => e = .returned (.tuple #[.agg #[.int .i64 1, .int .i64 1, .int .i64 0, .int .i64 0, .bool false], .bool true]) ∧ Below w.heap.size w w' := by
  go_enter Try.func30, Try.ntmps30
  go_wp2
  refine bodyPost_ret (v := .tuple #[.agg #[.int .i64 1, .int .i64 1, .int .i64 0, .int .i64 0, .bool false], .bool true]) (by simp [results, Try.results30, go_sem]) rfl ⟨rfl, ?_⟩
  exact ((Below.refl _ _).alloc (Nat.le_refl _) _).alloc (by simp) _

set_option maxRecDepth 100000 in
set_option maxHeartbeats 1000000 in
theorem shapes_12 (a : Int) (w : World) :
    Calls Try.prog 30 #[.agg #[.int .i64 12, .int .i64 a]] w fun e w' => e = .returned (.tuple #[.agg #[.int .i64 0, .int .i64 1, .int .i64 0, .int .i64 7, .bool true], .bool true]) ∧ Below w.heap.size w w' := by
  go_enter Try.func30, Try.ntmps30
  go_wp2
  refine bodyPost_ret (v := .tuple #[.agg #[.int .i64 0, .int .i64 1, .int .i64 0, .int .i64 7, .bool true], .bool true]) (by simp [results, Try.results30, go_sem]) rfl ⟨rfl, ?_⟩
  exact ((Below.refl _ _).alloc (Nat.le_refl _) _).alloc (by simp) _

set_option maxRecDepth 100000 in
set_option maxHeartbeats 1000000 in
theorem shapes_13 (a : Int) (w : World) :
    Calls Try.prog 30 #[.agg #[.int .i64 13, .int .i64 a]] w fun e w' => e = .returned (.tuple #[.agg #[.int .i64 1, .int .i64 0, .int .i64 0, .int .i64 7, .bool true], .bool true]) ∧ Below w.heap.size w w' := by
  go_enter Try.func30, Try.ntmps30
  go_wp2
  refine bodyPost_ret (v := .tuple #[.agg #[.int .i64 1, .int .i64 0, .int .i64 0, .int .i64 7, .bool true], .bool true]) (by simp [results, Try.results30, go_sem]) rfl ⟨rfl, ?_⟩
  exact ((Below.refl _ _).alloc (Nat.le_refl _) _).alloc (by simp) _

set_option maxRecDepth 100000 in
set_option maxHeartbeats 1000000 in
theorem shapes_14 (a : Int) (w : World) :
    Calls Try.prog 30 #[.agg #[.int .i64 14, .int .i64 a]] w fun e w' => e = .returned (.tuple #[.agg #[.int .i64 0, .int .i64 0, .int .i64 0, .int .i64 255, .bool true], .bool true]) ∧ Below w.heap.size w w' := by
  go_enter Try.func30, Try.ntmps30
  go_wp2
  refine bodyPost_ret (v := .tuple #[.agg #[.int .i64 0, .int .i64 0, .int .i64 0, .int .i64 255, .bool true], .bool true]) (by simp [results, Try.results30, go_sem]) rfl ⟨rfl, ?_⟩
  exact ((Below.refl _ _).alloc (Nat.le_refl _) _).alloc (by simp) _

set_option maxRecDepth 100000 in
set_option maxHeartbeats 1000000 in
theorem shapes_15 (a : Int) (w : World) :
    Calls Try.prog 30 #[.agg #[.int .i64 15, .int .i64 a]] w fun e w' => e = .returned (.tuple #[.agg #[.int .i64 1, .int .i64 0, .int .i64 0, .int .i64 255, .bool true], .bool true]) ∧ Below w.heap.size w w' := by
  go_enter Try.func30, Try.ntmps30
  go_wp2
  refine bodyPost_ret (v := .tuple #[.agg #[.int .i64 1, .int .i64 0, .int .i64 0, .int .i64 255, .bool true], .bool true]) (by simp [results, Try.results30, go_sem]) rfl ⟨rfl, ?_⟩
  exact ((Below.refl _ _).alloc (Nat.le_refl _) _).alloc (by simp) _

set_option maxRecDepth 100000 in
set_option maxHeartbeats 1000000 in
theorem shapes_16_0 (w : World) :
    Calls Try.prog 30 #[.agg #[.int .i64 16, .int .i64 0]] w fun e w' => e = .returned (.tuple #[.agg #[.int .i64 3, .int .i64 1, .int .i64 0, .int .i64 7, .bool true], .bool true]) ∧ Below w.heap.size w w' := by
  go_enter Try.func30, Try.ntmps30
  go_wp2
  refine bodyPost_ret (v := .tuple #[.agg #[.int .i64 3, .int .i64 1, .int .i64 0, .int .i64 7, .bool true], .bool true]) (by simp [results, Try.results30, go_sem]) rfl ⟨rfl, ?_⟩
  exact ((((Below.refl _ _).alloc (Nat.le_refl _) _).alloc (by simp) _).alloc (by simp; omega) _).alloc (by simp; omega) _

set_option maxRecDepth 100000 in
set_option maxHeartbeats 1000000 in
theorem shapes_16_1 (w : World) :
    Calls Try.prog 30 #[.agg #[.int .i64 16, .int .i64 1]] w fun e w' => e = .returned (.tuple #[.agg #[.int .i64 3, .int .i64 1, .int .i64 0, .int .i64 7, .bool true], .bool true]) ∧ Below w.heap.size w w' := by
  go_enter Try.func30, Try.ntmps30
  go_wp2
  refine bodyPost_ret (v := .tuple #[.agg #[.int .i64 3, .int .i64 1, .int .i64 0, .int .i64 7, .bool true], .bool true]) (by simp [results, Try.results30, go_sem]) rfl ⟨rfl, ?_⟩
  exact ((((Below.refl _ _).alloc (Nat.le_refl _) _).alloc (by simp) _).alloc (by simp; omega) _).alloc (by simp; omega) _

set_option maxRecDepth 100000 in
set_option maxHeartbeats 1000000 in
theorem shapes_16_2 (w : World) :
    Calls Try.prog 30 #[.agg #[.int .i64 16, .int .i64 2]] w fun e w' => e = .returned (.tuple #[.agg #[.int .i64 3, .int .i64 1, .int .i64 0, .int .i64 7, .bool true], .bool true]) ∧ Below w.heap.size w w' := by
  go_enter Try.func30, Try.ntmps30
  go_wp2
  refine bodyPost_ret (v := .tuple #[.agg #[.int .i64 3, .int .i64 1, .int .i64 0, .int .i64 7, .bool true], .bool true]) (by simp [results, Try.results30, go_sem]) rfl ⟨rfl, ?_⟩
  exact ((((Below.refl _ _).alloc (Nat.le_refl _) _).alloc (by simp) _).alloc (by simp; omega) _).alloc (by simp; omega) _

set_option maxRecDepth 100000 in
set_option maxHeartbeats 1000000 in
theorem shapes_16_3 (w : World) :
    Calls Try.prog 30 #[.agg #[.int .i64 16, .int .i64 3]] w fun e w' => e = .returned (.tuple #[.agg #[.int .i64 2, .int .i64 1, .int .i64 0, .int .i64 7, .bool true], .bool true]) ∧ Below w.heap.size w w' := by
  go_enter Try.func30, Try.ntmps30
  go_wp2
  refine bodyPost_ret (v := .tuple #[.agg #[.int .i64 2, .int .i64 1, .int .i64 0, .int .i64 7, .bool true], .bool true]) (by simp [results, Try.results30, go_sem]) rfl ⟨rfl, ?_⟩
  exact ((((Below.refl _ _).alloc (Nat.le_refl _) _).alloc (by simp) _).alloc (by simp; omega) _).alloc (by simp; omega) _

set_option maxRecDepth 100000 in
set_option maxHeartbeats 1000000 in
theorem shapes_16_4 (w : World) :
    Calls Try.prog 30 #[.agg #[.int .i64 16, .int .i64 4]] w fun e w' => e = .returned (.tuple #[.agg #[.int .i64 4, .int .i64 1, .int .i64 0, .int .i64 7, .bool true], .bool true]) ∧ Below w.heap.size w w' := by
  go_enter Try.func30, Try.ntmps30
  go_wp2
  refine bodyPost_ret (v := .tuple #[.agg #[.int .i64 4, .int .i64 1, .int .i64 0, .int .i64 7, .bool true], .bool true]) (by simp [results, Try.results30, go_sem]) rfl ⟨rfl, ?_⟩
  exact ((((Below.refl _ _).alloc (Nat.le_refl _) _).alloc (by simp) _).alloc (by simp; omega) _).alloc (by simp; omega) _

set_option maxRecDepth 100000 in
set_option maxHeartbeats 1000000 in
theorem shapes_16_5 (w : World) :
    Calls Try.prog 30 #[.agg #[.int .i64 16, .int .i64 5]] w fun e w' => e = .returned (.tuple #[.agg #[.int .i64 0, .int .i64 1, .int .i64 0, .int .i64 7, .bool true], .bool true]) ∧ Below w.heap.size w w' := by
  go_enter Try.func30, Try.ntmps30
  go_wp2
  refine bodyPost_ret (v := .tuple #[.agg #[.int .i64 0, .int .i64 1, .int .i64 0, .int .i64 7, .bool true], .bool true]) (by simp [results, Try.results30, go_sem]) rfl ⟨rfl, ?_⟩
  exact ((((Below.refl _ _).alloc (Nat.le_refl _) _).alloc (by simp) _).alloc (by simp; omega) _).alloc (by simp; omega) _

set_option maxRecDepth 100000 in
set_option maxHeartbeats 1000000 in
theorem shapes_16_6 (w : World) :
    Calls Try.prog 30 #[.agg #[.int .i64 16, .int .i64 6]] w fun e w' => e = .returned (.tuple #[.agg #[.int .i64 1, .int .i64 1, .int .i64 0, .int .i64 7, .bool true], .bool true]) ∧ Below w.heap.size w w' := by
  go_enter Try.func30, Try.ntmps30
  go_wp2
  refine bodyPost_ret (v := .tuple #[.agg #[.int .i64 1, .int .i64 1, .int .i64 0, .int .i64 7, .bool true], .bool true]) (by simp [results, Try.results30, go_sem]) rfl ⟨rfl, ?_⟩
  exact ((((Below.refl _ _).alloc (Nat.le_refl _) _).alloc (by simp) _).alloc (by simp; omega) _).alloc (by simp; omega) _

set_option maxRecDepth 100000 in
set_option maxHeartbeats 1000000 in
theorem shapes_16_7 (w : World) :
    Calls Try.prog 30 #[.agg #[.int .i64 16, .int .i64 7]] w fun e w' => e = .returned (.tuple #[.agg #[.int .i64 2, .int .i64 1, .int .i64 0, .int .i64 7, .bool true], .bool true]) ∧ Below w.heap.size w w' := by
  go_enter Try.func30, Try.ntmps30
  go_wp2
  refine bodyPost_ret (v := .tuple #[.agg #[.int .i64 2, .int .i64 1, .int .i64 0, .int .i64 7, .bool true], .bool true]) (by simp [results, Try.results30, go_sem]) rfl ⟨rfl, ?_⟩
  exact ((((Below.refl _ _).alloc (Nat.le_refl _) _).alloc (by simp) _).alloc (by simp; omega) _).alloc (by simp; omega) _

set_option maxRecDepth 100000 in
set_option maxHeartbeats 1000000 in
theorem shapes_16_lo (a : Int) (w : World) (h : decide (0 ≤ a) = false) (h' : decide (a ≥ 0) = false) :
    Calls Try.prog 30 #[.agg #[.int .i64 16, .int .i64 a]] w fun e w' => e = .returned (.tuple #[.agg #[.int .i64 0, .int .i64 1, .int .i64 0, .int .i64 7, .bool true], .bool true]) ∧ Below w.heap.size w w' := by
  go_enter Try.func30, Try.ntmps30
  go_wp2
  refine bodyPost_ret (v := .tuple #[.agg #[.int .i64 0, .int .i64 1, .int .i64 0, .int .i64 7, .bool true], .bool true]) (by simp [results, Try.results30, go_sem]) rfl ⟨rfl, ?_⟩
  exact ((((Below.refl _ _).alloc (Nat.le_refl _) _).alloc (by simp) _).alloc (by simp; omega) _).alloc (by simp; omega) _

set_option maxRecDepth 100000 in
set_option maxHeartbeats 1000000 in
theorem shapes_16_hi (a : Int) (w : World) (h : decide (0 ≤ a) = true) (h' : decide (a ≥ 0) = true) (h2 : decide (a < 8) = false) :
    Calls Try.prog 30 #[.agg #[.int .i64 16, .int .i64 a]] w fun e w' => e = .returned (.tuple #[.agg #[.int .i64 0, .int .i64 1, .int .i64 0, .int .i64 7, .bool true], .bool true]) ∧ Below w.heap.size w w' := by
  go_enter Try.func30, Try.ntmps30
  go_wp2
  refine bodyPost_ret (v := .tuple #[.agg #[.int .i64 0, .int .i64 1, .int .i64 0, .int .i64 7, .bool true], .bool true]) (by simp [results, Try.results30, go_sem]) rfl ⟨rfl, ?_⟩
  exact ((((Below.refl _ _).alloc (Nat.le_refl _) _).alloc (by simp) _).alloc (by simp; omega) _).alloc (by simp; omega) _

set_option maxRecDepth 100000 in
set_option maxHeartbeats 1000000 in
theorem shapes_none (op a : Int) (w : World) (h0 : (op == 0) = false) (h1 : (op == 1) = false) (h2 : (op == 2) = false) (h3 : (op == 3) = false) (h4 : (op == 4) = false) (h5 : (op == 5) = false) (h6 : (op == 6) = false) (h7 : (op == 7) = false) (h8 : (op == 8) = false) (h9 : (op == 9) = false) (h10 : (op == 10) = false) (h11 : (op == 11) = false) (h12 : (op == 12) = false) (h13 : (op == 13) = false) (h14 : (op == 14) = false) (h15 : (op == 15) = false) (h16 : (op == 16) = false) :
    Calls Try.prog 30 #[.agg #[.int .i64 op, .int .i64 a]] w fun e w' => e = .returned (.tuple #[.agg #[.int .i64 0, .int .i64 0, .int .i64 0, .int .i64 0, .bool false], .bool false]) ∧ Below w.heap.size w w' := by
  go_enter Try.func30, Try.ntmps30
  go_wp2
  refine bodyPost_ret (v := .tuple #[.agg #[.int .i64 0, .int .i64 0, .int .i64 0, .int .i64 0, .bool false], .bool false]) (by simp [results, Try.results30, go_sem]) rfl ⟨rfl, ?_⟩
  exact ((Below.refl _ _).alloc (Nat.le_refl _) _).alloc (by simp) _

theorem code_shapes.calls (a0_0 : Int) (a0_1 : Int) (r1 : Int) (r2 : Int) (r3 : Int) (r4 : Int) (r5 : Bool) (r6 : Bool) (w : World) (h : code_shapes.f a0_0 a0_1 = some (r1, r2, r3, r4, r5, r6)) :
    Calls Try.prog 30 #[.agg #[.int .i64 a0_0, .int .i64 a0_1]] w fun e w' => e = .returned (.tuple #[.agg #[.int .i64 r1, .int .i64 r2, .int .i64 r3, .int .i64 r4, .bool r5], .bool r6]) ∧ Below w.heap.size w w' := by
  unfold code_shapes.f at h
  have h' := Option.some.inj h
  clear h
  by_cases e0 : a0_0 = 0
  · subst e0
    simp at h'
    obtain ⟨rfl, rfl, rfl, rfl, rfl, rfl⟩ := h'
    exact shapes_0 a0_1 w
  rw [if_neg e0] at h'
  by_cases e1 : a0_0 = 1
  · subst e1
    simp at h'
    obtain ⟨rfl, rfl, rfl, rfl, rfl, rfl⟩ := h'
    exact shapes_1 a0_1 w
  rw [if_neg e1] at h'
  by_cases e2 : a0_0 = 2
  · subst e2
    simp at h'
    obtain ⟨rfl, rfl, rfl, rfl, rfl, rfl⟩ := h'
    exact shapes_2 a0_1 w
  rw [if_neg e2] at h'
  by_cases e3 : a0_0 = 3
  · subst e3
    simp at h'
    obtain ⟨rfl, rfl, rfl, rfl, rfl, rfl⟩ := h'
    exact shapes_3 a0_1 w
  rw [if_neg e3] at h'
  by_cases e4 : a0_0 = 4
  · subst e4
    simp at h'
    obtain ⟨rfl, rfl, rfl, rfl, rfl, rfl⟩ := h'
    exact shapes_4 a0_1 w
  rw [if_neg e4] at h'
  by_cases e5 : a0_0 = 5
  · subst e5
    simp at h'
    obtain ⟨rfl, rfl, rfl, rfl, rfl, rfl⟩ := h'
    exact shapes_5 a0_1 w
  rw [if_neg e5] at h'
  by_cases e6 : a0_0 = 6
  · subst e6
    simp at h'
    obtain ⟨rfl, rfl, rfl, rfl, rfl, rfl⟩ := h'
    exact shapes_6 a0_1 w
  rw [if_neg e6] at h'
  by_cases e7 : a0_0 = 7
  · subst e7
    simp at h'
    obtain ⟨rfl, rfl, rfl, rfl, rfl, rfl⟩ := h'
    exact shapes_7 a0_1 w
  rw [if_neg e7] at h'
  by_cases e8 : a0_0 = 8
  · subst e8
    simp at h'
    obtain ⟨rfl, rfl, rfl, rfl, rfl, rfl⟩ := h'
    exact shapes_8 a0_1 w
  rw [if_neg e8] at h'
  by_cases e9 : a0_0 = 9
  · subst e9
    simp at h'
    obtain ⟨rfl, rfl, rfl, rfl, rfl, rfl⟩ := h'
    exact shapes_9 a0_1 w
  rw [if_neg e9] at h'
  by_cases e10 : a0_0 = 10
  · subst e10
    simp at h'
    obtain ⟨rfl, rfl, rfl, rfl, rfl, rfl⟩ := h'
    exact shapes_10 a0_1 w
  rw [if_neg e10] at h'
  by_cases e11 : a0_0 = 11
  · subst e11
    simp at h'
    obtain ⟨rfl, rfl, rfl, rfl, rfl, rfl⟩ := h'
    exact shapes_11 a0_1 w
  rw [if_neg e11] at h'
  by_cases e12 : a0_0 = 12
  · subst e12
    simp at h'
    obtain ⟨rfl, rfl, rfl, rfl, rfl, rfl⟩ := h'
    exact shapes_12 a0_1 w
  rw [if_neg e12] at h'
  by_cases e13 : a0_0 = 13
  · subst e13
    simp at h'
    obtain ⟨rfl, rfl, rfl, rfl, rfl, rfl⟩ := h'
    exact shapes_13 a0_1 w
  rw [if_neg e13] at h'
  by_cases e14 : a0_0 = 14
  · subst e14
    simp at h'
    obtain ⟨rfl, rfl, rfl, rfl, rfl, rfl⟩ := h'
    exact shapes_14 a0_1 w
  rw [if_neg e14] at h'
  by_cases e15 : a0_0 = 15
  · subst e15
    simp at h'
    obtain ⟨rfl, rfl, rfl, rfl, rfl, rfl⟩ := h'
    exact shapes_15 a0_1 w
  rw [if_neg e15] at h'
  by_cases e16 : a0_0 = 16
  · subst e16
    rw [if_pos rfl] at h'
    simp only [Prod.mk.injEq] at h'
    obtain ⟨rfl, rfl, rfl, rfl, rfl, rfl⟩ := h'
    by_cases lo : 0 ≤ a0_1
    · by_cases hi : a0_1 < 8
      · have h8 : a0_1 = 0 ∨ a0_1 = 1 ∨ a0_1 = 2 ∨ a0_1 = 3 ∨ a0_1 = 4 ∨ a0_1 = 5 ∨ a0_1 = 6 ∨ a0_1 = 7 := by omega
        rcases h8 with rfl | rfl | rfl | rfl | rfl | rfl | rfl | rfl
        · exact shapes_16_0 w
        · exact shapes_16_1 w
        · exact shapes_16_2 w
        · exact shapes_16_3 w
        · exact shapes_16_4 w
        · exact shapes_16_5 w
        · exact shapes_16_6 w
        · exact shapes_16_7 w
      · have hz : callTakes a0_1 = 0 := by
          unfold callTakes
          rw [if_neg (by omega), if_neg (by omega), if_neg (by omega), if_neg (by omega), if_neg (by omega), if_neg (by omega), if_neg (by omega), if_neg (by omega)]
        rw [hz]
        exact shapes_16_hi a0_1 w (decide_eq_true lo) (decide_eq_true lo) (decide_eq_false hi)
    · have hz : callTakes a0_1 = 0 := by
        unfold callTakes
        rw [if_neg (by omega), if_neg (by omega), if_neg (by omega), if_neg (by omega), if_neg (by omega), if_neg (by omega), if_neg (by omega), if_neg (by omega)]
      rw [hz]
      exact shapes_16_lo a0_1 w (decide_eq_false lo) (decide_eq_false lo)
  rw [if_neg e16] at h'
  simp only [Prod.mk.injEq] at h'
  obtain ⟨rfl, rfl, rfl, rfl, rfl, rfl⟩ := h'
  exact shapes_none a0_0 a0_1 w (beq_eq_false_iff_ne.2 e0) (beq_eq_false_iff_ne.2 e1) (beq_eq_false_iff_ne.2 e2) (beq_eq_false_iff_ne.2 e3) (beq_eq_false_iff_ne.2 e4) (beq_eq_false_iff_ne.2 e5) (beq_eq_false_iff_ne.2 e6) (beq_eq_false_iff_ne.2 e7) (beq_eq_false_iff_ne.2 e8) (beq_eq_false_iff_ne.2 e9) (beq_eq_false_iff_ne.2 e10) (beq_eq_false_iff_ne.2 e11) (beq_eq_false_iff_ne.2 e12) (beq_eq_false_iff_ne.2 e13) (beq_eq_false_iff_ne.2 e14) (beq_eq_false_iff_ne.2 e15) (beq_eq_false_iff_ne.2 e16)
end Go.Proofs.Ytlpiknclbgogbaa.Ext
