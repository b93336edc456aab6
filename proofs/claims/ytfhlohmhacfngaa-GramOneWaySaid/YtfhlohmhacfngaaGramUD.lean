/- Ways through the grammar's verb and far. -/
import Derived.Test.YtfhlohmhacfngaaProg
import Derived.WalkKit
import Derived.WalkMore
import Derived.Deep.RegionWith
import Derived.BigQuiet
import Derived.Below
import Derived.KernelRfl
import Derived.Laws.Rows
import Derived.Laws.EntriesVeiled
import Derived.Test.YtfhlohmhacfngaaWWords
import Derived.Test.YtfhlohmhacfngaaGramR
set_option linter.unusedVariables false
set_option linter.unusedSimpArgs false
namespace Go.Proofs.Ytfhlohmhacfngaa.Ext
open Go.RowKit Go.Lib Go.Proofs.YtfhlohmhacfngaaW.PrintWords

set_option maxRecDepth 100000 in
set_option maxHeartbeats 8000000 in
theorem far_1 (B R : Nat) (s t : St) (vis : Bool) (k : Int) (v : Value) (w : World) (hB : B ≤ R)
    (hD : Calls Try.prog 25 #[.pointer (some ⟨R, 0, none⟩), .int .i32 k] w fun e w' => e = .returned (.bool false) ∧ Row w' R s vis v ∧ Below B w w')
    (hC : ∀ w1, Row w1 R s vis v → Calls Try.prog 26 #[.pointer (some ⟨R, 0, none⟩)] w1 fun e w' => e = .returned (.tuple #[]) ∧ Row w' R t vis v ∧ Below B w1 w')
    (c0 : (k == t.verb) = true)
    : Calls Try.prog 30 #[.pointer (some ⟨R, 0, none⟩), .int .i32 k] w (Stp B R vis (endsS { t with move := k } true) w) := by
  have HB := Aside0.mk hB
  have HD := Aside0.mk hD
  have HC := Aside0.mk hC
  clear hB hD hC
  go_enter Try.func30, Try.ntmps30
  go_wp2_with (first
    | (go_at_call 25; refine HD.out.mono ?_; rintro e w1 ⟨rfl, hR1, hB1⟩)
    | (go_at_call 26; refine (HC.out w1 hR1).mono ?_; rintro e w2 ⟨rfl, hR2, hB2⟩; obtain ⟨g0, g1, g2, g3, g4, g5, g6, g7, g8, g9⟩ := hR2.cells; have hf2 := hR2.frozen)
    | (go_at_call 23; refine (ends_w B R { t with move := k } vis v true _ HB.out (Row.mv hR2 k)).mono ?_; rintro e w9 ⟨rfl, hR9, hB9⟩))
  go_end0
  exact ⟨rfl, v, hR9, fun h => absurd h (by simp [endsS]), ((hB1.trans hB2).setCell HB.out (p := ⟨R, 3, none⟩) (.int .i32 k)).trans hB9⟩
set_option maxRecDepth 100000 in
set_option maxHeartbeats 8000000 in
theorem far_2 (B R : Nat) (s t : St) (vis : Bool) (k : Int) (v : Value) (w : World) (hB : B ≤ R)
    (hD : Calls Try.prog 25 #[.pointer (some ⟨R, 0, none⟩), .int .i32 k] w fun e w' => e = .returned (.bool false) ∧ Row w' R s vis v ∧ Below B w w')
    (hC : ∀ w1, Row w1 R s vis v → Calls Try.prog 26 #[.pointer (some ⟨R, 0, none⟩)] w1 fun e w' => e = .returned (.tuple #[]) ∧ Row w' R t vis v ∧ Below B w1 w')
    (IM : ∀ w, Calls Try.prog 8 #[.int .i32 k] w fun e w' => e = .returned (.bool false) ∧ Below w.heap.size w w')
    (I1 : ∀ w, Calls Try.prog 15 #[.int .i32 k, .string ⟨#[105, 97]⟩] w fun e w' => e = .returned (.bool false) ∧ Below w.heap.size w w')
    (c0 : (k == t.verb) = false)
    : Calls Try.prog 30 #[.pointer (some ⟨R, 0, none⟩), .int .i32 k] w (Stp B R vis (endsS { t with move := k } false) w) := by
  have HB := Aside0.mk hB
  have HD := Aside0.mk hD
  have HC := Aside0.mk hC
  clear hB hD hC
  have IMA := Aside0.mk IM
  clear IM
  have I1A := Aside0.mk I1
  clear I1
  go_enter Try.func30, Try.ntmps30
  go_wp2_with (first
    | (go_at_call 25; refine HD.out.mono ?_; rintro e w1 ⟨rfl, hR1, hB1⟩)
    | (go_at_call 26; refine (HC.out w1 hR1).mono ?_; rintro e w2 ⟨rfl, hR2, hB2⟩; obtain ⟨g0, g1, g2, g3, g4, g5, g6, g7, g8, g9⟩ := hR2.cells; have hf2 := hR2.frozen)
    | (go_at_call 8; with_reducible refine (IMA.out _).mono ?_; rintro e w3 ⟨rfl, hb3⟩; have hR3 := (Row.mv hR2 k).below hb3; have hB3 := ((hB1.trans hB2).setCell HB.out (p := ⟨R, 3, none⟩) (.int .i32 k)).trans (hb3.mono (by have := hR2.lt; have := HB.out; simp [World.setCell]; omega)); obtain ⟨k30, k31, k32, k33, k34, k35, k36, k37, k38, k39⟩ := hR3.cells; have hf3 := hR3.frozen)
    | (go_at_call 15; with_reducible refine (I1A.out _).mono ?_; rintro e w4 ⟨rfl, hb4⟩; have hR4 := hR3.below hb4; have hB4 := hB3.trans (hb4.mono (by have := hR3.lt; have := HB.out; omega)); obtain ⟨k40, k41, k42, k43, k44, k45, k46, k47, k48, k49⟩ := hR4.cells; have hf4 := hR4.frozen)
    | (go_at_call 23; refine (ends_w B R { t with move := k } vis v false _ HB.out hR4).mono ?_; rintro e w9 ⟨rfl, hR9, hB9⟩))
  go_end0
  exact ⟨rfl, v, hR9, fun h => absurd h (by unfold endsS; cases hq : (false : Bool) <;> simp), hB4.trans hB9⟩
set_option maxRecDepth 100000 in
set_option maxHeartbeats 8000000 in
theorem far_3 (B R : Nat) (s t : St) (vis : Bool) (k : Int) (v : Value) (w : World) (hB : B ≤ R)
    (hD : Calls Try.prog 25 #[.pointer (some ⟨R, 0, none⟩), .int .i32 k] w fun e w' => e = .returned (.bool false) ∧ Row w' R s vis v ∧ Below B w w')
    (hC : ∀ w1, Row w1 R s vis v → Calls Try.prog 26 #[.pointer (some ⟨R, 0, none⟩)] w1 fun e w' => e = .returned (.tuple #[]) ∧ Row w' R t vis v ∧ Below B w1 w')
    (IM : ∀ w, Calls Try.prog 8 #[.int .i32 k] w fun e w' => e = .returned (.bool false) ∧ Below w.heap.size w w')
    (I1 : ∀ w, Calls Try.prog 15 #[.int .i32 k, .string ⟨#[105, 97]⟩] w fun e w' => e = .returned (.bool true) ∧ Below w.heap.size w w')
    (c0 : (k == t.verb) = false)
    : Calls Try.prog 30 #[.pointer (some ⟨R, 0, none⟩), .int .i32 k] w (Stp B R vis ({ { t with move := k } with nx := .aw true .object }) w) := by
  have HB := Aside0.mk hB
  have HD := Aside0.mk hD
  have HC := Aside0.mk hC
  clear hB hD hC
  have IMA := Aside0.mk IM
  clear IM
  have I1A := Aside0.mk I1
  clear I1
  go_enter Try.func30, Try.ntmps30
  go_wp2_with (first
    | (go_at_call 25; refine HD.out.mono ?_; rintro e w1 ⟨rfl, hR1, hB1⟩)
    | (go_at_call 26; refine (HC.out w1 hR1).mono ?_; rintro e w2 ⟨rfl, hR2, hB2⟩; obtain ⟨g0, g1, g2, g3, g4, g5, g6, g7, g8, g9⟩ := hR2.cells; have hf2 := hR2.frozen)
    | (go_at_call 8; with_reducible refine (IMA.out _).mono ?_; rintro e w3 ⟨rfl, hb3⟩; have hR3 := (Row.mv hR2 k).below hb3; have hB3 := ((hB1.trans hB2).setCell HB.out (p := ⟨R, 3, none⟩) (.int .i32 k)).trans (hb3.mono (by have := hR2.lt; have := HB.out; simp [World.setCell]; omega)); obtain ⟨k30, k31, k32, k33, k34, k35, k36, k37, k38, k39⟩ := hR3.cells; have hf3 := hR3.frozen)
    | (go_at_call 15; with_reducible refine (I1A.out _).mono ?_; rintro e w4 ⟨rfl, hb4⟩; have hR4 := hR3.below hb4; have hB4 := hB3.trans (hb4.mono (by have := hR3.lt; have := HB.out; omega)); obtain ⟨k40, k41, k42, k43, k44, k45, k46, k47, k48, k49⟩ := hR4.cells; have hf4 := hR4.frozen)
    | (go_at_call 28; refine (awaits_w B R 0 { t with move := k } vis v true .object _ HB.out hR4 (fun h => by cases h)).mono ?_; rintro e w9 ⟨rfl, v9, hR9, hN9, hB9⟩))
  go_end0
  exact ⟨rfl, v9, hR9, fun _ => hN9, hB4.trans hB9⟩
set_option maxRecDepth 100000 in
set_option maxHeartbeats 8000000 in
theorem far_4 (B R : Nat) (s t : St) (vis : Bool) (k : Int) (v : Value) (w : World) (hB : B ≤ R)
    (hD : Calls Try.prog 25 #[.pointer (some ⟨R, 0, none⟩), .int .i32 k] w fun e w' => e = .returned (.bool false) ∧ Row w' R s vis v ∧ Below B w w')
    (hC : ∀ w1, Row w1 R s vis v → Calls Try.prog 26 #[.pointer (some ⟨R, 0, none⟩)] w1 fun e w' => e = .returned (.tuple #[]) ∧ Row w' R t vis v ∧ Below B w1 w')
    (IM : ∀ w, Calls Try.prog 8 #[.int .i32 k] w fun e w' => e = .returned (.bool true) ∧ Below w.heap.size w w')
    (c0 : (k == t.verb) = false)
    : Calls Try.prog 30 #[.pointer (some ⟨R, 0, none⟩), .int .i32 k] w (Stp B R vis (motS { t with move := k } k) w) := by
  have HB := Aside0.mk hB
  have HD := Aside0.mk hD
  have HC := Aside0.mk hC
  clear hB hD hC
  have IMA := Aside0.mk IM
  clear IM
  go_enter Try.func30, Try.ntmps30
  go_wp2_with (first
    | (go_at_call 25; refine HD.out.mono ?_; rintro e w1 ⟨rfl, hR1, hB1⟩)
    | (go_at_call 26; refine (HC.out w1 hR1).mono ?_; rintro e w2 ⟨rfl, hR2, hB2⟩; obtain ⟨g0, g1, g2, g3, g4, g5, g6, g7, g8, g9⟩ := hR2.cells; have hf2 := hR2.frozen)
    | (go_at_call 8; with_reducible refine (IMA.out _).mono ?_; rintro e w3 ⟨rfl, hb3⟩; have hR3 := (Row.mv hR2 k).below hb3; have hB3 := ((hB1.trans hB2).setCell HB.out (p := ⟨R, 3, none⟩) (.int .i32 k)).trans (hb3.mono (by have := hR2.lt; have := HB.out; simp [World.setCell]; omega)); obtain ⟨k30, k31, k32, k33, k34, k35, k36, k37, k38, k39⟩ := hR3.cells; have hf3 := hR3.frozen)
    | (go_at_call 27; refine (motion_w B R { t with move := k } vis v k _ HB.out hR3).mono ?_; rintro e w9 ⟨rfl, v9, hR9, hN9, hB9⟩))
  go_end0
  exact ⟨rfl, v9, hR9, hN9, hB3.trans hB9⟩
end Go.Proofs.Ytfhlohmhacfngaa.Ext
