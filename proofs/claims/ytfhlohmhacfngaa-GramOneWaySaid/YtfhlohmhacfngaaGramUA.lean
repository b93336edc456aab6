/- Ways through the grammar's verb and far. -/
import Derived.Test.YtfhlohmhacfngaaProg
import Derived.WalkKit
import Derived.WalkMore
import Derived.Deep.RegionWith
import Derived.BigQuiet
import Derived.Below
import Derived.KernelRfl
import Derived.Laws.Rows
import Derived.Laws.EntriesVeiled
import Derived.Test.YtfhlohmhacfngaaWWords
import Derived.Test.YtfhlohmhacfngaaGramR
set_option linter.unusedVariables false
set_option linter.unusedSimpArgs false
namespace Go.Proofs.Ytfhlohmhacfngaa.Ext
open Go.RowKit Go.Lib Go.Proofs.YtfhlohmhacfngaaW.PrintWords

set_option maxRecDepth 100000 in
set_option maxHeartbeats 8000000 in
theorem verb_A1 (B R : Nat) (s t : St) (k : Int) (v : Value) (w : World) (hB : B ≤ R)
    (hD : Calls Try.prog 25 #[.pointer (some ⟨R, 0, none⟩), .int .i32 k] w fun e w' => e = .returned (.bool false) ∧ Row w' R s false v ∧ Below B w w')
    (hC : ∀ w1, Row w1 R s false v → Calls Try.prog 26 #[.pointer (some ⟨R, 0, none⟩)] w1 fun e w' => e = .returned (.tuple #[]) ∧ Row w' R t false v ∧ Below B w1 w')
    (IM : ∀ w, Calls Try.prog 8 #[.int .i32 k] w fun e w' => e = .returned (.bool false) ∧ Below w.heap.size w w')
    (IO : ∀ w, Calls Try.prog 10 #[.int .i32 k] w fun e w' => e = .returned (.bool false) ∧ Below w.heap.size w w')
    (c114 : (k == 114) = true)
    : Calls Try.prog 20 #[.pointer (some ⟨R, 0, none⟩), .int .i32 k] w (Stp B R false ({ { t with verb := k } with nx := .aw true .sign }) w) := by
  have HB := Aside0.mk hB
  have HD := Aside0.mk hD
  have HC := Aside0.mk hC
  clear hB hD hC
  have IMA := Aside0.mk IM
  clear IM
  have IOA := Aside0.mk IO
  clear IO
  go_enter Try.func20, Try.ntmps20
  go_wp2_with (first
    | (go_at_call 25; refine HD.out.mono ?_; rintro e w1 ⟨rfl, hR1, hB1⟩)
    | (go_at_call 26; refine (HC.out w1 hR1).mono ?_; rintro e w2 ⟨rfl, hR2, hB2⟩; obtain ⟨g0, g1, g2, g3, g4, g5, g6, g7, g8, g9⟩ := hR2.cells; have hf2 := hR2.frozen)
    | (go_at_call 8; with_reducible refine (IMA.out _).mono ?_; rintro e w3 ⟨rfl, hb3⟩; have hR3 := (Row.vb hR2 k).below hb3; have hB3 := ((hB1.trans hB2).setCell HB.out (p := ⟨R, 2, none⟩) (.int .i32 k)).trans (hb3.mono (by have := hR2.lt; have := HB.out; simp [World.setCell]; omega)); obtain ⟨k30, k31, k32, k33, k34, k35, k36, k37, k38, k39⟩ := hR3.cells; have hf3 := hR3.frozen)
    | (go_at_call 10; with_reducible refine (IOA.out _).mono ?_; rintro e w4 ⟨rfl, hb4⟩; have hR4 := hR3.below hb4; have hB4 := hB3.trans (hb4.mono (by have := hR3.lt; have := HB.out; omega)); obtain ⟨k40, k41, k42, k43, k44, k45, k46, k47, k48, k49⟩ := hR4.cells; have hf4 := hR4.frozen)
    | (go_at_call 28; refine (awaits_w B R 0 { t with verb := k } false v true .sign _ HB.out hR4 (fun h => by cases h)).mono ?_; rintro e w9 ⟨rfl, v9, hR9, hN9, hB9⟩))
  go_end0
  exact ⟨rfl, v9, hR9, fun _ => hN9, hB4.trans hB9⟩
set_option maxRecDepth 100000 in
set_option maxHeartbeats 8000000 in
theorem verb_A2 (B R : Nat) (s t : St) (k : Int) (v : Value) (w : World) (hB : B ≤ R)
    (hD : Calls Try.prog 25 #[.pointer (some ⟨R, 0, none⟩), .int .i32 k] w fun e w' => e = .returned (.bool false) ∧ Row w' R s false v ∧ Below B w w')
    (hC : ∀ w1, Row w1 R s false v → Calls Try.prog 26 #[.pointer (some ⟨R, 0, none⟩)] w1 fun e w' => e = .returned (.tuple #[]) ∧ Row w' R t false v ∧ Below B w1 w')
    (IM : ∀ w, Calls Try.prog 8 #[.int .i32 k] w fun e w' => e = .returned (.bool false) ∧ Below w.heap.size w w')
    (IO : ∀ w, Calls Try.prog 10 #[.int .i32 k] w fun e w' => e = .returned (.bool false) ∧ Below w.heap.size w w')
    (I3 : ∀ w, Calls Try.prog 15 #[.int .i32 k, .string ⟨#[113, 64]⟩] w fun e w' => e = .returned (.bool false) ∧ Below w.heap.size w w')
    (I4 : ∀ w, Calls Try.prog 15 #[.int .i32 k, .string ⟨#[105, 97, 73, 65, 111, 79, 120, 88, 112, 80, 117, 46, 74, 118, 86, 58, 126]⟩] w fun e w' => e = .returned (.bool (inZ k tRest)) ∧ Below w.heap.size w w')
    (c114 : (k == 114) = false)
    (c18 : (k == 18) = false)
    (c27 : (k == 27) = false)
    : Calls Try.prog 20 #[.pointer (some ⟨R, 0, none⟩), .int .i32 k] w (Stp B R false (endsS { t with verb := k } (inZ k tRest)) w) := by
  have HB := Aside0.mk hB
  have HD := Aside0.mk hD
  have HC := Aside0.mk hC
  clear hB hD hC
  have IMA := Aside0.mk IM
  clear IM
  have IOA := Aside0.mk IO
  clear IO
  have I3A := Aside0.mk I3
  clear I3
  have I4A := Aside0.mk I4
  clear I4
  go_enter Try.func20, Try.ntmps20
  go_wp2_with (first
    | (go_at_call 25; refine HD.out.mono ?_; rintro e w1 ⟨rfl, hR1, hB1⟩)
    | (go_at_call 26; refine (HC.out w1 hR1).mono ?_; rintro e w2 ⟨rfl, hR2, hB2⟩; obtain ⟨g0, g1, g2, g3, g4, g5, g6, g7, g8, g9⟩ := hR2.cells; have hf2 := hR2.frozen)
    | (go_at_call 8; with_reducible refine (IMA.out _).mono ?_; rintro e w3 ⟨rfl, hb3⟩; have hR3 := (Row.vb hR2 k).below hb3; have hB3 := ((hB1.trans hB2).setCell HB.out (p := ⟨R, 2, none⟩) (.int .i32 k)).trans (hb3.mono (by have := hR2.lt; have := HB.out; simp [World.setCell]; omega)); obtain ⟨k30, k31, k32, k33, k34, k35, k36, k37, k38, k39⟩ := hR3.cells; have hf3 := hR3.frozen)
    | (go_at_call 10; with_reducible refine (IOA.out _).mono ?_; rintro e w4 ⟨rfl, hb4⟩; have hR4 := hR3.below hb4; have hB4 := hB3.trans (hb4.mono (by have := hR3.lt; have := HB.out; omega)); obtain ⟨k40, k41, k42, k43, k44, k45, k46, k47, k48, k49⟩ := hR4.cells; have hf4 := hR4.frozen)
    | (go_at_call 15; with_reducible refine (I3A.out _).mono ?_; rintro e w5 ⟨rfl, hb5⟩; have hR5 := hR4.below hb5; have hB5 := hB4.trans (hb5.mono (by have := hR4.lt; have := HB.out; omega)); obtain ⟨k50, k51, k52, k53, k54, k55, k56, k57, k58, k59⟩ := hR5.cells; have hf5 := hR5.frozen)
    | (go_at_call 15; with_reducible refine (I4A.out _).mono ?_; rintro e w6 ⟨rfl, hb6⟩; have hR6 := hR5.below hb6; have hB6 := hB5.trans (hb6.mono (by have := hR5.lt; have := HB.out; omega)); obtain ⟨k60, k61, k62, k63, k64, k65, k66, k67, k68, k69⟩ := hR6.cells; have hf6 := hR6.frozen)
    | (go_at_call 23; refine (ends_w B R { t with verb := k } false v (inZ k tRest) _ HB.out hR6).mono ?_; rintro e w9 ⟨rfl, hR9, hB9⟩))
  go_end0
  exact ⟨rfl, v, hR9, fun h => absurd h (by unfold endsS; cases hq : (inZ k tRest : Bool) <;> simp), hB6.trans hB9⟩
set_option maxRecDepth 100000 in
set_option maxHeartbeats 8000000 in
theorem verb_A3 (B R : Nat) (s t : St) (k : Int) (v : Value) (w : World) (hB : B ≤ R)
    (hD : Calls Try.prog 25 #[.pointer (some ⟨R, 0, none⟩), .int .i32 k] w fun e w' => e = .returned (.bool false) ∧ Row w' R s false v ∧ Below B w w')
    (hC : ∀ w1, Row w1 R s false v → Calls Try.prog 26 #[.pointer (some ⟨R, 0, none⟩)] w1 fun e w' => e = .returned (.tuple #[]) ∧ Row w' R t false v ∧ Below B w1 w')
    (IM : ∀ w, Calls Try.prog 8 #[.int .i32 k] w fun e w' => e = .returned (.bool false) ∧ Below w.heap.size w w')
    (IO : ∀ w, Calls Try.prog 10 #[.int .i32 k] w fun e w' => e = .returned (.bool false) ∧ Below w.heap.size w w')
    (I3 : ∀ w, Calls Try.prog 15 #[.int .i32 k, .string ⟨#[113, 64]⟩] w fun e w' => e = .returned (.bool false) ∧ Below w.heap.size w w')
    (c114 : (k == 114) = false)
    (c18 : (k == 18) = false)
    (c27 : (k == 27) = true)
    : Calls Try.prog 20 #[.pointer (some ⟨R, 0, none⟩), .int .i32 k] w (Stp B R false (endsS { t with verb := k } true) w) := by
  have HB := Aside0.mk hB
  have HD := Aside0.mk hD
  have HC := Aside0.mk hC
  clear hB hD hC
  have IMA := Aside0.mk IM
  clear IM
  have IOA := Aside0.mk IO
  clear IO
  have I3A := Aside0.mk I3
  clear I3
  go_enter Try.func20, Try.ntmps20
  go_wp2_with (first
    | (go_at_call 25; refine HD.out.mono ?_; rintro e w1 ⟨rfl, hR1, hB1⟩)
    | (go_at_call 26; refine (HC.out w1 hR1).mono ?_; rintro e w2 ⟨rfl, hR2, hB2⟩; obtain ⟨g0, g1, g2, g3, g4, g5, g6, g7, g8, g9⟩ := hR2.cells; have hf2 := hR2.frozen)
    | (go_at_call 8; with_reducible refine (IMA.out _).mono ?_; rintro e w3 ⟨rfl, hb3⟩; have hR3 := (Row.vb hR2 k).below hb3; have hB3 := ((hB1.trans hB2).setCell HB.out (p := ⟨R, 2, none⟩) (.int .i32 k)).trans (hb3.mono (by have := hR2.lt; have := HB.out; simp [World.setCell]; omega)); obtain ⟨k30, k31, k32, k33, k34, k35, k36, k37, k38, k39⟩ := hR3.cells; have hf3 := hR3.frozen)
    | (go_at_call 10; with_reducible refine (IOA.out _).mono ?_; rintro e w4 ⟨rfl, hb4⟩; have hR4 := hR3.below hb4; have hB4 := hB3.trans (hb4.mono (by have := hR3.lt; have := HB.out; omega)); obtain ⟨k40, k41, k42, k43, k44, k45, k46, k47, k48, k49⟩ := hR4.cells; have hf4 := hR4.frozen)
    | (go_at_call 15; with_reducible refine (I3A.out _).mono ?_; rintro e w5 ⟨rfl, hb5⟩; have hR5 := hR4.below hb5; have hB5 := hB4.trans (hb5.mono (by have := hR4.lt; have := HB.out; omega)); obtain ⟨k50, k51, k52, k53, k54, k55, k56, k57, k58, k59⟩ := hR5.cells; have hf5 := hR5.frozen)
    | (go_at_call 23; refine (ends_w B R { t with verb := k } false v true _ HB.out hR5).mono ?_; rintro e w9 ⟨rfl, hR9, hB9⟩))
  go_end0
  exact ⟨rfl, v, hR9, fun h => absurd h (by unfold endsS; cases hq : (true : Bool) <;> simp), hB5.trans hB9⟩
end Go.Proofs.Ytfhlohmhacfngaa.Ext
