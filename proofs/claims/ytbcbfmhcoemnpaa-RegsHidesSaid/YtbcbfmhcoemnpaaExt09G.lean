/- regs: Get and Copy, by their walks. -/
import Derived.Test.YtbcbfmhcoemnpaaExt09E
import Derived.Test.YtbcbfmhcoemnpaaXRRx2
import Derived.Test.YtbcbfmhcoemnpaaXRRx3
import Derived.Test.YtbcbfmhcoemnpaaXRRx4
import Derived.Test.YtbcbfmhcoemnpaaXRRx0
import Derived.Test.YtbcbfmhcoemnpaaWMore
import Derived.WalkKit
import Derived.WalkMore
import Derived.Below
import Derived.KernelRfl
import Derived.LoopTactic
import Derived.Deep.RegionWith
import Derived.Deep.RegionHeld3
import Derived.IntWalk
import Derived.Deep.DeepCutAuto
import Derived.Deep.CutBlock
import Derived.BigQuiet
import Derived.Laws.RangeString
import Derived.Laws.RangeAny
import Derived.Laws.Rows
import Derived.Laws.Runes
import Derived.Lib.OthersKept
import Derived.OpenShut
set_option linter.unusedVariables false
set_option linter.unusedSimpArgs false
namespace Go.Proofs.Ytbcbfmhcoemnpaa.Ext
open Go.RowKit Go.Lib Go.Proofs.YtbcbfmhcoemnpaaW.PrintWords Go.Proofs.YtbcbfmhcoemnpaaW.PrintMore Go.Proofs.Ytbcbfmhcoemnpaa.XRR

variable {bs : Nat}
/-- Which register a name for reading names. -/
def getI (n : Int) : Option Nat :=
  if pIs n = true then some (pAt n) else if n = 0 ∨ n = 34 then some 37 else if n = 45 then some 36 else if 48 ≤ n ∧ n ≤ 57 then some (n - 48).toNat else none
def getM (g : List Hs) (n : Int) : En × Int :=
  match getI n with
  | none => (⟨⟨#[]⟩, [], false⟩, 2)
  | some i => if (gd g i).is = true then (⟨(gd g i).s, (gd g i).l, (gd g i).b⟩, 0) else (⟨⟨#[]⟩, [], false⟩, 6)
abbrev GQ (w : World) (r : En × Int) (e : Ending) (w' : World) : Prop := ∃ v : Value, e = .returned (.tuple #[eV r.1.s v r.1.b, .int .i64 r.2]) ∧ Kd.R k58 58 w' w.heap.size (fun _ => True) v r.1.l ∧ Below w.heap.size w w'
theorem ra_nil (w : World) (B : Nat) : RA w B none 0 [] := ⟨Nat.le_refl _, fun w' _ => by
  obtain ⟨A, c, e, -, h⟩ := Kd.R_reads (Kd.R_nil k58 58 w' 0 (fun _ => True))
  injection e with e _ _
  subst e
  exact h⟩
abbrev zEn : En := ⟨⟨#[]⟩, [], false⟩
theorem get_end {w W : World} {B : Nat} {g : List Hs} {vs : List Value} (hs : LS bs w W B w.heap.size g vs zEn none 0) {s : ByteArray} {l : List Rn} {b : Bool} {A : Option Addr} {c base : Nat} (hb : w.heap.size ≤ base) (hr : Kd.R k58 58 W base (fun _ => True) (.slice A l.length c) l) : Kd.R k58 58 (put3 W w.heap.size s (.slice A l.length c) b) w.heap.size (fun _ => True) (.slice A l.length c) l ∧ Below w.heap.size w (put3 W w.heap.size s (.slice A l.length c) b) :=
  ⟨far_runs (Kd.R_lower hr hb) hs.ex.x (put3_grown _ _ _ _ _), below_set (below_set (below_set hs.bl (Nat.le_refl _)) (Nat.le_refl _)) (Nat.le_refl _)⟩
set_option maxRecDepth 100000 in
set_option maxHeartbeats 8000000 in
theorem Get_l1 (w : World) (B : Nat) (g : List Hs) (vs : List Value) (n : Int) (h : RG bs w B g vs) (h0 : -2147483648 ≤ n) (h1 : n ≤ 2147483647) (hp : pIs n = true) (hi : (gd g (pAt n)).is = true) (hl : (gd g (pAt n)).l.length ≤ 100000) :
    Calls Try.prog 12 #[.pointer (some ⟨B, 0, none⟩), .int .i32 n] w (GQ w (⟨(gd g (pAt n)).s, (gd g (pAt n)).l, (gd g (pAt n)).b⟩, 0)) := by
  have hS : LS bs w (w.alloc (.cells #[.string ⟨#[]⟩, .slice none 0 0, .bool false] 33)) B w.heap.size g vs zEn none 0 := LS.start (x := zEn) (A := none) (c := 0) h (ra_nil w B)
  have HS := Aside0.mk hS
  obtain ⟨l0, l1, l2, a0, a1, a2, f0, f1, f2⟩ := HS.out.facts; dsimp only [List.length_nil] at a0 a1 a2
  have HPL := Aside0.mk (fun w1 => place_w w1 n h0 h1)
  rw [hp] at HPL
  have hk := pAt_lt n
  generalize pAt n = k at *
  have k0 : (0 : Int) ≤ (k : Int) := by omega
  have k1 : (k : Int) < 38 := by omega
  obtain ⟨ti, ts, tl, tb, eg⟩ : ∃ ti ts tl tb, gd g k = ⟨ti, ts, tl, tb⟩ := ⟨_, _, _, _, rfl⟩
  rw [eg] at hi hl ⊢
  dsimp only at hi hl ⊢
  subst hi
  have hR := h.r k (by omega)
  rw [eg] at hR
  obtain ⟨A9, c9, e9⟩ := Kd.R_slice hR
  have HSL : Aside0 (∀ w1, LS bs w w1 B w.heap.size g vs zEn none 0 → w1.cell? ⟨B, 1 + k * 4, none⟩ = some (.bool true) ∧ w1.cell? ⟨B, 1 + k * 4 + 1, none⟩ = some (.string ts) ∧ w1.cell? ⟨B, 1 + k * 4 + 2, none⟩ = some (.slice A9 tl.length c9) ∧ w1.cell? ⟨B, 1 + k * 4 + 3, none⟩ = some (.bool tb)) := ⟨fun w1 hs => by
    have := hs.rg.cells k (by omega)
    rw [eg, e9] at this
    exact this⟩
  have HOW : Aside0 (∀ w1, LS bs w w1 B w.heap.size g vs zEn none 0 → Calls Try.prog 27 #[eV ts (.slice A9 tl.length c9) tb] w1 fun e w' => ∃ v : Value, e = .returned (eV ts v tb) ∧ Kd.R k58 58 w' w1.heap.size (fun _ => True) v tl ∧ Below w1.heap.size w1 w') := ⟨fun w1 hs => by
    have hR9 := hs.rg.r k (by omega)
    rw [eg, e9] at hR9
    obtain ⟨A8, c8, e8, hc8, hr8⟩ := Kd.R_reads hR9
    injection e8 with e8 e81 e82
    subst e8 e82
    exact own_w w1 ts A9 c9 tl tb hr8 hc8 hl⟩
  clear hS h hp hR eg e9 hl
  go_enter Try.func12, Try.ntmps12
  go_wp2_with (first | ((go_at_call 25; (with_reducible refine (HPL.out _).mono ?_); rintro e w2 ⟨rfl, hd2⟩; have HS := Aside0.mk (HS.out.below (below_step (by repeat (first | (with_reducible first | exact Below.refl _ _ | apply pw_below_drewN | apply below_alloc | apply below_drew) | exact Below.refl _ _)) (drawn_below hd2))); clear hd2 l0 l1 l2 a0 a1 a2 f0 f1 f2; obtain ⟨l0, l1, l2, a0, a1, a2, f0, f1, f2⟩ := HS.out.facts; dsimp only [List.length_nil] at a0 a1 a2); obtain ⟨s0, s1, s2, s3⟩ := HSL.out _ HS.out) | (go_at_call 26; (with_reducible refine (good_w _ B g vs HS.out.rg).mono ?_); rintro e w3 ⟨rfl, rfl⟩) | (go_at_call 27; (with_reducible refine (HOW.out _ HS.out).mono ?_); rintro e w7 ⟨v7, rfl, hr7, hb7⟩; obtain ⟨A7, c7, e7⟩ := Kd.R_slice hr7; subst e7; have HR7 := Aside0.mk hr7; have HL7 := Aside0.mk HS.out.bl.size; have HS := Aside0.mk (HS.out.below hb7); clear hr7 hb7 l0 l1 l2 a0 a1 a2 f0 f1 f2 s0 s1 s2 s3; obtain ⟨l0, l1, l2, a0, a1, a2, f0, f1, f2⟩ := HS.out.facts; dsimp only [List.length_nil] at a0 a1 a2))
  obtain ⟨hr, hb⟩ := get_end HS.out (s := ts) (b := tb) HL7.out HR7.out
  exact bodyPost_ret (v := .tuple #[eV ts (.slice A7 tl.length c7) tb, .int .i64 0]) (by simp [results, Try.results12, go_sem, a0, a1, a2, f0, f1, f2, l1]) rfl ⟨_, rfl, hr, hb⟩
set_option maxRecDepth 100000 in
set_option maxHeartbeats 8000000 in
theorem Get_l0 (w : World) (B : Nat) (g : List Hs) (vs : List Value) (n : Int) (h : RG bs w B g vs) (h0 : -2147483648 ≤ n) (h1 : n ≤ 2147483647) (hp : pIs n = true) (hi : (gd g (pAt n)).is = false) :
    Calls Try.prog 12 #[.pointer (some ⟨B, 0, none⟩), .int .i32 n] w (GQ w (zEn, 6)) := by
  have hS : LS bs w (w.alloc (.cells #[.string ⟨#[]⟩, .slice none 0 0, .bool false] 33)) B w.heap.size g vs zEn none 0 := LS.start (x := zEn) (A := none) (c := 0) h (ra_nil w B)
  have HS := Aside0.mk hS
  obtain ⟨l0, l1, l2, a0, a1, a2, f0, f1, f2⟩ := HS.out.facts; dsimp only [List.length_nil] at a0 a1 a2
  have HPL := Aside0.mk (fun w1 => place_w w1 n h0 h1)
  rw [hp] at HPL
  have hk := pAt_lt n
  generalize pAt n = k at *
  have k0 : (0 : Int) ≤ (k : Int) := by omega
  have k1 : (k : Int) < 38 := by omega
  have HSL : Aside0 (∀ w1, LS bs w w1 B w.heap.size g vs zEn none 0 → w1.cell? ⟨B, 1 + k * 4, none⟩ = some (.bool false)) := ⟨fun w1 hs => hi ▸ (hs.rg.cells k (by omega)).1⟩
  clear hS h hp hi
  go_enter Try.func12, Try.ntmps12
  go_wp2_with (first | ((go_at_call 25; (with_reducible refine (HPL.out _).mono ?_); rintro e w2 ⟨rfl, hd2⟩; have HS := Aside0.mk (HS.out.below (below_step (by repeat (first | (with_reducible first | exact Below.refl _ _ | apply pw_below_drewN | apply below_alloc | apply below_drew) | exact Below.refl _ _)) (drawn_below hd2))); clear hd2 l0 l1 l2 a0 a1 a2 f0 f1 f2; obtain ⟨l0, l1, l2, a0, a1, a2, f0, f1, f2⟩ := HS.out.facts; dsimp only [List.length_nil] at a0 a1 a2); have s0 := HSL.out _ HS.out) | (go_at_call 26; (with_reducible refine (good_w _ B g vs HS.out.rg).mono ?_); rintro e w3 ⟨rfl, rfl⟩))
  obtain ⟨hr, hb⟩ := get_end HS.out (s := ⟨#[]⟩) (l := []) (b := false) (A := none) (c := 0) (Nat.le_refl _) (Kd.R_nil _ _ _ _ _)
  exact bodyPost_ret (v := .tuple #[eV ⟨#[]⟩ (.slice none 0 0) false, .int .i64 6]) (by simp [results, Try.results12, go_sem, a0, a1, a2, f0, f1, f2, l1]) rfl ⟨_, rfl, hr, hb⟩
set_option maxRecDepth 100000 in
set_option maxHeartbeats 8000000 in
theorem Get_01 (w : World) (B : Nat) (g : List Hs) (vs : List Value) (n : Int) (h : RG bs w B g vs) (h0 : -2147483648 ≤ n) (h1 : n ≤ 2147483647) (hp : pIs n = false) (n0 : (n == 0) = true) (hi : (gd g (37)).is = true) (hl : (gd g (37)).l.length ≤ 100000) :
    Calls Try.prog 12 #[.pointer (some ⟨B, 0, none⟩), .int .i32 n] w (GQ w (⟨(gd g (37)).s, (gd g (37)).l, (gd g (37)).b⟩, 0)) := by
  have hS : LS bs w (w.alloc (.cells #[.string ⟨#[]⟩, .slice none 0 0, .bool false] 33)) B w.heap.size g vs zEn none 0 := LS.start (x := zEn) (A := none) (c := 0) h (ra_nil w B)
  have HS := Aside0.mk hS
  obtain ⟨l0, l1, l2, a0, a1, a2, f0, f1, f2⟩ := HS.out.facts; dsimp only [List.length_nil] at a0 a1 a2
  have HPL := Aside0.mk (fun w1 => place_w w1 n h0 h1)
  rw [hp] at HPL
  obtain ⟨ti, ts, tl, tb, eg⟩ : ∃ ti ts tl tb, gd g 37 = ⟨ti, ts, tl, tb⟩ := ⟨_, _, _, _, rfl⟩
  rw [eg] at hi hl ⊢
  dsimp only at hi hl ⊢
  subst hi
  have hR := h.r 37 (by omega)
  rw [eg] at hR
  obtain ⟨A9, c9, e9⟩ := Kd.R_slice hR
  have HSL : Aside0 (∀ w1, LS bs w w1 B w.heap.size g vs zEn none 0 → w1.cell? ⟨B, 149, none⟩ = some (.bool true) ∧ w1.cell? ⟨B, 150, none⟩ = some (.string ts) ∧ w1.cell? ⟨B, 151, none⟩ = some (.slice A9 tl.length c9) ∧ w1.cell? ⟨B, 152, none⟩ = some (.bool tb)) := ⟨fun w1 hs => by
    have := hs.rg.cells 37 (by omega)
    rw [eg, e9] at this
    exact this⟩
  have HOW : Aside0 (∀ w1, LS bs w w1 B w.heap.size g vs zEn none 0 → Calls Try.prog 27 #[eV ts (.slice A9 tl.length c9) tb] w1 fun e w' => ∃ v : Value, e = .returned (eV ts v tb) ∧ Kd.R k58 58 w' w1.heap.size (fun _ => True) v tl ∧ Below w1.heap.size w1 w') := ⟨fun w1 hs => by
    have hR9 := hs.rg.r 37 (by omega)
    rw [eg, e9] at hR9
    obtain ⟨A8, c8, e8, hc8, hr8⟩ := Kd.R_reads hR9
    injection e8 with e8 e81 e82
    subst e8 e82
    exact own_w w1 ts A9 c9 tl tb hr8 hc8 hl⟩
  clear hS h hp hR eg e9 hl
  go_enter Try.func12, Try.ntmps12
  go_wp2_with (first | ((go_at_call 25; (with_reducible refine (HPL.out _).mono ?_); rintro e w2 ⟨rfl, hd2⟩; have HS := Aside0.mk (HS.out.below (below_step (by repeat (first | (with_reducible first | exact Below.refl _ _ | apply pw_below_drewN | apply below_alloc | apply below_drew) | exact Below.refl _ _)) (drawn_below hd2))); clear hd2 l0 l1 l2 a0 a1 a2 f0 f1 f2; obtain ⟨l0, l1, l2, a0, a1, a2, f0, f1, f2⟩ := HS.out.facts; dsimp only [List.length_nil] at a0 a1 a2); obtain ⟨s0, s1, s2, s3⟩ := HSL.out _ HS.out) | (go_at_call 26; (with_reducible refine (good_w _ B g vs HS.out.rg).mono ?_); rintro e w3 ⟨rfl, rfl⟩) | (go_at_call 27; (with_reducible refine (HOW.out _ HS.out).mono ?_); rintro e w7 ⟨v7, rfl, hr7, hb7⟩; obtain ⟨A7, c7, e7⟩ := Kd.R_slice hr7; subst e7; have HR7 := Aside0.mk hr7; have HL7 := Aside0.mk HS.out.bl.size; have HS := Aside0.mk (HS.out.below hb7); clear hr7 hb7 l0 l1 l2 a0 a1 a2 f0 f1 f2 s0 s1 s2 s3; obtain ⟨l0, l1, l2, a0, a1, a2, f0, f1, f2⟩ := HS.out.facts; dsimp only [List.length_nil] at a0 a1 a2))
  obtain ⟨hr, hb⟩ := get_end HS.out (s := ts) (b := tb) HL7.out HR7.out
  exact bodyPost_ret (v := .tuple #[eV ts (.slice A7 tl.length c7) tb, .int .i64 0]) (by simp [results, Try.results12, go_sem, a0, a1, a2, f0, f1, f2, l1]) rfl ⟨_, rfl, hr, hb⟩
set_option maxRecDepth 100000 in
set_option maxHeartbeats 8000000 in
theorem Get_00 (w : World) (B : Nat) (g : List Hs) (vs : List Value) (n : Int) (h : RG bs w B g vs) (h0 : -2147483648 ≤ n) (h1 : n ≤ 2147483647) (hp : pIs n = false) (n0 : (n == 0) = true) (hi : (gd g (37)).is = false) :
    Calls Try.prog 12 #[.pointer (some ⟨B, 0, none⟩), .int .i32 n] w (GQ w (zEn, 6)) := by
  have hS : LS bs w (w.alloc (.cells #[.string ⟨#[]⟩, .slice none 0 0, .bool false] 33)) B w.heap.size g vs zEn none 0 := LS.start (x := zEn) (A := none) (c := 0) h (ra_nil w B)
  have HS := Aside0.mk hS
  obtain ⟨l0, l1, l2, a0, a1, a2, f0, f1, f2⟩ := HS.out.facts; dsimp only [List.length_nil] at a0 a1 a2
  have HPL := Aside0.mk (fun w1 => place_w w1 n h0 h1)
  rw [hp] at HPL
  have HSL : Aside0 (∀ w1, LS bs w w1 B w.heap.size g vs zEn none 0 → w1.cell? ⟨B, 149, none⟩ = some (.bool false)) := ⟨fun w1 hs => hi ▸ (hs.rg.cells 37 (by omega)).1⟩
  clear hS h hp hi
  go_enter Try.func12, Try.ntmps12
  go_wp2_with (first | ((go_at_call 25; (with_reducible refine (HPL.out _).mono ?_); rintro e w2 ⟨rfl, hd2⟩; have HS := Aside0.mk (HS.out.below (below_step (by repeat (first | (with_reducible first | exact Below.refl _ _ | apply pw_below_drewN | apply below_alloc | apply below_drew) | exact Below.refl _ _)) (drawn_below hd2))); clear hd2 l0 l1 l2 a0 a1 a2 f0 f1 f2; obtain ⟨l0, l1, l2, a0, a1, a2, f0, f1, f2⟩ := HS.out.facts; dsimp only [List.length_nil] at a0 a1 a2); have s0 := HSL.out _ HS.out) | (go_at_call 26; (with_reducible refine (good_w _ B g vs HS.out.rg).mono ?_); rintro e w3 ⟨rfl, rfl⟩))
  obtain ⟨hr, hb⟩ := get_end HS.out (s := ⟨#[]⟩) (l := []) (b := false) (A := none) (c := 0) (Nat.le_refl _) (Kd.R_nil _ _ _ _ _)
  exact bodyPost_ret (v := .tuple #[eV ⟨#[]⟩ (.slice none 0 0) false, .int .i64 6]) (by simp [results, Try.results12, go_sem, a0, a1, a2, f0, f1, f2, l1]) rfl ⟨_, rfl, hr, hb⟩
set_option maxRecDepth 100000 in
set_option maxHeartbeats 8000000 in
theorem Get_341 (w : World) (B : Nat) (g : List Hs) (vs : List Value) (n : Int) (h : RG bs w B g vs) (h0 : -2147483648 ≤ n) (h1 : n ≤ 2147483647) (hp : pIs n = false) (n0 : (n == 0) = false) (n1 : (n == 34) = true) (hi : (gd g (37)).is = true) (hl : (gd g (37)).l.length ≤ 100000) :
    Calls Try.prog 12 #[.pointer (some ⟨B, 0, none⟩), .int .i32 n] w (GQ w (⟨(gd g (37)).s, (gd g (37)).l, (gd g (37)).b⟩, 0)) := by
  have hS : LS bs w (w.alloc (.cells #[.string ⟨#[]⟩, .slice none 0 0, .bool false] 33)) B w.heap.size g vs zEn none 0 := LS.start (x := zEn) (A := none) (c := 0) h (ra_nil w B)
  have HS := Aside0.mk hS
  obtain ⟨l0, l1, l2, a0, a1, a2, f0, f1, f2⟩ := HS.out.facts; dsimp only [List.length_nil] at a0 a1 a2
  have HPL := Aside0.mk (fun w1 => place_w w1 n h0 h1)
  rw [hp] at HPL
  obtain ⟨ti, ts, tl, tb, eg⟩ : ∃ ti ts tl tb, gd g 37 = ⟨ti, ts, tl, tb⟩ := ⟨_, _, _, _, rfl⟩
  rw [eg] at hi hl ⊢
  dsimp only at hi hl ⊢
  subst hi
  have hR := h.r 37 (by omega)
  rw [eg] at hR
  obtain ⟨A9, c9, e9⟩ := Kd.R_slice hR
  have HSL : Aside0 (∀ w1, LS bs w w1 B w.heap.size g vs zEn none 0 → w1.cell? ⟨B, 149, none⟩ = some (.bool true) ∧ w1.cell? ⟨B, 150, none⟩ = some (.string ts) ∧ w1.cell? ⟨B, 151, none⟩ = some (.slice A9 tl.length c9) ∧ w1.cell? ⟨B, 152, none⟩ = some (.bool tb)) := ⟨fun w1 hs => by
    have := hs.rg.cells 37 (by omega)
    rw [eg, e9] at this
    exact this⟩
  have HOW : Aside0 (∀ w1, LS bs w w1 B w.heap.size g vs zEn none 0 → Calls Try.prog 27 #[eV ts (.slice A9 tl.length c9) tb] w1 fun e w' => ∃ v : Value, e = .returned (eV ts v tb) ∧ Kd.R k58 58 w' w1.heap.size (fun _ => True) v tl ∧ Below w1.heap.size w1 w') := ⟨fun w1 hs => by
    have hR9 := hs.rg.r 37 (by omega)
    rw [eg, e9] at hR9
    obtain ⟨A8, c8, e8, hc8, hr8⟩ := Kd.R_reads hR9
    injection e8 with e8 e81 e82
    subst e8 e82
    exact own_w w1 ts A9 c9 tl tb hr8 hc8 hl⟩
  clear hS h hp hR eg e9 hl
  go_enter Try.func12, Try.ntmps12
  go_wp2_with (first | ((go_at_call 25; (with_reducible refine (HPL.out _).mono ?_); rintro e w2 ⟨rfl, hd2⟩; have HS := Aside0.mk (HS.out.below (below_step (by repeat (first | (with_reducible first | exact Below.refl _ _ | apply pw_below_drewN | apply below_alloc | apply below_drew) | exact Below.refl _ _)) (drawn_below hd2))); clear hd2 l0 l1 l2 a0 a1 a2 f0 f1 f2; obtain ⟨l0, l1, l2, a0, a1, a2, f0, f1, f2⟩ := HS.out.facts; dsimp only [List.length_nil] at a0 a1 a2); obtain ⟨s0, s1, s2, s3⟩ := HSL.out _ HS.out) | (go_at_call 26; (with_reducible refine (good_w _ B g vs HS.out.rg).mono ?_); rintro e w3 ⟨rfl, rfl⟩) | (go_at_call 27; (with_reducible refine (HOW.out _ HS.out).mono ?_); rintro e w7 ⟨v7, rfl, hr7, hb7⟩; obtain ⟨A7, c7, e7⟩ := Kd.R_slice hr7; subst e7; have HR7 := Aside0.mk hr7; have HL7 := Aside0.mk HS.out.bl.size; have HS := Aside0.mk (HS.out.below hb7); clear hr7 hb7 l0 l1 l2 a0 a1 a2 f0 f1 f2 s0 s1 s2 s3; obtain ⟨l0, l1, l2, a0, a1, a2, f0, f1, f2⟩ := HS.out.facts; dsimp only [List.length_nil] at a0 a1 a2))
  obtain ⟨hr, hb⟩ := get_end HS.out (s := ts) (b := tb) HL7.out HR7.out
  exact bodyPost_ret (v := .tuple #[eV ts (.slice A7 tl.length c7) tb, .int .i64 0]) (by simp [results, Try.results12, go_sem, a0, a1, a2, f0, f1, f2, l1]) rfl ⟨_, rfl, hr, hb⟩
set_option maxRecDepth 100000 in
set_option maxHeartbeats 8000000 in
theorem Get_340 (w : World) (B : Nat) (g : List Hs) (vs : List Value) (n : Int) (h : RG bs w B g vs) (h0 : -2147483648 ≤ n) (h1 : n ≤ 2147483647) (hp : pIs n = false) (n0 : (n == 0) = false) (n1 : (n == 34) = true) (hi : (gd g (37)).is = false) :
    Calls Try.prog 12 #[.pointer (some ⟨B, 0, none⟩), .int .i32 n] w (GQ w (zEn, 6)) := by
  have hS : LS bs w (w.alloc (.cells #[.string ⟨#[]⟩, .slice none 0 0, .bool false] 33)) B w.heap.size g vs zEn none 0 := LS.start (x := zEn) (A := none) (c := 0) h (ra_nil w B)
  have HS := Aside0.mk hS
  obtain ⟨l0, l1, l2, a0, a1, a2, f0, f1, f2⟩ := HS.out.facts; dsimp only [List.length_nil] at a0 a1 a2
  have HPL := Aside0.mk (fun w1 => place_w w1 n h0 h1)
  rw [hp] at HPL
  have HSL : Aside0 (∀ w1, LS bs w w1 B w.heap.size g vs zEn none 0 → w1.cell? ⟨B, 149, none⟩ = some (.bool false)) := ⟨fun w1 hs => hi ▸ (hs.rg.cells 37 (by omega)).1⟩
  clear hS h hp hi
  go_enter Try.func12, Try.ntmps12
  go_wp2_with (first | ((go_at_call 25; (with_reducible refine (HPL.out _).mono ?_); rintro e w2 ⟨rfl, hd2⟩; have HS := Aside0.mk (HS.out.below (below_step (by repeat (first | (with_reducible first | exact Below.refl _ _ | apply pw_below_drewN | apply below_alloc | apply below_drew) | exact Below.refl _ _)) (drawn_below hd2))); clear hd2 l0 l1 l2 a0 a1 a2 f0 f1 f2; obtain ⟨l0, l1, l2, a0, a1, a2, f0, f1, f2⟩ := HS.out.facts; dsimp only [List.length_nil] at a0 a1 a2); have s0 := HSL.out _ HS.out) | (go_at_call 26; (with_reducible refine (good_w _ B g vs HS.out.rg).mono ?_); rintro e w3 ⟨rfl, rfl⟩))
  obtain ⟨hr, hb⟩ := get_end HS.out (s := ⟨#[]⟩) (l := []) (b := false) (A := none) (c := 0) (Nat.le_refl _) (Kd.R_nil _ _ _ _ _)
  exact bodyPost_ret (v := .tuple #[eV ⟨#[]⟩ (.slice none 0 0) false, .int .i64 6]) (by simp [results, Try.results12, go_sem, a0, a1, a2, f0, f1, f2, l1]) rfl ⟨_, rfl, hr, hb⟩
set_option maxRecDepth 100000 in
set_option maxHeartbeats 8000000 in
theorem Get_451 (w : World) (B : Nat) (g : List Hs) (vs : List Value) (n : Int) (h : RG bs w B g vs) (h0 : -2147483648 ≤ n) (h1 : n ≤ 2147483647) (hp : pIs n = false) (n0 : (n == 0) = false) (n1 : (n == 34) = false) (n2 : (n == 45) = true) (hi : (gd g (36)).is = true) (hl : (gd g (36)).l.length ≤ 100000) :
    Calls Try.prog 12 #[.pointer (some ⟨B, 0, none⟩), .int .i32 n] w (GQ w (⟨(gd g (36)).s, (gd g (36)).l, (gd g (36)).b⟩, 0)) := by
  have hS : LS bs w (w.alloc (.cells #[.string ⟨#[]⟩, .slice none 0 0, .bool false] 33)) B w.heap.size g vs zEn none 0 := LS.start (x := zEn) (A := none) (c := 0) h (ra_nil w B)
  have HS := Aside0.mk hS
  obtain ⟨l0, l1, l2, a0, a1, a2, f0, f1, f2⟩ := HS.out.facts; dsimp only [List.length_nil] at a0 a1 a2
  have HPL := Aside0.mk (fun w1 => place_w w1 n h0 h1)
  rw [hp] at HPL
  obtain ⟨ti, ts, tl, tb, eg⟩ : ∃ ti ts tl tb, gd g 36 = ⟨ti, ts, tl, tb⟩ := ⟨_, _, _, _, rfl⟩
  rw [eg] at hi hl ⊢
  dsimp only at hi hl ⊢
  subst hi
  have hR := h.r 36 (by omega)
  rw [eg] at hR
  obtain ⟨A9, c9, e9⟩ := Kd.R_slice hR
  have HSL : Aside0 (∀ w1, LS bs w w1 B w.heap.size g vs zEn none 0 → w1.cell? ⟨B, 145, none⟩ = some (.bool true) ∧ w1.cell? ⟨B, 146, none⟩ = some (.string ts) ∧ w1.cell? ⟨B, 147, none⟩ = some (.slice A9 tl.length c9) ∧ w1.cell? ⟨B, 148, none⟩ = some (.bool tb)) := ⟨fun w1 hs => by
    have := hs.rg.cells 36 (by omega)
    rw [eg, e9] at this
    exact this⟩
  have HOW : Aside0 (∀ w1, LS bs w w1 B w.heap.size g vs zEn none 0 → Calls Try.prog 27 #[eV ts (.slice A9 tl.length c9) tb] w1 fun e w' => ∃ v : Value, e = .returned (eV ts v tb) ∧ Kd.R k58 58 w' w1.heap.size (fun _ => True) v tl ∧ Below w1.heap.size w1 w') := ⟨fun w1 hs => by
    have hR9 := hs.rg.r 36 (by omega)
    rw [eg, e9] at hR9
    obtain ⟨A8, c8, e8, hc8, hr8⟩ := Kd.R_reads hR9
    injection e8 with e8 e81 e82
    subst e8 e82
    exact own_w w1 ts A9 c9 tl tb hr8 hc8 hl⟩
  clear hS h hp hR eg e9 hl
  go_enter Try.func12, Try.ntmps12
  go_wp2_with (first | ((go_at_call 25; (with_reducible refine (HPL.out _).mono ?_); rintro e w2 ⟨rfl, hd2⟩; have HS := Aside0.mk (HS.out.below (below_step (by repeat (first | (with_reducible first | exact Below.refl _ _ | apply pw_below_drewN | apply below_alloc | apply below_drew) | exact Below.refl _ _)) (drawn_below hd2))); clear hd2 l0 l1 l2 a0 a1 a2 f0 f1 f2; obtain ⟨l0, l1, l2, a0, a1, a2, f0, f1, f2⟩ := HS.out.facts; dsimp only [List.length_nil] at a0 a1 a2); obtain ⟨s0, s1, s2, s3⟩ := HSL.out _ HS.out) | (go_at_call 26; (with_reducible refine (good_w _ B g vs HS.out.rg).mono ?_); rintro e w3 ⟨rfl, rfl⟩) | (go_at_call 27; (with_reducible refine (HOW.out _ HS.out).mono ?_); rintro e w7 ⟨v7, rfl, hr7, hb7⟩; obtain ⟨A7, c7, e7⟩ := Kd.R_slice hr7; subst e7; have HR7 := Aside0.mk hr7; have HL7 := Aside0.mk HS.out.bl.size; have HS := Aside0.mk (HS.out.below hb7); clear hr7 hb7 l0 l1 l2 a0 a1 a2 f0 f1 f2 s0 s1 s2 s3; obtain ⟨l0, l1, l2, a0, a1, a2, f0, f1, f2⟩ := HS.out.facts; dsimp only [List.length_nil] at a0 a1 a2))
  obtain ⟨hr, hb⟩ := get_end HS.out (s := ts) (b := tb) HL7.out HR7.out
  exact bodyPost_ret (v := .tuple #[eV ts (.slice A7 tl.length c7) tb, .int .i64 0]) (by simp [results, Try.results12, go_sem, a0, a1, a2, f0, f1, f2, l1]) rfl ⟨_, rfl, hr, hb⟩
set_option maxRecDepth 100000 in
set_option maxHeartbeats 8000000 in
theorem Get_450 (w : World) (B : Nat) (g : List Hs) (vs : List Value) (n : Int) (h : RG bs w B g vs) (h0 : -2147483648 ≤ n) (h1 : n ≤ 2147483647) (hp : pIs n = false) (n0 : (n == 0) = false) (n1 : (n == 34) = false) (n2 : (n == 45) = true) (hi : (gd g (36)).is = false) :
    Calls Try.prog 12 #[.pointer (some ⟨B, 0, none⟩), .int .i32 n] w (GQ w (zEn, 6)) := by
  have hS : LS bs w (w.alloc (.cells #[.string ⟨#[]⟩, .slice none 0 0, .bool false] 33)) B w.heap.size g vs zEn none 0 := LS.start (x := zEn) (A := none) (c := 0) h (ra_nil w B)
  have HS := Aside0.mk hS
  obtain ⟨l0, l1, l2, a0, a1, a2, f0, f1, f2⟩ := HS.out.facts; dsimp only [List.length_nil] at a0 a1 a2
  have HPL := Aside0.mk (fun w1 => place_w w1 n h0 h1)
  rw [hp] at HPL
  have HSL : Aside0 (∀ w1, LS bs w w1 B w.heap.size g vs zEn none 0 → w1.cell? ⟨B, 145, none⟩ = some (.bool false)) := ⟨fun w1 hs => hi ▸ (hs.rg.cells 36 (by omega)).1⟩
  clear hS h hp hi
  go_enter Try.func12, Try.ntmps12
  go_wp2_with (first | ((go_at_call 25; (with_reducible refine (HPL.out _).mono ?_); rintro e w2 ⟨rfl, hd2⟩; have HS := Aside0.mk (HS.out.below (below_step (by repeat (first | (with_reducible first | exact Below.refl _ _ | apply pw_below_drewN | apply below_alloc | apply below_drew) | exact Below.refl _ _)) (drawn_below hd2))); clear hd2 l0 l1 l2 a0 a1 a2 f0 f1 f2; obtain ⟨l0, l1, l2, a0, a1, a2, f0, f1, f2⟩ := HS.out.facts; dsimp only [List.length_nil] at a0 a1 a2); have s0 := HSL.out _ HS.out) | (go_at_call 26; (with_reducible refine (good_w _ B g vs HS.out.rg).mono ?_); rintro e w3 ⟨rfl, rfl⟩))
  obtain ⟨hr, hb⟩ := get_end HS.out (s := ⟨#[]⟩) (l := []) (b := false) (A := none) (c := 0) (Nat.le_refl _) (Kd.R_nil _ _ _ _ _)
  exact bodyPost_ret (v := .tuple #[eV ⟨#[]⟩ (.slice none 0 0) false, .int .i64 6]) (by simp [results, Try.results12, go_sem, a0, a1, a2, f0, f1, f2, l1]) rfl ⟨_, rfl, hr, hb⟩
set_option maxRecDepth 100000 in
set_option maxHeartbeats 8000000 in
theorem Get_d1 (w : World) (B : Nat) (g : List Hs) (vs : List Value) (n : Int) (h : RG bs w B g vs) (h0 : -2147483648 ≤ n) (h1 : n ≤ 2147483647) (hp : pIs n = false) (n0 : (n == 0) = false) (n1 : (n == 34) = false) (n2 : (n == 45) = false) (k : Nat) (hk : k < 10) (n3 : decide (48 ≤ n) = true) (n4 : decide (n ≤ 57) = true) (n5 : n - 48 = (k : Int)) (hi : (gd g (k)).is = true) (hl : (gd g (k)).l.length ≤ 100000) :
    Calls Try.prog 12 #[.pointer (some ⟨B, 0, none⟩), .int .i32 n] w (GQ w (⟨(gd g (k)).s, (gd g (k)).l, (gd g (k)).b⟩, 0)) := by
  have hS : LS bs w (w.alloc (.cells #[.string ⟨#[]⟩, .slice none 0 0, .bool false] 33)) B w.heap.size g vs zEn none 0 := LS.start (x := zEn) (A := none) (c := 0) h (ra_nil w B)
  have HS := Aside0.mk hS
  obtain ⟨l0, l1, l2, a0, a1, a2, f0, f1, f2⟩ := HS.out.facts; dsimp only [List.length_nil] at a0 a1 a2
  have HPL := Aside0.mk (fun w1 => place_w w1 n h0 h1)
  rw [hp] at HPL
  have k0 : (0 : Int) ≤ (k : Int) := by omega
  have k1 : (k : Int) < 38 := by omega
  have w1 : wrap32 (k : Int) = (k : Int) := by unfold wrap32; omega
  have w2 : wrap64 (k : Int) = (k : Int) := IntWalk.wrap64_in _ ⟨by omega, by omega⟩
  obtain ⟨ti, ts, tl, tb, eg⟩ : ∃ ti ts tl tb, gd g k = ⟨ti, ts, tl, tb⟩ := ⟨_, _, _, _, rfl⟩
  rw [eg] at hi hl ⊢
  dsimp only at hi hl ⊢
  subst hi
  have hR := h.r k (by omega)
  rw [eg] at hR
  obtain ⟨A9, c9, e9⟩ := Kd.R_slice hR
  have HSL : Aside0 (∀ w1, LS bs w w1 B w.heap.size g vs zEn none 0 → w1.cell? ⟨B, 1 + k * 4, none⟩ = some (.bool true) ∧ w1.cell? ⟨B, 1 + k * 4 + 1, none⟩ = some (.string ts) ∧ w1.cell? ⟨B, 1 + k * 4 + 2, none⟩ = some (.slice A9 tl.length c9) ∧ w1.cell? ⟨B, 1 + k * 4 + 3, none⟩ = some (.bool tb)) := ⟨fun w1 hs => by
    have := hs.rg.cells k (by omega)
    rw [eg, e9] at this
    exact this⟩
  have HOW : Aside0 (∀ w1, LS bs w w1 B w.heap.size g vs zEn none 0 → Calls Try.prog 27 #[eV ts (.slice A9 tl.length c9) tb] w1 fun e w' => ∃ v : Value, e = .returned (eV ts v tb) ∧ Kd.R k58 58 w' w1.heap.size (fun _ => True) v tl ∧ Below w1.heap.size w1 w') := ⟨fun w1 hs => by
    have hR9 := hs.rg.r k (by omega)
    rw [eg, e9] at hR9
    obtain ⟨A8, c8, e8, hc8, hr8⟩ := Kd.R_reads hR9
    injection e8 with e8 e81 e82
    subst e8 e82
    exact own_w w1 ts A9 c9 tl tb hr8 hc8 hl⟩
  clear hS h hp hR eg e9 hl
  go_enter Try.func12, Try.ntmps12
  go_wp2_with (first | ((go_at_call 25; (with_reducible refine (HPL.out _).mono ?_); rintro e w2 ⟨rfl, hd2⟩; have HS := Aside0.mk (HS.out.below (below_step (by repeat (first | (with_reducible first | exact Below.refl _ _ | apply pw_below_drewN | apply below_alloc | apply below_drew) | exact Below.refl _ _)) (drawn_below hd2))); clear hd2 l0 l1 l2 a0 a1 a2 f0 f1 f2; obtain ⟨l0, l1, l2, a0, a1, a2, f0, f1, f2⟩ := HS.out.facts; dsimp only [List.length_nil] at a0 a1 a2); obtain ⟨s0, s1, s2, s3⟩ := HSL.out _ HS.out) | (go_at_call 26; (with_reducible refine (good_w _ B g vs HS.out.rg).mono ?_); rintro e w3 ⟨rfl, rfl⟩) | (go_at_call 27; (with_reducible refine (HOW.out _ HS.out).mono ?_); rintro e w7 ⟨v7, rfl, hr7, hb7⟩; obtain ⟨A7, c7, e7⟩ := Kd.R_slice hr7; subst e7; have HR7 := Aside0.mk hr7; have HL7 := Aside0.mk HS.out.bl.size; have HS := Aside0.mk (HS.out.below hb7); clear hr7 hb7 l0 l1 l2 a0 a1 a2 f0 f1 f2 s0 s1 s2 s3; obtain ⟨l0, l1, l2, a0, a1, a2, f0, f1, f2⟩ := HS.out.facts; dsimp only [List.length_nil] at a0 a1 a2))
  obtain ⟨hr, hb⟩ := get_end HS.out (s := ts) (b := tb) HL7.out HR7.out
  exact bodyPost_ret (v := .tuple #[eV ts (.slice A7 tl.length c7) tb, .int .i64 0]) (by simp [results, Try.results12, go_sem, a0, a1, a2, f0, f1, f2, l1]) rfl ⟨_, rfl, hr, hb⟩
set_option maxRecDepth 100000 in
set_option maxHeartbeats 8000000 in
theorem Get_d0 (w : World) (B : Nat) (g : List Hs) (vs : List Value) (n : Int) (h : RG bs w B g vs) (h0 : -2147483648 ≤ n) (h1 : n ≤ 2147483647) (hp : pIs n = false) (n0 : (n == 0) = false) (n1 : (n == 34) = false) (n2 : (n == 45) = false) (k : Nat) (hk : k < 10) (n3 : decide (48 ≤ n) = true) (n4 : decide (n ≤ 57) = true) (n5 : n - 48 = (k : Int)) (hi : (gd g (k)).is = false) :
    Calls Try.prog 12 #[.pointer (some ⟨B, 0, none⟩), .int .i32 n] w (GQ w (zEn, 6)) := by
  have hS : LS bs w (w.alloc (.cells #[.string ⟨#[]⟩, .slice none 0 0, .bool false] 33)) B w.heap.size g vs zEn none 0 := LS.start (x := zEn) (A := none) (c := 0) h (ra_nil w B)
  have HS := Aside0.mk hS
  obtain ⟨l0, l1, l2, a0, a1, a2, f0, f1, f2⟩ := HS.out.facts; dsimp only [List.length_nil] at a0 a1 a2
  have HPL := Aside0.mk (fun w1 => place_w w1 n h0 h1)
  rw [hp] at HPL
  have k0 : (0 : Int) ≤ (k : Int) := by omega
  have k1 : (k : Int) < 38 := by omega
  have w1 : wrap32 (k : Int) = (k : Int) := by unfold wrap32; omega
  have w2 : wrap64 (k : Int) = (k : Int) := IntWalk.wrap64_in _ ⟨by omega, by omega⟩
  have HSL : Aside0 (∀ w1, LS bs w w1 B w.heap.size g vs zEn none 0 → w1.cell? ⟨B, 1 + k * 4, none⟩ = some (.bool false)) := ⟨fun w1 hs => hi ▸ (hs.rg.cells k (by omega)).1⟩
  clear hS h hp hi
  go_enter Try.func12, Try.ntmps12
  go_wp2_with (first | ((go_at_call 25; (with_reducible refine (HPL.out _).mono ?_); rintro e w2 ⟨rfl, hd2⟩; have HS := Aside0.mk (HS.out.below (below_step (by repeat (first | (with_reducible first | exact Below.refl _ _ | apply pw_below_drewN | apply below_alloc | apply below_drew) | exact Below.refl _ _)) (drawn_below hd2))); clear hd2 l0 l1 l2 a0 a1 a2 f0 f1 f2; obtain ⟨l0, l1, l2, a0, a1, a2, f0, f1, f2⟩ := HS.out.facts; dsimp only [List.length_nil] at a0 a1 a2); have s0 := HSL.out _ HS.out) | (go_at_call 26; (with_reducible refine (good_w _ B g vs HS.out.rg).mono ?_); rintro e w3 ⟨rfl, rfl⟩))
  obtain ⟨hr, hb⟩ := get_end HS.out (s := ⟨#[]⟩) (l := []) (b := false) (A := none) (c := 0) (Nat.le_refl _) (Kd.R_nil _ _ _ _ _)
  exact bodyPost_ret (v := .tuple #[eV ⟨#[]⟩ (.slice none 0 0) false, .int .i64 6]) (by simp [results, Try.results12, go_sem, a0, a1, a2, f0, f1, f2, l1]) rfl ⟨_, rfl, hr, hb⟩
set_option maxRecDepth 100000 in
set_option maxHeartbeats 8000000 in
theorem Get_n (w : World) (B : Nat) (g : List Hs) (vs : List Value) (n : Int) (h : RG bs w B g vs) (h0 : -2147483648 ≤ n) (h1 : n ≤ 2147483647) (hp : pIs n = false) (n0 : (n == 0) = false) (n1 : (n == 34) = false) (n2 : (n == 45) = false) (n3 : decide (48 ≤ n) = false) :
    Calls Try.prog 12 #[.pointer (some ⟨B, 0, none⟩), .int .i32 n] w (GQ w (zEn, 2)) := by
  have hS : LS bs w (w.alloc (.cells #[.string ⟨#[]⟩, .slice none 0 0, .bool false] 33)) B w.heap.size g vs zEn none 0 := LS.start (x := zEn) (A := none) (c := 0) h (ra_nil w B)
  have HS := Aside0.mk hS
  obtain ⟨l0, l1, l2, a0, a1, a2, f0, f1, f2⟩ := HS.out.facts; dsimp only [List.length_nil] at a0 a1 a2
  have HPL := Aside0.mk (fun w1 => place_w w1 n h0 h1)
  rw [hp] at HPL
  clear hS h hp
  go_enter Try.func12, Try.ntmps12
  go_wp2_with (first | ((go_at_call 25; (with_reducible refine (HPL.out _).mono ?_); rintro e w2 ⟨rfl, hd2⟩; have HS := Aside0.mk (HS.out.below (below_step (by repeat (first | (with_reducible first | exact Below.refl _ _ | apply pw_below_drewN | apply below_alloc | apply below_drew) | exact Below.refl _ _)) (drawn_below hd2))); clear hd2 l0 l1 l2 a0 a1 a2 f0 f1 f2; obtain ⟨l0, l1, l2, a0, a1, a2, f0, f1, f2⟩ := HS.out.facts; dsimp only [List.length_nil] at a0 a1 a2); skip) | (go_at_call 26; (with_reducible refine (good_w _ B g vs HS.out.rg).mono ?_); rintro e w3 ⟨rfl, rfl⟩))
  obtain ⟨hr, hb⟩ := get_end HS.out (s := ⟨#[]⟩) (l := []) (b := false) (A := none) (c := 0) (Nat.le_refl _) (Kd.R_nil _ _ _ _ _)
  exact bodyPost_ret (v := .tuple #[eV ⟨#[]⟩ (.slice none 0 0) false, .int .i64 2]) (by simp [results, Try.results12, go_sem, a0, a1, a2, f0, f1, f2, l1]) rfl ⟨_, rfl, hr, hb⟩
set_option maxRecDepth 100000 in
set_option maxHeartbeats 8000000 in
theorem Get_m (w : World) (B : Nat) (g : List Hs) (vs : List Value) (n : Int) (h : RG bs w B g vs) (h0 : -2147483648 ≤ n) (h1 : n ≤ 2147483647) (hp : pIs n = false) (n0 : (n == 0) = false) (n1 : (n == 34) = false) (n2 : (n == 45) = false) (n3 : decide (48 ≤ n) = true) (n4 : decide (n ≤ 57) = false) :
    Calls Try.prog 12 #[.pointer (some ⟨B, 0, none⟩), .int .i32 n] w (GQ w (zEn, 2)) := by
  have hS : LS bs w (w.alloc (.cells #[.string ⟨#[]⟩, .slice none 0 0, .bool false] 33)) B w.heap.size g vs zEn none 0 := LS.start (x := zEn) (A := none) (c := 0) h (ra_nil w B)
  have HS := Aside0.mk hS
  obtain ⟨l0, l1, l2, a0, a1, a2, f0, f1, f2⟩ := HS.out.facts; dsimp only [List.length_nil] at a0 a1 a2
  have HPL := Aside0.mk (fun w1 => place_w w1 n h0 h1)
  rw [hp] at HPL
  clear hS h hp
  go_enter Try.func12, Try.ntmps12
  go_wp2_with (first | ((go_at_call 25; (with_reducible refine (HPL.out _).mono ?_); rintro e w2 ⟨rfl, hd2⟩; have HS := Aside0.mk (HS.out.below (below_step (by repeat (first | (with_reducible first | exact Below.refl _ _ | apply pw_below_drewN | apply below_alloc | apply below_drew) | exact Below.refl _ _)) (drawn_below hd2))); clear hd2 l0 l1 l2 a0 a1 a2 f0 f1 f2; obtain ⟨l0, l1, l2, a0, a1, a2, f0, f1, f2⟩ := HS.out.facts; dsimp only [List.length_nil] at a0 a1 a2); skip) | (go_at_call 26; (with_reducible refine (good_w _ B g vs HS.out.rg).mono ?_); rintro e w3 ⟨rfl, rfl⟩))
  obtain ⟨hr, hb⟩ := get_end HS.out (s := ⟨#[]⟩) (l := []) (b := false) (A := none) (c := 0) (Nat.le_refl _) (Kd.R_nil _ _ _ _ _)
  exact bodyPost_ret (v := .tuple #[eV ⟨#[]⟩ (.slice none 0 0) false, .int .i64 2]) (by simp [results, Try.results12, go_sem, a0, a1, a2, f0, f1, f2, l1]) rfl ⟨_, rfl, hr, hb⟩
theorem Get_w (w : World) (B : Nat) (g : List Hs) (vs : List Value) (n : Int) (h : RG bs w B g vs) (hG : GG g) (h0 : -2147483648 ≤ n) (h1 : n ≤ 2147483647) :
    Calls Try.prog 12 #[.pointer (some ⟨B, 0, none⟩), .int .i32 n] w (GQ w (getM g n)) := by
  have hl : ∀ i, (gd g i).l.length ≤ 100000 := fun i => Nat.le_trans (hG.len i) (by decide)
  have some_ : ∀ i, getI n = some i → getM g n = if (gd g i).is = true then (⟨(gd g i).s, (gd g i).l, (gd g i).b⟩, 0) else (zEn, 6) := fun i e => by unfold getM; rw [e]
  have none_ : getI n = none → getM g n = (zEn, 2) := fun e => by unfold getM; rw [e]
  have nb : ∀ {b : Bool}, ¬ b = true → b = false := fun {b} h => by cases b; rfl; exact absurd rfl h
  by_cases hp : pIs n = true
  · rw [some_ _ (if_pos hp)]
    by_cases hi : (gd g (pAt n)).is = true
    · rw [if_pos hi]; exact Get_l1 w B g vs n h h0 h1 hp hi (hl _)
    · rw [if_neg hi]; exact Get_l0 w B g vs n h h0 h1 hp (nb hi)
  have hp' := nb hp
  by_cases n0 : n = 0
  · rw [some_ 37 (by unfold getI; rw [if_neg hp, if_pos (.inl n0)])]
    by_cases hi : (gd g 37).is = true
    · rw [if_pos hi]; exact Get_01 w B g vs n h h0 h1 hp' (beq_iff_eq.2 n0) hi (hl _)
    · rw [if_neg hi]; exact Get_00 w B g vs n h h0 h1 hp' (beq_iff_eq.2 n0) (nb hi)
  have n0' : (n == 0) = false := beq_eq_false_iff_ne.2 n0
  by_cases n1 : n = 34
  · rw [some_ 37 (by unfold getI; rw [if_neg hp, if_pos (.inr n1)])]
    by_cases hi : (gd g 37).is = true
    · rw [if_pos hi]; exact Get_341 w B g vs n h h0 h1 hp' n0' (beq_iff_eq.2 n1) hi (hl _)
    · rw [if_neg hi]; exact Get_340 w B g vs n h h0 h1 hp' n0' (beq_iff_eq.2 n1) (nb hi)
  have n1' : (n == 34) = false := beq_eq_false_iff_ne.2 n1
  have c1 : ¬ (n = 0 ∨ n = 34) := fun h => h.elim n0 n1
  by_cases n2 : n = 45
  · rw [some_ 36 (by unfold getI; rw [if_neg hp, if_neg c1, if_pos n2])]
    by_cases hi : (gd g 36).is = true
    · rw [if_pos hi]; exact Get_451 w B g vs n h h0 h1 hp' n0' n1' (beq_iff_eq.2 n2) hi (hl _)
    · rw [if_neg hi]; exact Get_450 w B g vs n h h0 h1 hp' n0' n1' (beq_iff_eq.2 n2) (nb hi)
  have n2' : (n == 45) = false := beq_eq_false_iff_ne.2 n2
  by_cases n3 : 48 ≤ n
  · by_cases n4 : n ≤ 57
    · obtain ⟨k, hk⟩ : ∃ k : Nat, n - 48 = (k : Int) := ⟨(n - 48).toNat, by omega⟩
      have e : getI n = some k := by unfold getI; rw [if_neg hp, if_neg c1, if_neg n2, if_pos ⟨n3, n4⟩, hk, Int.toNat_natCast]
      rw [some_ k e]
      by_cases hi : (gd g k).is = true
      · rw [if_pos hi]; exact Get_d1 w B g vs n h h0 h1 hp' n0' n1' n2' k (by omega) (decide_eq_true n3) (decide_eq_true n4) hk hi (hl _)
      · rw [if_neg hi]; exact Get_d0 w B g vs n h h0 h1 hp' n0' n1' n2' k (by omega) (decide_eq_true n3) (decide_eq_true n4) hk (nb hi)
    · rw [none_ (by unfold getI; rw [if_neg hp, if_neg c1, if_neg n2, if_neg (fun h => n4 h.2)])]
      exact Get_m w B g vs n h h0 h1 hp' n0' n1' n2' (decide_eq_true n3) (decide_eq_false n4)
  · rw [none_ (by unfold getI; rw [if_neg hp, if_neg c1, if_neg n2, if_neg (fun h => n3 h.1)])]
    exact Get_n w B g vs n h h0 h1 hp' n0' n1' n2' (decide_eq_false n3)

end Go.Proofs.Ytbcbfmhcoemnpaa.Ext
