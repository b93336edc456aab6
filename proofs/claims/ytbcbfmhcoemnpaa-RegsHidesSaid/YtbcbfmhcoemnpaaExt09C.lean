/- regs: letter, by its walk. -/
import Derived.Test.YtbcbfmhcoemnpaaExt09B
import Derived.Test.YtbcbfmhcoemnpaaXRRx2
import Derived.Test.YtbcbfmhcoemnpaaXRRx3
import Derived.Test.YtbcbfmhcoemnpaaXRRx4
import Derived.Test.YtbcbfmhcoemnpaaXRRx0
import Derived.Test.YtbcbfmhcoemnpaaWMore
import Derived.WalkKit
import Derived.WalkMore
import Derived.Below
import Derived.KernelRfl
import Derived.LoopTactic
import Derived.Deep.RegionWith
import Derived.Deep.RegionHeld3
import Derived.IntWalk
import Derived.Deep.DeepCutAuto
import Derived.Deep.CutBlock
import Derived.BigQuiet
import Derived.Laws.RangeString
import Derived.Laws.RangeAny
import Derived.Laws.Rows
import Derived.Laws.Runes
import Derived.Lib.OthersKept
import Derived.OpenShut
set_option linter.unusedVariables false
set_option linter.unusedSimpArgs false
namespace Go.Proofs.Ytbcbfmhcoemnpaa.Ext
open Go.RowKit Go.Lib Go.Proofs.YtbcbfmhcoemnpaaW.PrintWords Go.Proofs.YtbcbfmhcoemnpaaW.PrintMore Go.Proofs.Ytbcbfmhcoemnpaa.XRR

variable {bs : Nat}
/-- Runs that are read alike as long as only block B is turned. -/
structure RA (w : World) (B : Nat) (A : Option Addr) (c : Nat) (l : List Rn) : Prop where
  le : l.length ≤ c
  at' : ∀ w', w.grownBy w' (some B) → Kd.C k58 w' A l.length l
theorem grown_refl (w : World) (B : Nat) : w.grownBy w (some B) := ⟨rfl, rfl, rfl, Nat.le_refl _, fun _ _ _ => rfl⟩
theorem RA.here {w : World} {B : Nat} {A : Option Addr} {c : Nat} {l : List Rn} (h : RA w B A c l) : Kd.C k58 w A l.length l := h.at' w (grown_refl w B)
theorem RA.grown {w w' : World} {B : Nat} {A : Option Addr} {c : Nat} {l : List Rn} (h : RA w B A c l) (hg : w.grownBy w' (some B)) : RA w' B A c l := ⟨h.le, fun w2 h2 => h.at' w2 (two_grown hg h2)⟩
theorem RA.below {w w' : World} {B : Nat} {A : Option Addr} {c : Nat} {l : List Rn} (h : RA w B A c l) (hb : Below w.heap.size w w') : RA w' B A c l := h.grown (grown_of_below hb _)
theorem RA.of_R {w : World} {base B : Nat} {A : Option Addr} {c : Nat} {l : List Rn} {cs : Array Value} (h : Kd.R k58 58 w base (fun _ => True) (.slice A l.length c) l) (hB : w.heap[B]? = some (.cells cs 53 (0, 0))) : RA w B A c l := by
  obtain ⟨A1, c1, e1, hc, -⟩ := Kd.R_reads h
  injection e1 with e1 e2 e3
  subst e1 e3
  refine ⟨hc, fun w' hg => ?_⟩
  obtain ⟨A2, c2, e2, -, hr⟩ := Kd.R_reads (keep_runs h hB hg)
  injection e2 with e2 _ _
  subst e2
  exact hr
theorem RA.of_old {w0 w : World} {B : Nat} {A : Option Addr} {c : Nat} {l : List Rn} (h : Kd.C k58 w0 A l.length l) (hc : l.length ≤ c) (hb : Below w0.heap.size w0 w) (hB : w0.heap.size ≤ B) : RA w B A c l :=
  ⟨hc, fun w' hg => Kd.C_below h (pw_below_grown hb (some B) hb.size hg (fun k e => by injection e with e; omega))⟩
/-- Where a letter's register stands. -/
def pIs (n : Int) : Bool := decide (97 ≤ n ∧ n ≤ 122) || decide (65 ≤ n ∧ n ≤ 90)
def pAd (n : Int) : Bool := decide (65 ≤ n ∧ n ≤ 90)
def pAt (n : Int) : Nat := if 97 ≤ n ∧ n ≤ 122 then (n - 87).toNat else if 65 ≤ n ∧ n ≤ 90 then (n - 55).toNat else 0
theorem pAt_lt (n : Int) : pAt n < 36 := by unfold pAt; split; omega; split <;> omega
theorem place_w (w : World) (n : Int) (h0 : -2147483648 ≤ n) (h1 : n ≤ 2147483647) : Calls Try.prog 25 #[.int .i32 n] w fun e w' => e = .returned (.tuple #[.int .i64 (pAt n : Nat), .bool (pIs n), .bool (pAd n)]) ∧ Drawn0 w w' := by
  refine regs_place.calls 1 n _ _ _ w ?_
  unfold regs_place.f
  by_cases c : n ≥ 97
  · rw [if_pos c]
    have j0 : ∀ b : Bool, regs_place.j0 1 n b = (if b = true then (some (wrap64 (10 + (wrap64 (wrap32 (n - 97)))), true, false)) else (if n ≥ 65 then (if n ≤ 90 then (some (wrap64 (10 + (wrap64 (wrap32 (n - 65)))), true, true)) else (some (0, false, false))) else (some (0, false, false)))) := fun _ => rfl
    rw [j0]
    by_cases c2 : n ≤ 122
    · rw [if_pos (by simpa using c2)]
      have e1 : pAt n = (n - 87).toNat := if_pos ⟨c, c2⟩
      have e2 : pIs n = true := by unfold pIs; simp [c, c2]
      have e3 : pAd n = false := by unfold pAd; simp; omega
      have w1 : wrap32 (n - 97) = n - 97 := by unfold wrap32; omega
      rw [e1, e2, e3, w1, IntWalk.wrap64_in (n - 97) ⟨by omega, by omega⟩, IntWalk.wrap64_in _ ⟨by omega, by omega⟩]
      congr 2
      omega
    · rw [if_neg (by simpa using c2), if_pos (by omega : n ≥ 65), if_neg (by omega : ¬ n ≤ 90)]
      have e1 : pAt n = 0 := by unfold pAt; rw [if_neg (by omega), if_neg (by omega)]
      have e2 : pIs n = false := by unfold pIs; simp; omega
      have e3 : pAd n = false := by unfold pAd; simp; omega
      rw [e1, e2, e3]
      rfl
  · rw [if_neg c]
    have j0 : ∀ b : Bool, regs_place.j0 1 n b = (if b = true then (some (wrap64 (10 + (wrap64 (wrap32 (n - 97)))), true, false)) else (if n ≥ 65 then (if n ≤ 90 then (some (wrap64 (10 + (wrap64 (wrap32 (n - 65)))), true, true)) else (some (0, false, false))) else (some (0, false, false)))) := fun _ => rfl
    rw [j0]
    rw [if_neg (by decide)]
    by_cases c2 : n ≥ 65
    · rw [if_pos c2]
      by_cases c3 : n ≤ 90
      · rw [if_pos c3]
        have e1 : pAt n = (n - 55).toNat := by unfold pAt; rw [if_neg (by omega), if_pos ⟨c2, c3⟩]
        have e2 : pIs n = true := by unfold pIs; simp; omega
        have e3 : pAd n = true := by unfold pAd; simp; omega
        have w1 : wrap32 (n - 65) = n - 65 := by unfold wrap32; omega
        rw [e1, e2, e3, w1, IntWalk.wrap64_in (n - 65) ⟨by omega, by omega⟩, IntWalk.wrap64_in _ ⟨by omega, by omega⟩]
        congr 2
        omega
      · rw [if_neg c3]
        have e1 : pAt n = 0 := by unfold pAt; rw [if_neg (by omega), if_neg (by omega)]
        have e2 : pIs n = false := by unfold pIs; simp; omega
        have e3 : pAd n = false := by unfold pAd; simp; omega
        rw [e1, e2, e3]
        rfl
    · rw [if_neg c2]
      have e1 : pAt n = 0 := by unfold pAt; rw [if_neg (by omega), if_neg (by omega)]
      have e2 : pIs n = false := by unfold pIs; simp; omega
      have e3 : pAd n = false := by unfold pAd; simp; omega
      rw [e1, e2, e3]
      rfl
/-- What holds in a walk over registers ahead of any turn. -/
structure LS (bs : Nat) (w W : World) (B p : Nat) (g : List Hs) (vs : List Value) (x : En) (A : Option Addr) (c : Nat) : Prop where
  bl : Below w.heap.size w W
  rg : RG bs W B g vs
  ex : EX W p x.s (.slice A x.l.length c) x.b
  ra : RA W B A c x.l
theorem LS.below {w W W' : World} {B p : Nat} {g : List Hs} {vs : List Value} {x : En} {A : Option Addr} {c : Nat} (h : LS bs w W B p g vs x A c) (hb : Below W.heap.size W W') : LS bs w W' B p g vs x A c :=
  ⟨below_step h.bl hb, h.rg.below hb, h.ex.below hb, h.ra.below hb⟩
theorem LS.start {w : World} {B : Nat} {g : List Hs} {vs : List Value} {x : En} {A : Option Addr} {c : Nat} (h : RG bs w B g vs) (hx : RA w B A c x.l) : LS bs w (w.alloc (.cells #[.string x.s, .slice A x.l.length c, .bool x.b] 33)) B w.heap.size g vs x A c :=
  have hb := below_alloc (Below.refl w.heap.size w) (.cells #[.string x.s, .slice A x.l.length c, .bool x.b] 33)
  ⟨hb, h.below hb, EX.new _ _ _ _, hx.below hb⟩
theorem LS.facts {w W : World} {B p : Nat} {g : List Hs} {vs : List Value} {x : En} {A : Option Addr} {c : Nat} (h : LS bs w W B p g vs x A c) : w.heap.size ≤ W.heap.size ∧ p < W.heap.size ∧ B < W.heap.size ∧ W.cell? ⟨p, 0, none⟩ = some (.string x.s) ∧ W.cell? ⟨p, 1, none⟩ = some (.slice A x.l.length c) ∧ W.cell? ⟨p, 2, none⟩ = some (.bool x.b) ∧ W.frozen? ⟨p, 0, none⟩ = false ∧ W.frozen? ⟨p, 1, none⟩ = false ∧ W.frozen? ⟨p, 2, none⟩ = false :=
  ⟨h.bl.size, blk_lt h.ex.x, h.rg.lt, h.ex.cells⟩
theorem drawn_below {w w' : World} (h : Drawn0 w w') : Below w.heap.size w w' := by
  obtain ⟨n, rfl⟩ := h
  exact pw_below_drewN (Below.refl _ _) n
abbrev LQ (bs : Nat) (w : World) (B : Nat) (d : Bool) (r : Int) (g' : List Hs) (e : Ending) (w' : World) : Prop := e = .returned (.tuple #[.bool d, .int .i64 r]) ∧ (∃ vs', RG bs w' B g' vs') ∧ w.grownBy w' (some B)
theorem put_call {w W : World} {B p : Nat} {g : List Hs} {vs : List Value} {x : En} {A : Option Addr} {c : Nat} (hl : x.l.length ≤ 100000) (k m : Nat) (hk : k < 38) (hm : m < 38) (hs : LS bs w W B p g vs x A c) (o : Obj) :
    Calls Try.prog 22 #[.pointer (some ⟨B, 0, none⟩), eV x.s (.slice A x.l.length c) x.b, .slice (some ⟨W.heap.size + 1, 0, none⟩) 2 2] ((W.alloc o).alloc (.cells #[.int .i64 (k : Int), .int .i64 (m : Int)] 3)) fun e w' => e = .returned (.tuple #[]) ∧ (∃ vs', RG bs w' B (putM g x [k, m]) vs') ∧ w.grownBy w' (some B) := by
  have hb : Below W.heap.size W ((W.alloc o).alloc (.cells #[.int .i64 (k : Int), .int .i64 (m : Int)] 3)) := below_alloc (below_alloc (Below.refl _ _) _) _
  have hs2 := hs.below hb
  have e1 : (W.alloc o).heap.size = W.heap.size + 1 := by simp
  refine (put_w _ B (W.heap.size + 1) g vs x A c k m hs2.rg hs2.ra.here hs2.ra.at' hs2.ra.le hl ?_ hk hm).mono ?_
  · have := heap_alloc_new (W.alloc o) (.cells #[.int .i64 (k : Int), .int .i64 (m : Int)] 3)
    rwa [e1] at this
  · rintro e w' ⟨rfl, h1, h2⟩
    exact ⟨rfl, h1, two_grown (grown_of_below hs2.bl _) h2⟩
set_option maxRecDepth 100000 in
set_option maxHeartbeats 8000000 in
theorem letter_a (w : World) (B : Nat) (g : List Hs) (vs : List Value) (x : En) (A : Option Addr) (c : Nat) (n : Int) (h : RG bs w B g vs) (hx : RA w B A c x.l) (hl : x.l.length ≤ 8000000000000000000) (h0 : -2147483648 ≤ n) (h1 : n ≤ 2147483647)
    (hp : pIs n = false) (n0 : (n != 0) = true) (n1 : (n != 34) = true) (n2 : (n != 95) = true) :
    Calls Try.prog 21 #[.pointer (some ⟨B, 0, none⟩), .int .i32 n, eV x.s (.slice A x.l.length c) x.b] w (LQ bs w B true 2 g) := by
  have hS := LS.start h hx
  have HS := Aside0.mk hS
  obtain ⟨l0, l1, l2, a0, a1, a2, f0, f1, f2⟩ := HS.out.facts
  have HPL := Aside0.mk (fun w1 => place_w w1 n h0 h1)
  have HGO := Aside0.mk (fun (w1 : World) (hs : LS bs w w1 B w.heap.size g vs x A c) => strip_Good.calls (x.l.length + 2 + x.l.length) x.s A c x.l _ w1 hs.ra.here hs.ra.le (goodT_k x.s x.l hl _ (Nat.le_refl _)))
  rw [hp] at HPL
  clear hS h hx hp
  go_enter Try.func21, Try.ntmps21
  go_wp2_with (first | (go_at_call 25; (with_reducible refine (HPL.out _).mono ?_); rintro e w2 ⟨rfl, hd2⟩; have HS := Aside0.mk (HS.out.below (below_step (by repeat (first | (with_reducible first | exact Below.refl _ _ | apply pw_below_drewN | apply below_alloc | apply below_drew) | exact Below.refl _ _)) (drawn_below hd2))); clear hd2 l0 l1 l2 a0 a1 a2 f0 f1 f2; obtain ⟨l0, l1, l2, a0, a1, a2, f0, f1, f2⟩ := HS.out.facts) | (go_at_call 26; (with_reducible refine (good_w _ B g vs HS.out.rg).mono ?_); rintro e w3 ⟨rfl, rfl⟩) | (go_at_call 32; (with_reducible refine (HGO.out _ HS.out).mono ?_); rintro e w4 ⟨rfl, hb4⟩; have HS := Aside0.mk (HS.out.below (below_step (by repeat (first | (with_reducible first | exact Below.refl _ _ | apply pw_below_drewN | apply below_alloc | apply below_drew) | exact Below.refl _ _)) hb4)); clear hb4 l0 l1 l2 a0 a1 a2 f0 f1 f2; obtain ⟨l0, l1, l2, a0, a1, a2, f0, f1, f2⟩ := HS.out.facts))
  exact bodyPost_ret (v := .tuple #[.bool true, .int .i64 2]) (by simp [results, Try.results21, go_sem]) rfl ⟨rfl, ⟨vs, HS.out.rg⟩, grown_of_below HS.out.bl _⟩
set_option maxRecDepth 100000 in
set_option maxHeartbeats 8000000 in
theorem letter_b (w : World) (B : Nat) (g : List Hs) (vs : List Value) (x : En) (A : Option Addr) (c : Nat) (n : Int) (h : RG bs w B g vs) (hx : RA w B A c x.l) (hl : x.l.length ≤ 8000000000000000000) (h0 : -2147483648 ≤ n) (h1 : n ≤ 2147483647)
    (hp : pIs n = true) (hg : goodT x.s x.l = false) :
    Calls Try.prog 21 #[.pointer (some ⟨B, 0, none⟩), .int .i32 n, eV x.s (.slice A x.l.length c) x.b] w (LQ bs w B true 2 g) := by
  have hS := LS.start h hx
  have HS := Aside0.mk hS
  obtain ⟨l0, l1, l2, a0, a1, a2, f0, f1, f2⟩ := HS.out.facts
  have HPL := Aside0.mk (fun w1 => place_w w1 n h0 h1)
  have HGO := Aside0.mk (fun (w1 : World) (hs : LS bs w w1 B w.heap.size g vs x A c) => strip_Good.calls (x.l.length + 2 + x.l.length) x.s A c x.l _ w1 hs.ra.here hs.ra.le (goodT_k x.s x.l hl _ (Nat.le_refl _)))
  rw [hp] at HPL
  rw [hg] at HGO
  clear hS h hx hp hg
  go_enter Try.func21, Try.ntmps21
  go_wp2_with (first | (go_at_call 25; (with_reducible refine (HPL.out _).mono ?_); rintro e w2 ⟨rfl, hd2⟩; have HS := Aside0.mk (HS.out.below (below_step (by repeat (first | (with_reducible first | exact Below.refl _ _ | apply pw_below_drewN | apply below_alloc | apply below_drew) | exact Below.refl _ _)) (drawn_below hd2))); clear hd2 l0 l1 l2 a0 a1 a2 f0 f1 f2; obtain ⟨l0, l1, l2, a0, a1, a2, f0, f1, f2⟩ := HS.out.facts) | (go_at_call 26; (with_reducible refine (good_w _ B g vs HS.out.rg).mono ?_); rintro e w3 ⟨rfl, rfl⟩) | (go_at_call 32; (with_reducible refine (HGO.out _ HS.out).mono ?_); rintro e w4 ⟨rfl, hb4⟩; have HS := Aside0.mk (HS.out.below (below_step (by repeat (first | (with_reducible first | exact Below.refl _ _ | apply pw_below_drewN | apply below_alloc | apply below_drew) | exact Below.refl _ _)) hb4)); clear hb4 l0 l1 l2 a0 a1 a2 f0 f1 f2; obtain ⟨l0, l1, l2, a0, a1, a2, f0, f1, f2⟩ := HS.out.facts))
  exact bodyPost_ret (v := .tuple #[.bool true, .int .i64 2]) (by simp [results, Try.results21, go_sem]) rfl ⟨rfl, ⟨vs, HS.out.rg⟩, grown_of_below HS.out.bl _⟩
set_option maxRecDepth 100000 in
set_option maxHeartbeats 8000000 in
theorem letter_b0 (w : World) (B : Nat) (g : List Hs) (vs : List Value) (x : En) (A : Option Addr) (c : Nat) (n : Int) (h : RG bs w B g vs) (hx : RA w B A c x.l) (hl : x.l.length ≤ 8000000000000000000) (h0 : -2147483648 ≤ n) (h1 : n ≤ 2147483647)
    (hp : pIs n = false) (n0 : (n != 0) = false) (hg : goodT x.s x.l = false) :
    Calls Try.prog 21 #[.pointer (some ⟨B, 0, none⟩), .int .i32 n, eV x.s (.slice A x.l.length c) x.b] w (LQ bs w B true 2 g) := by
  have hS := LS.start h hx
  have HS := Aside0.mk hS
  obtain ⟨l0, l1, l2, a0, a1, a2, f0, f1, f2⟩ := HS.out.facts
  have HPL := Aside0.mk (fun w1 => place_w w1 n h0 h1)
  have HGO := Aside0.mk (fun (w1 : World) (hs : LS bs w w1 B w.heap.size g vs x A c) => strip_Good.calls (x.l.length + 2 + x.l.length) x.s A c x.l _ w1 hs.ra.here hs.ra.le (goodT_k x.s x.l hl _ (Nat.le_refl _)))
  rw [hp] at HPL
  rw [hg] at HGO
  clear hS h hx hp hg
  go_enter Try.func21, Try.ntmps21
  go_wp2_with (first | (go_at_call 25; (with_reducible refine (HPL.out _).mono ?_); rintro e w2 ⟨rfl, hd2⟩; have HS := Aside0.mk (HS.out.below (below_step (by repeat (first | (with_reducible first | exact Below.refl _ _ | apply pw_below_drewN | apply below_alloc | apply below_drew) | exact Below.refl _ _)) (drawn_below hd2))); clear hd2 l0 l1 l2 a0 a1 a2 f0 f1 f2; obtain ⟨l0, l1, l2, a0, a1, a2, f0, f1, f2⟩ := HS.out.facts) | (go_at_call 26; (with_reducible refine (good_w _ B g vs HS.out.rg).mono ?_); rintro e w3 ⟨rfl, rfl⟩) | (go_at_call 32; (with_reducible refine (HGO.out _ HS.out).mono ?_); rintro e w4 ⟨rfl, hb4⟩; have HS := Aside0.mk (HS.out.below (below_step (by repeat (first | (with_reducible first | exact Below.refl _ _ | apply pw_below_drewN | apply below_alloc | apply below_drew) | exact Below.refl _ _)) hb4)); clear hb4 l0 l1 l2 a0 a1 a2 f0 f1 f2; obtain ⟨l0, l1, l2, a0, a1, a2, f0, f1, f2⟩ := HS.out.facts))
  exact bodyPost_ret (v := .tuple #[.bool true, .int .i64 2]) (by simp [results, Try.results21, go_sem]) rfl ⟨rfl, ⟨vs, HS.out.rg⟩, grown_of_below HS.out.bl _⟩
set_option maxRecDepth 100000 in
set_option maxHeartbeats 8000000 in
theorem letter_b34 (w : World) (B : Nat) (g : List Hs) (vs : List Value) (x : En) (A : Option Addr) (c : Nat) (n : Int) (h : RG bs w B g vs) (hx : RA w B A c x.l) (hl : x.l.length ≤ 8000000000000000000) (h0 : -2147483648 ≤ n) (h1 : n ≤ 2147483647)
    (hp : pIs n = false) (n0 : (n != 0) = true) (n1 : (n != 34) = false) (hg : goodT x.s x.l = false) :
    Calls Try.prog 21 #[.pointer (some ⟨B, 0, none⟩), .int .i32 n, eV x.s (.slice A x.l.length c) x.b] w (LQ bs w B true 2 g) := by
  have hS := LS.start h hx
  have HS := Aside0.mk hS
  obtain ⟨l0, l1, l2, a0, a1, a2, f0, f1, f2⟩ := HS.out.facts
  have HPL := Aside0.mk (fun w1 => place_w w1 n h0 h1)
  have HGO := Aside0.mk (fun (w1 : World) (hs : LS bs w w1 B w.heap.size g vs x A c) => strip_Good.calls (x.l.length + 2 + x.l.length) x.s A c x.l _ w1 hs.ra.here hs.ra.le (goodT_k x.s x.l hl _ (Nat.le_refl _)))
  rw [hp] at HPL
  rw [hg] at HGO
  clear hS h hx hp hg
  go_enter Try.func21, Try.ntmps21
  go_wp2_with (first | (go_at_call 25; (with_reducible refine (HPL.out _).mono ?_); rintro e w2 ⟨rfl, hd2⟩; have HS := Aside0.mk (HS.out.below (below_step (by repeat (first | (with_reducible first | exact Below.refl _ _ | apply pw_below_drewN | apply below_alloc | apply below_drew) | exact Below.refl _ _)) (drawn_below hd2))); clear hd2 l0 l1 l2 a0 a1 a2 f0 f1 f2; obtain ⟨l0, l1, l2, a0, a1, a2, f0, f1, f2⟩ := HS.out.facts) | (go_at_call 26; (with_reducible refine (good_w _ B g vs HS.out.rg).mono ?_); rintro e w3 ⟨rfl, rfl⟩) | (go_at_call 32; (with_reducible refine (HGO.out _ HS.out).mono ?_); rintro e w4 ⟨rfl, hb4⟩; have HS := Aside0.mk (HS.out.below (below_step (by repeat (first | (with_reducible first | exact Below.refl _ _ | apply pw_below_drewN | apply below_alloc | apply below_drew) | exact Below.refl _ _)) hb4)); clear hb4 l0 l1 l2 a0 a1 a2 f0 f1 f2; obtain ⟨l0, l1, l2, a0, a1, a2, f0, f1, f2⟩ := HS.out.facts))
  exact bodyPost_ret (v := .tuple #[.bool true, .int .i64 2]) (by simp [results, Try.results21, go_sem]) rfl ⟨rfl, ⟨vs, HS.out.rg⟩, grown_of_below HS.out.bl _⟩
set_option maxRecDepth 100000 in
set_option maxHeartbeats 8000000 in
theorem letter_b95 (w : World) (B : Nat) (g : List Hs) (vs : List Value) (x : En) (A : Option Addr) (c : Nat) (n : Int) (h : RG bs w B g vs) (hx : RA w B A c x.l) (hl : x.l.length ≤ 8000000000000000000) (h0 : -2147483648 ≤ n) (h1 : n ≤ 2147483647)
    (hp : pIs n = false) (n0 : (n != 0) = true) (n1 : (n != 34) = true) (n2 : (n != 95) = false) (hg : goodT x.s x.l = false) :
    Calls Try.prog 21 #[.pointer (some ⟨B, 0, none⟩), .int .i32 n, eV x.s (.slice A x.l.length c) x.b] w (LQ bs w B true 2 g) := by
  have hS := LS.start h hx
  have HS := Aside0.mk hS
  obtain ⟨l0, l1, l2, a0, a1, a2, f0, f1, f2⟩ := HS.out.facts
  have HPL := Aside0.mk (fun w1 => place_w w1 n h0 h1)
  have HGO := Aside0.mk (fun (w1 : World) (hs : LS bs w w1 B w.heap.size g vs x A c) => strip_Good.calls (x.l.length + 2 + x.l.length) x.s A c x.l _ w1 hs.ra.here hs.ra.le (goodT_k x.s x.l hl _ (Nat.le_refl _)))
  rw [hp] at HPL
  rw [hg] at HGO
  clear hS h hx hp hg
  go_enter Try.func21, Try.ntmps21
  go_wp2_with (first | (go_at_call 25; (with_reducible refine (HPL.out _).mono ?_); rintro e w2 ⟨rfl, hd2⟩; have HS := Aside0.mk (HS.out.below (below_step (by repeat (first | (with_reducible first | exact Below.refl _ _ | apply pw_below_drewN | apply below_alloc | apply below_drew) | exact Below.refl _ _)) (drawn_below hd2))); clear hd2 l0 l1 l2 a0 a1 a2 f0 f1 f2; obtain ⟨l0, l1, l2, a0, a1, a2, f0, f1, f2⟩ := HS.out.facts) | (go_at_call 26; (with_reducible refine (good_w _ B g vs HS.out.rg).mono ?_); rintro e w3 ⟨rfl, rfl⟩) | (go_at_call 32; (with_reducible refine (HGO.out _ HS.out).mono ?_); rintro e w4 ⟨rfl, hb4⟩; have HS := Aside0.mk (HS.out.below (below_step (by repeat (first | (with_reducible first | exact Below.refl _ _ | apply pw_below_drewN | apply below_alloc | apply below_drew) | exact Below.refl _ _)) hb4)); clear hb4 l0 l1 l2 a0 a1 a2 f0 f1 f2; obtain ⟨l0, l1, l2, a0, a1, a2, f0, f1, f2⟩ := HS.out.facts))
  exact bodyPost_ret (v := .tuple #[.bool true, .int .i64 2]) (by simp [results, Try.results21, go_sem]) rfl ⟨rfl, ⟨vs, HS.out.rg⟩, grown_of_below HS.out.bl _⟩
set_option maxRecDepth 100000 in
set_option maxHeartbeats 8000000 in
theorem letter_c0 (w : World) (B : Nat) (g : List Hs) (vs : List Value) (x : En) (A : Option Addr) (c : Nat) (n : Int) (h : RG bs w B g vs) (hx : RA w B A c x.l) (hl : x.l.length ≤ 8000000000000000000) (h0 : -2147483648 ≤ n) (h1 : n ≤ 2147483647)
    (hp : pIs n = false) (n0 : (n != 0) = false) (hg : goodT x.s x.l = true) (e95 : (n == 95) = false) :
    Calls Try.prog 21 #[.pointer (some ⟨B, 0, none⟩), .int .i32 n, eV x.s (.slice A x.l.length c) x.b] w (LQ bs w B false 0 g) := by
  have hS := LS.start h hx
  have HS := Aside0.mk hS
  obtain ⟨l0, l1, l2, a0, a1, a2, f0, f1, f2⟩ := HS.out.facts
  have HPL := Aside0.mk (fun w1 => place_w w1 n h0 h1)
  have HGO := Aside0.mk (fun (w1 : World) (hs : LS bs w w1 B w.heap.size g vs x A c) => strip_Good.calls (x.l.length + 2 + x.l.length) x.s A c x.l _ w1 hs.ra.here hs.ra.le (goodT_k x.s x.l hl _ (Nat.le_refl _)))
  rw [hp] at HPL
  rw [hg] at HGO
  clear hS h hx hp hg
  go_enter Try.func21, Try.ntmps21
  go_wp2_with (first | (go_at_call 25; (with_reducible refine (HPL.out _).mono ?_); rintro e w2 ⟨rfl, hd2⟩; have HS := Aside0.mk (HS.out.below (below_step (by repeat (first | (with_reducible first | exact Below.refl _ _ | apply pw_below_drewN | apply below_alloc | apply below_drew) | exact Below.refl _ _)) (drawn_below hd2))); clear hd2 l0 l1 l2 a0 a1 a2 f0 f1 f2; obtain ⟨l0, l1, l2, a0, a1, a2, f0, f1, f2⟩ := HS.out.facts) | (go_at_call 26; (with_reducible refine (good_w _ B g vs HS.out.rg).mono ?_); rintro e w3 ⟨rfl, rfl⟩) | (go_at_call 32; (with_reducible refine (HGO.out _ HS.out).mono ?_); rintro e w4 ⟨rfl, hb4⟩; have HS := Aside0.mk (HS.out.below (below_step (by repeat (first | (with_reducible first | exact Below.refl _ _ | apply pw_below_drewN | apply below_alloc | apply below_drew) | exact Below.refl _ _)) hb4)); clear hb4 l0 l1 l2 a0 a1 a2 f0 f1 f2; obtain ⟨l0, l1, l2, a0, a1, a2, f0, f1, f2⟩ := HS.out.facts))
  exact bodyPost_ret (v := .tuple #[.bool false, .int .i64 0]) (by simp [results, Try.results21, go_sem]) rfl ⟨rfl, ⟨vs, HS.out.rg⟩, grown_of_below HS.out.bl _⟩
set_option maxRecDepth 100000 in
set_option maxHeartbeats 8000000 in
theorem letter_c34 (w : World) (B : Nat) (g : List Hs) (vs : List Value) (x : En) (A : Option Addr) (c : Nat) (n : Int) (h : RG bs w B g vs) (hx : RA w B A c x.l) (hl : x.l.length ≤ 8000000000000000000) (h0 : -2147483648 ≤ n) (h1 : n ≤ 2147483647)
    (hp : pIs n = false) (n0 : (n != 0) = true) (n1 : (n != 34) = false) (hg : goodT x.s x.l = true) (e95 : (n == 95) = false) :
    Calls Try.prog 21 #[.pointer (some ⟨B, 0, none⟩), .int .i32 n, eV x.s (.slice A x.l.length c) x.b] w (LQ bs w B false 0 g) := by
  have hS := LS.start h hx
  have HS := Aside0.mk hS
  obtain ⟨l0, l1, l2, a0, a1, a2, f0, f1, f2⟩ := HS.out.facts
  have HPL := Aside0.mk (fun w1 => place_w w1 n h0 h1)
  have HGO := Aside0.mk (fun (w1 : World) (hs : LS bs w w1 B w.heap.size g vs x A c) => strip_Good.calls (x.l.length + 2 + x.l.length) x.s A c x.l _ w1 hs.ra.here hs.ra.le (goodT_k x.s x.l hl _ (Nat.le_refl _)))
  rw [hp] at HPL
  rw [hg] at HGO
  clear hS h hx hp hg
  go_enter Try.func21, Try.ntmps21
  go_wp2_with (first | (go_at_call 25; (with_reducible refine (HPL.out _).mono ?_); rintro e w2 ⟨rfl, hd2⟩; have HS := Aside0.mk (HS.out.below (below_step (by repeat (first | (with_reducible first | exact Below.refl _ _ | apply pw_below_drewN | apply below_alloc | apply below_drew) | exact Below.refl _ _)) (drawn_below hd2))); clear hd2 l0 l1 l2 a0 a1 a2 f0 f1 f2; obtain ⟨l0, l1, l2, a0, a1, a2, f0, f1, f2⟩ := HS.out.facts) | (go_at_call 26; (with_reducible refine (good_w _ B g vs HS.out.rg).mono ?_); rintro e w3 ⟨rfl, rfl⟩) | (go_at_call 32; (with_reducible refine (HGO.out _ HS.out).mono ?_); rintro e w4 ⟨rfl, hb4⟩; have HS := Aside0.mk (HS.out.below (below_step (by repeat (first | (with_reducible first | exact Below.refl _ _ | apply pw_below_drewN | apply below_alloc | apply below_drew) | exact Below.refl _ _)) hb4)); clear hb4 l0 l1 l2 a0 a1 a2 f0 f1 f2; obtain ⟨l0, l1, l2, a0, a1, a2, f0, f1, f2⟩ := HS.out.facts))
  exact bodyPost_ret (v := .tuple #[.bool false, .int .i64 0]) (by simp [results, Try.results21, go_sem]) rfl ⟨rfl, ⟨vs, HS.out.rg⟩, grown_of_below HS.out.bl _⟩
set_option maxRecDepth 100000 in
set_option maxHeartbeats 8000000 in
theorem letter_c95 (w : World) (B : Nat) (g : List Hs) (vs : List Value) (x : En) (A : Option Addr) (c : Nat) (n : Int) (h : RG bs w B g vs) (hx : RA w B A c x.l) (hl : x.l.length ≤ 8000000000000000000) (h0 : -2147483648 ≤ n) (h1 : n ≤ 2147483647)
    (hp : pIs n = false) (n0 : (n != 0) = true) (n1 : (n != 34) = true) (n2 : (n != 95) = false) (hg : goodT x.s x.l = true) (e95 : (n == 95) = true) :
    Calls Try.prog 21 #[.pointer (some ⟨B, 0, none⟩), .int .i32 n, eV x.s (.slice A x.l.length c) x.b] w (LQ bs w B true 0 g) := by
  have hS := LS.start h hx
  have HS := Aside0.mk hS
  obtain ⟨l0, l1, l2, a0, a1, a2, f0, f1, f2⟩ := HS.out.facts
  have HPL := Aside0.mk (fun w1 => place_w w1 n h0 h1)
  have HGO := Aside0.mk (fun (w1 : World) (hs : LS bs w w1 B w.heap.size g vs x A c) => strip_Good.calls (x.l.length + 2 + x.l.length) x.s A c x.l _ w1 hs.ra.here hs.ra.le (goodT_k x.s x.l hl _ (Nat.le_refl _)))
  rw [hp] at HPL
  rw [hg] at HGO
  clear hS h hx hp hg
  go_enter Try.func21, Try.ntmps21
  go_wp2_with (first | (go_at_call 25; (with_reducible refine (HPL.out _).mono ?_); rintro e w2 ⟨rfl, hd2⟩; have HS := Aside0.mk (HS.out.below (below_step (by repeat (first | (with_reducible first | exact Below.refl _ _ | apply pw_below_drewN | apply below_alloc | apply below_drew) | exact Below.refl _ _)) (drawn_below hd2))); clear hd2 l0 l1 l2 a0 a1 a2 f0 f1 f2; obtain ⟨l0, l1, l2, a0, a1, a2, f0, f1, f2⟩ := HS.out.facts) | (go_at_call 26; (with_reducible refine (good_w _ B g vs HS.out.rg).mono ?_); rintro e w3 ⟨rfl, rfl⟩) | (go_at_call 32; (with_reducible refine (HGO.out _ HS.out).mono ?_); rintro e w4 ⟨rfl, hb4⟩; have HS := Aside0.mk (HS.out.below (below_step (by repeat (first | (with_reducible first | exact Below.refl _ _ | apply pw_below_drewN | apply below_alloc | apply below_drew) | exact Below.refl _ _)) hb4)); clear hb4 l0 l1 l2 a0 a1 a2 f0 f1 f2; obtain ⟨l0, l1, l2, a0, a1, a2, f0, f1, f2⟩ := HS.out.facts))
  exact bodyPost_ret (v := .tuple #[.bool true, .int .i64 0]) (by simp [results, Try.results21, go_sem]) rfl ⟨rfl, ⟨vs, HS.out.rg⟩, grown_of_below HS.out.bl _⟩
set_option maxRecDepth 100000 in
set_option maxHeartbeats 8000000 in
theorem letter_d1 (w : World) (B : Nat) (g : List Hs) (vs : List Value) (x : En) (A : Option Addr) (c : Nat) (n : Int) (h : RG bs w B g vs) (hx : RA w B A c x.l) (hl : x.l.length ≤ 100000) (h0 : -2147483648 ≤ n) (h1 : n ≤ 2147483647)
    (hp : pIs n = true) (hg : goodT x.s x.l = true) (ha : pAd n = false) :
    Calls Try.prog 21 #[.pointer (some ⟨B, 0, none⟩), .int .i32 n, eV x.s (.slice A x.l.length c) x.b] w (LQ bs w B true 0 (putM g x [pAt n, 37])) := by
  have hl0 := hl
  have hl : x.l.length ≤ 8000000000000000000 := by omega
  have hS := LS.start h hx
  have HS := Aside0.mk hS
  obtain ⟨l0, l1, l2, a0, a1, a2, f0, f1, f2⟩ := HS.out.facts
  have HPL := Aside0.mk (fun w1 => place_w w1 n h0 h1)
  have HGO := Aside0.mk (fun (w1 : World) (hs : LS bs w w1 B w.heap.size g vs x A c) => strip_Good.calls (x.l.length + 2 + x.l.length) x.s A c x.l _ w1 hs.ra.here hs.ra.le (goodT_k x.s x.l hl _ (Nat.le_refl _)))
  rw [hp, ha] at HPL
  rw [hg] at HGO
  have hk := pAt_lt n
  obtain ⟨A9, c9, e9⟩ := Kd.R_slice (h.r (pAt n) (by omega))
  generalize pAt n = k at *
  have HSL := Aside0.mk (fun (w1 : World) (hs : LS bs w w1 B w.heap.size g vs x A c) => e9 ▸ hs.rg.cells k (by omega))
  have HPU : Aside0 (∀ (w1 : World) (hs : LS bs w w1 B w.heap.size g vs x A c) (o : Obj), Calls Try.prog 22 #[.pointer (some ⟨B, 0, none⟩), eV x.s (.slice A x.l.length c) x.b, .slice (some ⟨w1.heap.size + 1, 0, none⟩) 2 2] ((w1.alloc o).alloc (.cells #[.int .i64 (k : Int), .int .i64 37] 3)) fun e w' => e = .returned (.tuple #[]) ∧ (∃ vs', RG bs w' B (putM g x [k, 37]) vs') ∧ w.grownBy w' (some B)) := ⟨fun w1 hs o => put_call hl0 k 37 (by omega) (by decide) hs o⟩
  have k0 : (0 : Int) ≤ (k : Int) := by omega
  have k1 : (k : Int) < 38 := by omega
  clear hS h hx hp hg ha e9
  go_enter Try.func21, Try.ntmps21
  go_wp2_with (first | (go_at_call 25; (with_reducible refine (HPL.out _).mono ?_); rintro e w2 ⟨rfl, hd2⟩; have HS := Aside0.mk (HS.out.below (below_step (by repeat (first | (with_reducible first | exact Below.refl _ _ | apply pw_below_drewN | apply below_alloc | apply below_drew) | exact Below.refl _ _)) (drawn_below hd2))); clear hd2 l0 l1 l2 a0 a1 a2 f0 f1 f2; obtain ⟨l0, l1, l2, a0, a1, a2, f0, f1, f2⟩ := HS.out.facts) | (go_at_call 26; (with_reducible refine (good_w _ B g vs HS.out.rg).mono ?_); rintro e w3 ⟨rfl, rfl⟩) | ((go_at_call 32; (with_reducible refine (HGO.out _ HS.out).mono ?_); rintro e w4 ⟨rfl, hb4⟩; have HS := Aside0.mk (HS.out.below (below_step (by repeat (first | (with_reducible first | exact Below.refl _ _ | apply pw_below_drewN | apply below_alloc | apply below_drew) | exact Below.refl _ _)) hb4)); clear hb4 l0 l1 l2 a0 a1 a2 f0 f1 f2; obtain ⟨l0, l1, l2, a0, a1, a2, f0, f1, f2⟩ := HS.out.facts); obtain ⟨s0, s1, s2, s3⟩ := HSL.out _ HS.out) | (go_at_call 22; (with_reducible refine (HPU.out _ HS.out _).mono ?_); rintro e w8 ⟨rfl, hr8, hg8⟩; have HF8 := Aside0.mk (⟨hr8, hg8⟩ : _ ∧ _); clear hr8 hg8 l0 l1 l2 a0 a1 a2 f0 f1 f2))
  exact bodyPost_ret (v := .tuple #[.bool true, .int .i64 0]) (by simp [results, Try.results21, go_sem]) rfl ⟨rfl, HF8.out⟩
set_option maxRecDepth 100000 in
set_option maxHeartbeats 8000000 in
theorem letter_d2 (w : World) (B : Nat) (g : List Hs) (vs : List Value) (x : En) (A : Option Addr) (c : Nat) (n : Int) (h : RG bs w B g vs) (hx : RA w B A c x.l) (hl : x.l.length ≤ 100000) (h0 : -2147483648 ≤ n) (h1 : n ≤ 2147483647)
    (hp : pIs n = true) (hg : goodT x.s x.l = true) (ha : pAd n = true) (hi : (gd g (pAt n)).is = false) :
    Calls Try.prog 21 #[.pointer (some ⟨B, 0, none⟩), .int .i32 n, eV x.s (.slice A x.l.length c) x.b] w (LQ bs w B true 0 (putM g x [pAt n, 37])) := by
  have hl0 := hl
  have hl : x.l.length ≤ 8000000000000000000 := by omega
  have hS := LS.start h hx
  have HS := Aside0.mk hS
  obtain ⟨l0, l1, l2, a0, a1, a2, f0, f1, f2⟩ := HS.out.facts
  have HPL := Aside0.mk (fun w1 => place_w w1 n h0 h1)
  have HGO := Aside0.mk (fun (w1 : World) (hs : LS bs w w1 B w.heap.size g vs x A c) => strip_Good.calls (x.l.length + 2 + x.l.length) x.s A c x.l _ w1 hs.ra.here hs.ra.le (goodT_k x.s x.l hl _ (Nat.le_refl _)))
  rw [hp, ha] at HPL
  rw [hg] at HGO
  have hk := pAt_lt n
  obtain ⟨A9, c9, e9⟩ := Kd.R_slice (h.r (pAt n) (by omega))
  generalize pAt n = k at *
  have HSL := Aside0.mk (fun (w1 : World) (hs : LS bs w w1 B w.heap.size g vs x A c) => e9 ▸ hi ▸ hs.rg.cells k (by omega))
  have HPU : Aside0 (∀ (w1 : World) (hs : LS bs w w1 B w.heap.size g vs x A c) (o : Obj), Calls Try.prog 22 #[.pointer (some ⟨B, 0, none⟩), eV x.s (.slice A x.l.length c) x.b, .slice (some ⟨w1.heap.size + 1, 0, none⟩) 2 2] ((w1.alloc o).alloc (.cells #[.int .i64 (k : Int), .int .i64 37] 3)) fun e w' => e = .returned (.tuple #[]) ∧ (∃ vs', RG bs w' B (putM g x [k, 37]) vs') ∧ w.grownBy w' (some B)) := ⟨fun w1 hs o => put_call hl0 k 37 (by omega) (by decide) hs o⟩
  have k0 : (0 : Int) ≤ (k : Int) := by omega
  have k1 : (k : Int) < 38 := by omega
  clear hS h hx hp hg ha e9 hi
  go_enter Try.func21, Try.ntmps21
  go_wp2_with (first | (go_at_call 25; (with_reducible refine (HPL.out _).mono ?_); rintro e w2 ⟨rfl, hd2⟩; have HS := Aside0.mk (HS.out.below (below_step (by repeat (first | (with_reducible first | exact Below.refl _ _ | apply pw_below_drewN | apply below_alloc | apply below_drew) | exact Below.refl _ _)) (drawn_below hd2))); clear hd2 l0 l1 l2 a0 a1 a2 f0 f1 f2; obtain ⟨l0, l1, l2, a0, a1, a2, f0, f1, f2⟩ := HS.out.facts) | (go_at_call 26; (with_reducible refine (good_w _ B g vs HS.out.rg).mono ?_); rintro e w3 ⟨rfl, rfl⟩) | ((go_at_call 32; (with_reducible refine (HGO.out _ HS.out).mono ?_); rintro e w4 ⟨rfl, hb4⟩; have HS := Aside0.mk (HS.out.below (below_step (by repeat (first | (with_reducible first | exact Below.refl _ _ | apply pw_below_drewN | apply below_alloc | apply below_drew) | exact Below.refl _ _)) hb4)); clear hb4 l0 l1 l2 a0 a1 a2 f0 f1 f2; obtain ⟨l0, l1, l2, a0, a1, a2, f0, f1, f2⟩ := HS.out.facts); obtain ⟨s0, s1, s2, s3⟩ := HSL.out _ HS.out) | (go_at_call 22; (with_reducible refine (HPU.out _ HS.out _).mono ?_); rintro e w8 ⟨rfl, hr8, hg8⟩; have HF8 := Aside0.mk (⟨hr8, hg8⟩ : _ ∧ _); clear hr8 hg8 l0 l1 l2 a0 a1 a2 f0 f1 f2))
  exact bodyPost_ret (v := .tuple #[.bool true, .int .i64 0]) (by simp [results, Try.results21, go_sem]) rfl ⟨rfl, HF8.out⟩

end Go.Proofs.Ytbcbfmhcoemnpaa.Ext
