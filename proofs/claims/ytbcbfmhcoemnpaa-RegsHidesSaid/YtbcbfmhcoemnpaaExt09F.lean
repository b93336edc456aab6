/- regs: a wide Delete, by its walk. -/
import Derived.Test.YtbcbfmhcoemnpaaExt09E
import Derived.Test.YtbcbfmhcoemnpaaXRRx2
import Derived.Test.YtbcbfmhcoemnpaaXRRx3
import Derived.Test.YtbcbfmhcoemnpaaXRRx4
import Derived.Test.YtbcbfmhcoemnpaaXRRx0
import Derived.Test.YtbcbfmhcoemnpaaWMore
import Derived.WalkKit
import Derived.WalkMore
import Derived.Below
import Derived.KernelRfl
import Derived.LoopTactic
import Derived.Deep.RegionWith
import Derived.Deep.RegionHeld3
import Derived.IntWalk
import Derived.Deep.DeepCutAuto
import Derived.Deep.CutBlock
import Derived.BigQuiet
import Derived.Laws.RangeString
import Derived.Laws.RangeAny
import Derived.Laws.Rows
import Derived.Laws.Runes
import Derived.Lib.OthersKept
import Derived.OpenShut
set_option linter.unusedVariables false
set_option linter.unusedSimpArgs false
namespace Go.Proofs.Ytbcbfmhcoemnpaa.Ext
open Go.RowKit Go.Lib Go.Proofs.YtbcbfmhcoemnpaaW.PrintWords Go.Proofs.YtbcbfmhcoemnpaaW.PrintMore Go.Proofs.Ytbcbfmhcoemnpaa.XRR

variable {bs : Nat}
theorem vd_set (vs : List Value) (k i : Nat) (x : Value) : vd (vs.set k x) i = if k = i ∧ k < vs.length then x else vd vs i := by
  unfold vd
  rw [List.getD_eq_getElem?_getD, List.getD_eq_getElem?_getD, List.getElem?_set]
  by_cases e : k = i
  · subst e
    by_cases e2 : k < vs.length
    · rw [if_pos rfl, if_pos e2, if_pos ⟨rfl, e2⟩]; rfl
    · rw [if_pos rfl, if_neg e2, if_neg (fun h => e2 h.2), List.getElem?_eq_none (by omega)]
  · rw [if_neg e, if_neg (fun h => e h.1)]
theorem prev_i1 {j k : Nat} (h : j ≠ 0 ∧ j ≤ 8 ∧ k = j + 1) : j - 1 ≤ 8 := by omega
theorem prev_i2 {j k : Nat} (h : j ≠ 0 ∧ j ≤ 8 ∧ k = j + 1) (e : wrap64 ((k : Int) - 1) = (j : Int)) : wrap64 ((k : Int) - 1) = ((j - 1 + 1 : Nat) : Int) := by
  rw [e]
  omega
theorem prev_i3 {j k : Nat} (h : j ≠ 0 ∧ j ≤ 8 ∧ k = j + 1) (e : wrap64 ((k : Int) - 1) = (j : Int)) : (intOf (.int .i64 (wrap64 ((k : Int) - 1)))).toNat < (intOf (.int .i64 (k : Int))).toNat := by
  rw [e]
  simp only [intOf, Int.toNat_natCast]
  omega
set_option maxRecDepth 100000 in
set_option maxHeartbeats 8000000 in
theorem Delete_3 (w : World) (B : Nat) (g : List Hs) (vs : List Value) (x : En) (A : Option Addr) (c : Nat) (n : Int) (h : RG bs w B g vs) (hx : RA w B A c x.l) (hG : GG g) (hl : x.l.length ≤ 100000) (h0 : -2147483648 ≤ n) (h1 : n ≤ 2147483647)
    (hd : (letM g n x).2.1 = false) :
    Calls Try.prog 10 #[.pointer (some ⟨B, 0, none⟩), .int .i32 n, eV x.s (.slice A x.l.length c) x.b, .bool true] w (YQ bs w B 0 (putM (shM (letM g n x).1 8) x [1, 37])) := by
  have HLE := Aside0.mk (letter_box w B g vs x A c n h hx hG hl h0 h1)
  have lB0 := h.lt
  generalize letM g n x = z at *
  obtain ⟨g2, d, e⟩ := z
  dsimp only at HLE hd ⊢
  subst hd
  have HPU : Aside0 (∀ (W : World) (vs2 : List Value), w.grownBy W (some B) → RG bs W B (shM g2 8) vs2 → Calls Try.prog 22 #[.pointer (some ⟨B, 0, none⟩), eV x.s (.slice A x.l.length c) x.b, .slice (some ⟨W.heap.size, 0, none⟩) 2 2] (W.alloc (.cells #[.int .i64 1, .int .i64 37] 3)) fun e w' => e = .returned (.tuple #[]) ∧ (∃ vs', RG bs w' B (putM (shM g2 8) x [1, 37]) vs') ∧ w.grownBy w' (some B)) := ⟨fun W vs2 hW hr => put_call2 hl 1 37 (by decide) (by decide) hW hr (hx.grown hW)⟩
  clear h hx hG hl
  go_enter Try.func10, Try.ntmps10
  go_wp2_with (first | (go_at_call 21; (with_reducible refine HLE.out.mono ?_); rintro e w2 ⟨rfl, ⟨vs2, hr2⟩, hg2, he2⟩; have HR2 := Aside0.mk hr2; have HG2 := Aside0.mk hg2; have HE2 := Aside0.mk he2; have lp := blk_lt he2.x; obtain ⟨a0, a1, a2, f0, f1, f2⟩ := he2.cells; have lB := hr2.lt; clear hr2 hg2 he2))
  have hS : RG bs w2 B g2 vs2 ∧ w.grownBy w2 (some B) ∧ EX w2 w.heap.size x.s (.slice A x.l.length c) x.b := ⟨HR2.out, HG2.out, HE2.out⟩
  clear a0 a1 a2 f0 f1 f2 lp lB HR2 HG2 HE2 HLE
  go_loopw [11] (fun i wr => ∃ j : Nat, ∃ vs', j ≤ 8 ∧ i = .int .i64 ((j + 1 : Nat) : Int) ∧ Aside0 (RG bs wr B (shM g2 (8 - j)) vs' ∧ w.grownBy wr (some B) ∧ EX wr w.heap.size x.s (.slice A x.l.length c) x.b)) (fun i _ => (intOf i).toNat)
  case atStart => exact ⟨8, vs2, by omega, rfl, ⟨hS⟩⟩
  case round =>
    obtain ⟨j, vs', hj, rfl, ⟨hG, hW, hE⟩⟩ := hrel
    have hne : w.heap.size ≠ B := by omega
    clear hS
    by_cases hj0 : j = 0
    · subst hj0
      have HR := Aside0.mk hG
      have HW := Aside0.mk hW
      obtain ⟨a0, a1, a2, f0, f1, f2⟩ := hE.cells
      clear hG hW hE
      go_wp2_with (first | (go_at_call 22; (with_reducible refine (HPU.out _ _ HW.out HR.out).mono ?_); rintro e w8 ⟨rfl, hr8, hg8⟩; have HF8 := Aside0.mk (⟨hr8, hg8⟩ : _ ∧ _); clear hr8 hg8 a0 a1 a2 f0 f1 f2))
      go_ret
      exact ⟨rfl, HF8.out⟩
    · obtain ⟨ti, ts, tl, tb, eg⟩ : ∃ ti ts tl tb, gd (shM g2 (8 - j)) j = ⟨ti, ts, tl, tb⟩ := ⟨_, _, _, _, rfl⟩
      have hR := hG.r j (by omega)
      rw [eg] at hR
      obtain ⟨A9, c9, e9⟩ := Kd.R_slice hR
      have hc := hG.cells j (by omega)
      rw [eg, e9] at hc
      obtain ⟨t0, t1, t2, t3⟩ := hc
      obtain ⟨k, hk⟩ : ∃ k, k = j + 1 := ⟨_, rfl⟩
      rw [← hk]
      have hw : wrap64 ((k : Int) - 1) = (j : Int) := by rw [IntWalk.wrap64_in _ ⟨by omega, by omega⟩]; omega
      have hw2 : IntKind.i64.wrap ((k : Int) - 1) = (j : Int) := by rw [show IntKind.i64.wrap ((k : Int) - 1) = wrap64 ((k : Int) - 1) from by unfold wrap64; exact IntKind.wrap_i64 _]; exact hw
      obtain ⟨s0, s1, s2, s3⟩ := hG.cells k (by omega)
      have q0 := hG.free (1 + k * 4)
      have q1 := hG.free (1 + k * 4 + 1)
      have q2 := hG.free (1 + k * 4 + 2)
      have q3 := hG.free (1 + k * 4 + 3)
      have k0 : (0 : Int) ≤ (k : Int) := by omega
      have k1 : (k : Int) < 38 := by omega
      have k2 : (1 : Int) < (k : Int) := by omega
      have j0 : (0 : Int) ≤ (j : Int) := by omega
      have j1 : (j : Int) < 38 := by omega
      have lB := hG.lt
      have HN : Aside0 (RG bs (put4 wr B k ⟨ti, ts, tl, tb⟩ (.slice A9 tl.length c9)) B (shM g2 (8 - (j - 1))) (vs'.set k (.slice A9 tl.length c9)) ∧ w.grownBy (put4 wr B k ⟨ti, ts, tl, tb⟩ (.slice A9 tl.length c9)) (some B) ∧ EX (put4 wr B k ⟨ti, ts, tl, tb⟩ (.slice A9 tl.length c9)) w.heap.size x.s (.slice A x.l.length c) x.b) := ⟨by
        have := hG.put k (by omega) ⟨ti, ts, tl, tb⟩ (.slice A9 tl.length c9) (e9 ▸ hR)
        rw [show 8 - (j - 1) = (8 - j) + 1 by omega, shM, show 9 - (8 - j) = k by omega, show 8 - (8 - j) = j by omega, eg]
        exact this, two_grown hW (put4_grown _ _ _ _ _), hE.put hne k _ _⟩
      have HT : Aside0 ((put4 wr B k ⟨ti, ts, tl, tb⟩ (.slice A9 tl.length c9)).cell? ⟨B, 1 + j * 4, none⟩ = some (.bool ti) ∧ (put4 wr B k ⟨ti, ts, tl, tb⟩ (.slice A9 tl.length c9)).cell? ⟨B, 1 + j * 4 + 1, none⟩ = some (.string ts) ∧ (put4 wr B k ⟨ti, ts, tl, tb⟩ (.slice A9 tl.length c9)).cell? ⟨B, 1 + j * 4 + 2, none⟩ = some (.slice A9 tl.length c9) ∧ (put4 wr B k ⟨ti, ts, tl, tb⟩ (.slice A9 tl.length c9)).cell? ⟨B, 1 + j * 4 + 3, none⟩ = some (.bool tb)) := ⟨by
        have := (hG.put k (by omega) ⟨ti, ts, tl, tb⟩ (.slice A9 tl.length c9) (e9 ▸ hR)).cells j (by omega)
        rw [gd_set, if_neg (by omega), eg, vd_set, if_neg (by omega), e9] at this
        exact this⟩
      have HJ : Aside0 (j ≠ 0 ∧ j ≤ 8 ∧ k = j + 1) := ⟨hj0, hj, hk⟩
      clear hG hW hE eg hR e9 hj0 hj hk
      go_wp2
      go_region_held3 (fun w' => w'.cell? ⟨B, 1 + j * 4, none⟩ = some (.bool ti) ∧ w'.cell? ⟨B, 1 + j * 4 + 1, none⟩ = some (.string ts) ∧ w'.cell? ⟨B, 1 + j * 4 + 2, none⟩ = some (.slice A9 tl.length c9) ∧ w'.cell? ⟨B, 1 + j * 4 + 3, none⟩ = some (.bool tb)) (first | exact ⟨t0, t1, t2, t3⟩ | exact HT.out) (first | fail)
      all_goals (
        refine (?_ : Exit.inBlock _ _ _ _ (put4 wr B k ⟨ti, ts, tl, tb⟩ (.slice A9 tl.length c9)).drew)
        have HN2 : Aside0 (RG bs (put4 wr B k ⟨ti, ts, tl, tb⟩ (.slice A9 tl.length c9)).drew B (shM g2 (8 - (j - 1))) (vs'.set k (.slice A9 tl.length c9)) ∧ w.grownBy (put4 wr B k ⟨ti, ts, tl, tb⟩ (.slice A9 tl.length c9)).drew (some B) ∧ EX (put4 wr B k ⟨ti, ts, tl, tb⟩ (.slice A9 tl.length c9)).drew w.heap.size x.s (.slice A x.l.length c) x.b) := ⟨HN.out.1.below (below_drew (Below.refl _ _)), two_grown HN.out.2.1 (grown_of_below (below_drew (Below.refl _ _)) _), HN.out.2.2.below (below_drew (Below.refl _ _))⟩
        have HW2 := Aside0.mk hw
        clear HN HT t0 t1 t2 t3 s0 s1 s2 s3 q0 q1 q2 q3 lB hw2 k0 k1 k2 j0 j1
        generalize (put4 wr B k ⟨ti, ts, tl, tb⟩ (.slice A9 tl.length c9)).drew = w8 at HN2 ⊢
        generalize vs'.set k (.slice A9 tl.length c9) = vs8 at HN2
        go_wp2
        exact ⟨⟨j - 1, vs8, prev_i1 HJ.out, congrArg (Value.int .i64) (prev_i2 HJ.out HW2.out), HN2⟩, prev_i3 HJ.out HW2.out⟩)
set_option maxRecDepth 100000 in
set_option maxHeartbeats 8000000 in
theorem Delete_4 (w : World) (B : Nat) (g : List Hs) (vs : List Value) (x : En) (A : Option Addr) (c : Nat) (n : Int) (h : RG bs w B g vs) (hx : RA w B A c x.l) (hG : GG g) (hl : x.l.length ≤ 100000) (h0 : -2147483648 ≤ n) (h1 : n ≤ 2147483647)
    (hd : (letM g n x).2.1 = false) (hb : x.b = true) :
    Calls Try.prog 10 #[.pointer (some ⟨B, 0, none⟩), .int .i32 n, eV x.s (.slice A x.l.length c) x.b, .bool false] w (YQ bs w B 0 (putM (shM (letM g n x).1 8) x [1, 37])) := by
  have HLE := Aside0.mk (letter_box w B g vs x A c n h hx hG hl h0 h1)
  have lB0 := h.lt
  generalize letM g n x = z at *
  obtain ⟨g2, d, e⟩ := z
  dsimp only at HLE hd ⊢
  subst hd
  have HPU : Aside0 (∀ (W : World) (vs2 : List Value), w.grownBy W (some B) → RG bs W B (shM g2 8) vs2 → Calls Try.prog 22 #[.pointer (some ⟨B, 0, none⟩), eV x.s (.slice A x.l.length c) x.b, .slice (some ⟨W.heap.size, 0, none⟩) 2 2] (W.alloc (.cells #[.int .i64 1, .int .i64 37] 3)) fun e w' => e = .returned (.tuple #[]) ∧ (∃ vs', RG bs w' B (putM (shM g2 8) x [1, 37]) vs') ∧ w.grownBy w' (some B)) := ⟨fun W vs2 hW hr => put_call2 hl 1 37 (by decide) (by decide) hW hr (hx.grown hW)⟩
  clear h hx hG hl
  obtain ⟨xs, xl, xb⟩ := x
  dsimp only at hb HPU HLE ⊢
  subst hb
  go_enter Try.func10, Try.ntmps10
  go_wp2_with (first | (go_at_call 21; (with_reducible refine HLE.out.mono ?_); rintro e w2 ⟨rfl, ⟨vs2, hr2⟩, hg2, he2⟩; have HR2 := Aside0.mk hr2; have HG2 := Aside0.mk hg2; have HE2 := Aside0.mk he2; have lp := blk_lt he2.x; obtain ⟨a0, a1, a2, f0, f1, f2⟩ := he2.cells; have lB := hr2.lt; clear hr2 hg2 he2))
  have hS : RG bs w2 B g2 vs2 ∧ w.grownBy w2 (some B) ∧ EX w2 w.heap.size xs (.slice A xl.length c) true := ⟨HR2.out, HG2.out, HE2.out⟩
  clear a0 a1 a2 f0 f1 f2 lp lB HR2 HG2 HE2 HLE
  go_loopw [11] (fun i wr => ∃ j : Nat, ∃ vs', j ≤ 8 ∧ i = .int .i64 ((j + 1 : Nat) : Int) ∧ Aside0 (RG bs wr B (shM g2 (8 - j)) vs' ∧ w.grownBy wr (some B) ∧ EX wr w.heap.size xs (.slice A xl.length c) true)) (fun i _ => (intOf i).toNat)
  case atStart => exact ⟨8, vs2, by omega, rfl, ⟨hS⟩⟩
  case round =>
    obtain ⟨j, vs', hj, rfl, ⟨hG, hW, hE⟩⟩ := hrel
    have hne : w.heap.size ≠ B := by omega
    clear hS
    by_cases hj0 : j = 0
    · subst hj0
      have HR := Aside0.mk hG
      have HW := Aside0.mk hW
      obtain ⟨a0, a1, a2, f0, f1, f2⟩ := hE.cells
      clear hG hW hE
      go_wp2_with (first | (go_at_call 22; (with_reducible refine (HPU.out _ _ HW.out HR.out).mono ?_); rintro e w8 ⟨rfl, hr8, hg8⟩; have HF8 := Aside0.mk (⟨hr8, hg8⟩ : _ ∧ _); clear hr8 hg8 a0 a1 a2 f0 f1 f2))
      go_ret
      exact ⟨rfl, HF8.out⟩
    · obtain ⟨ti, ts, tl, tb, eg⟩ : ∃ ti ts tl tb, gd (shM g2 (8 - j)) j = ⟨ti, ts, tl, tb⟩ := ⟨_, _, _, _, rfl⟩
      have hR := hG.r j (by omega)
      rw [eg] at hR
      obtain ⟨A9, c9, e9⟩ := Kd.R_slice hR
      have hc := hG.cells j (by omega)
      rw [eg, e9] at hc
      obtain ⟨t0, t1, t2, t3⟩ := hc
      obtain ⟨k, hk⟩ : ∃ k, k = j + 1 := ⟨_, rfl⟩
      rw [← hk]
      have hw : wrap64 ((k : Int) - 1) = (j : Int) := by rw [IntWalk.wrap64_in _ ⟨by omega, by omega⟩]; omega
      have hw2 : IntKind.i64.wrap ((k : Int) - 1) = (j : Int) := by rw [show IntKind.i64.wrap ((k : Int) - 1) = wrap64 ((k : Int) - 1) from by unfold wrap64; exact IntKind.wrap_i64 _]; exact hw
      obtain ⟨s0, s1, s2, s3⟩ := hG.cells k (by omega)
      have q0 := hG.free (1 + k * 4)
      have q1 := hG.free (1 + k * 4 + 1)
      have q2 := hG.free (1 + k * 4 + 2)
      have q3 := hG.free (1 + k * 4 + 3)
      have k0 : (0 : Int) ≤ (k : Int) := by omega
      have k1 : (k : Int) < 38 := by omega
      have k2 : (1 : Int) < (k : Int) := by omega
      have j0 : (0 : Int) ≤ (j : Int) := by omega
      have j1 : (j : Int) < 38 := by omega
      have lB := hG.lt
      have HN : Aside0 (RG bs (put4 wr B k ⟨ti, ts, tl, tb⟩ (.slice A9 tl.length c9)) B (shM g2 (8 - (j - 1))) (vs'.set k (.slice A9 tl.length c9)) ∧ w.grownBy (put4 wr B k ⟨ti, ts, tl, tb⟩ (.slice A9 tl.length c9)) (some B) ∧ EX (put4 wr B k ⟨ti, ts, tl, tb⟩ (.slice A9 tl.length c9)) w.heap.size xs (.slice A xl.length c) true) := ⟨by
        have := hG.put k (by omega) ⟨ti, ts, tl, tb⟩ (.slice A9 tl.length c9) (e9 ▸ hR)
        rw [show 8 - (j - 1) = (8 - j) + 1 by omega, shM, show 9 - (8 - j) = k by omega, show 8 - (8 - j) = j by omega, eg]
        exact this, two_grown hW (put4_grown _ _ _ _ _), hE.put hne k _ _⟩
      have HT : Aside0 ((put4 wr B k ⟨ti, ts, tl, tb⟩ (.slice A9 tl.length c9)).cell? ⟨B, 1 + j * 4, none⟩ = some (.bool ti) ∧ (put4 wr B k ⟨ti, ts, tl, tb⟩ (.slice A9 tl.length c9)).cell? ⟨B, 1 + j * 4 + 1, none⟩ = some (.string ts) ∧ (put4 wr B k ⟨ti, ts, tl, tb⟩ (.slice A9 tl.length c9)).cell? ⟨B, 1 + j * 4 + 2, none⟩ = some (.slice A9 tl.length c9) ∧ (put4 wr B k ⟨ti, ts, tl, tb⟩ (.slice A9 tl.length c9)).cell? ⟨B, 1 + j * 4 + 3, none⟩ = some (.bool tb)) := ⟨by
        have := (hG.put k (by omega) ⟨ti, ts, tl, tb⟩ (.slice A9 tl.length c9) (e9 ▸ hR)).cells j (by omega)
        rw [gd_set, if_neg (by omega), eg, vd_set, if_neg (by omega), e9] at this
        exact this⟩
      have HJ : Aside0 (j ≠ 0 ∧ j ≤ 8 ∧ k = j + 1) := ⟨hj0, hj, hk⟩
      clear hG hW hE eg hR e9 hj0 hj hk
      go_wp2
      go_region_held3 (fun w' => w'.cell? ⟨B, 1 + j * 4, none⟩ = some (.bool ti) ∧ w'.cell? ⟨B, 1 + j * 4 + 1, none⟩ = some (.string ts) ∧ w'.cell? ⟨B, 1 + j * 4 + 2, none⟩ = some (.slice A9 tl.length c9) ∧ w'.cell? ⟨B, 1 + j * 4 + 3, none⟩ = some (.bool tb)) (first | exact ⟨t0, t1, t2, t3⟩ | exact HT.out) (first | fail)
      all_goals (
        refine (?_ : Exit.inBlock _ _ _ _ (put4 wr B k ⟨ti, ts, tl, tb⟩ (.slice A9 tl.length c9)).drew)
        have HN2 : Aside0 (RG bs (put4 wr B k ⟨ti, ts, tl, tb⟩ (.slice A9 tl.length c9)).drew B (shM g2 (8 - (j - 1))) (vs'.set k (.slice A9 tl.length c9)) ∧ w.grownBy (put4 wr B k ⟨ti, ts, tl, tb⟩ (.slice A9 tl.length c9)).drew (some B) ∧ EX (put4 wr B k ⟨ti, ts, tl, tb⟩ (.slice A9 tl.length c9)).drew w.heap.size xs (.slice A xl.length c) true) := ⟨HN.out.1.below (below_drew (Below.refl _ _)), two_grown HN.out.2.1 (grown_of_below (below_drew (Below.refl _ _)) _), HN.out.2.2.below (below_drew (Below.refl _ _))⟩
        have HW2 := Aside0.mk hw
        clear HN HT t0 t1 t2 t3 s0 s1 s2 s3 q0 q1 q2 q3 lB hw2 k0 k1 k2 j0 j1
        generalize (put4 wr B k ⟨ti, ts, tl, tb⟩ (.slice A9 tl.length c9)).drew = w8 at HN2 ⊢
        generalize vs'.set k (.slice A9 tl.length c9) = vs8 at HN2
        go_wp2
        exact ⟨⟨j - 1, vs8, prev_i1 HJ.out, congrArg (Value.int .i64) (prev_i2 HJ.out HW2.out), HN2⟩, prev_i3 HJ.out HW2.out⟩)
theorem delM_1 {g : List Hs} {n : Int} {x : En} {wide : Bool} (hd : (letM g n x).2.1 = true) : delM g n x wide = ((letM g n x).1, (letM g n x).2.2) := if_pos hd
theorem delM_2 {g : List Hs} {n : Int} {x : En} (hd : (letM g n x).2.1 = false) (hb : x.b = false) : delM g n x false = (putM (letM g n x).1 x [36, 37], 0) := (if_neg (by rw [hd]; decide)).trans (if_pos ⟨rfl, hb⟩)
theorem delM_3 {g : List Hs} {n : Int} {x : En} (hd : (letM g n x).2.1 = false) : delM g n x true = (putM (shM (letM g n x).1 8) x [1, 37], 0) := (if_neg (by rw [hd]; decide)).trans (if_neg (by simp))
theorem delM_4 {g : List Hs} {n : Int} {x : En} (hd : (letM g n x).2.1 = false) (hb : x.b = true) : delM g n x false = (putM (shM (letM g n x).1 8) x [1, 37], 0) := (if_neg (by rw [hd]; decide)).trans (if_neg (by rw [hb]; simp))
theorem bool_no {b : Bool} (h : ¬ b = true) : b = false := by cases b; rfl; exact absurd rfl h
theorem Delete_w (w : World) (B : Nat) (g : List Hs) (vs : List Value) (x : En) (A : Option Addr) (c : Nat) (n : Int) (wide : Bool) (h : RG bs w B g vs) (hx : RA w B A c x.l) (hG : GG g) (hl : x.l.length ≤ 100000) (h0 : -2147483648 ≤ n) (h1 : n ≤ 2147483647) :
    Calls Try.prog 10 #[.pointer (some ⟨B, 0, none⟩), .int .i32 n, eV x.s (.slice A x.l.length c) x.b, .bool wide] w (YQ bs w B (delM g n x wide).2 (delM g n x wide).1) := by
  by_cases hd : (letM g n x).2.1 = true
  · rw [delM_1 hd]
    exact Delete_1 w B g vs x A c n wide h hx hG hl h0 h1 hd
  · have hd := bool_no hd
    cases wide
    · by_cases hb : x.b = true
      · rw [delM_4 hd hb]
        exact Delete_4 w B g vs x A c n h hx hG hl h0 h1 hd hb
      · rw [delM_2 hd (bool_no hb)]
        exact Delete_2 w B g vs x A c n h hx hG hl h0 h1 hd (bool_no hb)
    · rw [delM_3 hd]
      exact Delete_3 w B g vs x A c n h hx hG hl h0 h1 hd

end Go.Proofs.Ytbcbfmhcoemnpaa.Ext
