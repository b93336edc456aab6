/- The walker of move: empty and paragraph, by their walks. -/
import Derived.Test.YtpajakfmahfpkaaDoorExt12BK
import Derived.Test.YtpajakfmahfpkaaDoorWMore
import Derived.WalkKit
import Derived.WalkMore
import Derived.Below
import Derived.KernelRfl
import Derived.LoopTactic
import Derived.Deep.RegionWith
import Derived.Deep.RegionHeld3
import Derived.IntWalk
import Derived.Deep.DeepCutAuto
import Derived.Deep.CutBlock
import Derived.BigQuiet
import Derived.Laws.RangeString
import Derived.Laws.RangeAny
import Derived.Laws.Rows
import Derived.Laws.Runes
import Derived.Lib.OthersKept
import Derived.OpenShut
set_option linter.unusedVariables false
set_option linter.unusedSimpArgs false
namespace Go.Proofs.YtpajakfmahfpkaaDoor.Ext
open Go.RowKit Go.Lib Go.Proofs.YtpajakfmahfpkaaDoorW.PrintWords Go.Proofs.YtpajakfmahfpkaaDoorW.PrintMore

/-! The walker of 'move': empty lines, and paragraphs, by their walks. -/
set_option maxRecDepth 100000 in
set_option maxHeartbeats 4000000 in
theorem empty_w (R : Nat) (k : Wk) (a : Int) (w : World) (hs : k.s.size < 1000000) (hR : WRow w R k) (h0 : 0 ≤ a) (h1 : a ≤ (k.s.size : Int)) :
    Calls Tryd.prog 88 #[.pointer (some ⟨R, 0, none⟩), .int .i64 a] w fun e w' => e = .returned (.bool (empZ k.s a)) ∧ Below w.heap.size w w' := by
  obtain ⟨g0, g1, g2, g3, g4, g5⟩ := hR.cells
  have e1 : (a - 1).toNat = a.toNat - 1 := by omega
  have hx1 : ∀ (h : a.toNat - 1 < k.s.size), ((k.s[a.toNat - 1]'h).toNat : Int) = bt k.s (a - 1) := by rw [← e1]; exact bt_at k.s (a - 1)
  have hx2 := bt_at k.s a
  have E : empZ k.s a = ((a == 0 || bt k.s (a - 1) == 10) && (a == (k.s.size : Int) || bt k.s a == 10)) := rfl
  rw [E]
  clear E hR e1
  generalize bt k.s (a - 1) = B at hx1 ⊢
  cases b1 : (a == 0)
  · have n0 : ¬ a = 0 := by simpa using b1
    have p1 : (1 ≤ a) = True := eq_true (by omega)
    have q1 : (a - 1 < (k.s.size : Int)) = True := eq_true (by omega)
    cases b3 : (B == 10)
    · simp only [Bool.false_or, Bool.false_and]
      clear n0
      go_enter Tryd.func88, Tryd.ntmps88
      go_wp2
      go_ret
      exact ⟨rfl, Below.refl _ _⟩
    · cases b2 : (a == (k.s.size : Int))
      · have n2 : ¬ a = (k.s.size : Int) := by simpa using b2
        have p2 : (0 ≤ a) = True := eq_true h0
        have q2 : (a < (k.s.size : Int)) = True := eq_true (by omega)
        simp only [Bool.false_or, Bool.true_and]
        clear n0 n2
        go_enter Tryd.func88, Tryd.ntmps88
        go_wp2
        go_ret
        exact ⟨rfl, Below.refl _ _⟩
      · simp only [Bool.true_or, Bool.false_or, Bool.true_and]
        clear n0
        go_enter Tryd.func88, Tryd.ntmps88
        go_wp2
        go_ret
        exact ⟨rfl, Below.refl _ _⟩
  · cases b2 : (a == (k.s.size : Int))
    · have n2 : ¬ a = (k.s.size : Int) := by simpa using b2
      have p2 : (0 ≤ a) = True := eq_true h0
      have q2 : (a < (k.s.size : Int)) = True := eq_true (by omega)
      simp only [Bool.true_or, Bool.false_or, Bool.true_and]
      clear n2
      go_enter Tryd.func88, Tryd.ntmps88
      go_wp2
      go_ret
      exact ⟨rfl, Below.refl _ _⟩
    · simp only [Bool.true_or, Bool.true_and]
      go_enter Tryd.func88, Tryd.ntmps88
      go_wp2
      go_ret
      exact ⟨rfl, Below.refl _ _⟩
/-! The walker of 'move': paragraphs, by their walk. -/
theorem Bounds_w (s : ByteArray) (hs : s.size < 1000000) (n : Int) (w : World) (hT : Tabs w) :
    Calls Tryd.prog 32 #[.string s, .int .i64 n] w fun e w' => e = .returned (.tuple #[.int .i64 (boundsZ s n).1, .int .i64 (boundsZ s n).2.1, .int .i64 (boundsZ s n).2.2]) ∧ Below w.heap.size w w' :=
  line_Bounds.calls s n _ _ _ w (by unfold line_Bounds.f; rw [if_pos hs]) hT
theorem bounds_in (s : ByteArray) (n : Int) (h : (boundsZ s n).2.2 = 0) : 0 ≤ n ∧ n < (nE s : Int) ∧ 0 ≤ (boundsZ s n).1 ∧ (boundsZ s n).1 ≤ (s.size : Int) := by
  unfold boundsZ at h ⊢
  by_cases c : 0 ≤ n ∧ n < (nE s : Int)
  · rw [if_pos c]
    have := (bF_tail s n.toNat (by unfold nE at c; omega)).1
    exact ⟨c.1, c.2, by simp only; omega, by simp only; omega⟩
  · rw [if_neg c] at h
    simp at h
def parE (s : ByteArray) (step : Int) : Int := if step > 0 then (s.size : Int) else 0
def parL (s : ByteArray) (step : Int) : Nat → Int → Int → Int
  | 0, _, _ => parE s step
  | f + 1, n, kk => if (boundsZ s kk).2.2 = 0 then (if (if empZ s (boundsZ s kk).1 = true then n - 1 else n) = 0 then (boundsZ s kk).1 else parL s step f (if empZ s (boundsZ s kk).1 = true then n - 1 else n) (kk + step)) else parE s step
def parZ (k : Wk) (step : Int) : Int := parL k.s step (nE k.s + 2) k.n (k.line + step)
set_option maxRecDepth 100000 in
set_option maxHeartbeats 8000000 in
theorem paragraph_w (R : Nat) (k : Wk) (step : Int) (w : World) (hs : k.s.size < 1000000) (hR : WRow w R k) (hT : Tabs w) (hst : step = 1 ∨ step = -1) (hn : 1 ≤ k.n ∧ k.n ≤ 999) (hl : 0 ≤ k.line ∧ k.line < (nE k.s : Int)) :
    Calls Tryd.prog 74 #[.pointer (some ⟨R, 0, none⟩), .int .i64 step] w fun e w' => e = .returned (.int .i64 (parZ k step)) ∧ Below w.heap.size w w' := by
  obtain ⟨h0, h1, h2, h3, h4, h5⟩ := hR.cells
  have hnE := nE_le k.s
  have HR := Aside0.mk hR
  have HT := Aside0.mk hT
  have hZ : Aside0 (parL k.s step (nE k.s + 2) k.n (k.line + step) = parZ k step) := ⟨rfl⟩
  have hw0 : wrap64 (k.line + step) = k.line + step := wrapZ _ (by omega) (by omega)
  generalize parZ k step = z at hZ ⊢
  clear hT hR
  go_enter Tryd.func74, Tryd.ntmps74
  go_wp2
  go_loopw [5, 6] (fun vn vk wr => ∃ (n kk : Int) (f : Nat), vn = .int .i64 n ∧ vk = .int .i64 kk ∧ 1 ≤ n ∧ n ≤ 999 ∧ -1 ≤ kk ∧ kk ≤ (nE k.s : Int) ∧ (step = 1 → (nE k.s : Int) + 1 ≤ kk + (f : Int)) ∧ (step = -1 → kk + 2 ≤ (f : Int)) ∧ Aside0 (Below w.heap.size w wr) ∧ Aside0 (parL k.s step f n kk = z)) (fun _ vk _ => if step = 1 then ((nE k.s : Int) - RowKit.intOf vk).toNat else (RowKit.intOf vk + 1).toNat)
  case atStart => exact ⟨k.n, k.line + step, nE k.s + 2, rfl, rfl, hn.1, hn.2, by omega, by omega, by omega, by omega, ⟨Below.refl _ _⟩, hZ⟩
  case round =>
    obtain ⟨n, kk, f, rfl, rfl, hn1, hn2, hk1, hk2, hf1, hf2, HB, HE⟩ := hrel
    have HRW := HR.out.below HB.out
    have HTW := HT.out.below HB.out (Nat.le_refl _)
    obtain ⟨h0, h1, h2, h3, h4, h5⟩ := HRW.cells
    have HS := Aside0.mk (Bounds_w k.s hs kk wr HTW)
    have hin := bounds_in k.s kk
    have hwn : wrap64 (n - 1) = n - 1 := wrapZ _ (by omega) (by omega)
    have hwk : wrap64 (kk + step) = kk + step := wrapZ _ (by omega) (by omega)
    cases f with
    | zero => omega
    | succ f =>
      have HE2 := HE.out
      simp only [parL] at HE2
      clear HE
      generalize boundsZ k.s kk = bz at HS HE2 hin
      obtain ⟨b1, b2, b3⟩ := bz
      simp only at HS HE2 hin
      by_cases c1 : b3 = 0
      · have cb : (b3 != 0) = false := by simp [c1]
        have hi := hin c1
        rw [if_pos c1] at HE2
        have HEM := Aside0.mk (fun w1 (hb1 : Below wr.heap.size wr w1) => empty_w R k b1 w1 hs (HRW.below hb1) hi.2.2.1 hi.2.2.2)
        clear c1 hin
        generalize empZ k.s b1 = b at HEM HE2
        cases b
        · simp only [Bool.false_eq_true, if_false] at HE2
          rw [if_neg (by omega)] at HE2
          have HZ := Aside0.mk HE2
          clear HE2
          have nb : (n == 0) = false := beq_eq_false_iff_ne.mpr (by omega)
          go_wp2_with (first
            | (go_at_call 32; refine HS.out.mono ?_; rintro e w1 ⟨rfl, hb1⟩)
            | (go_at_call 88; refine (HEM.out w1 hb1).mono ?_; rintro e w2 ⟨rfl, hb2⟩))
          go_roundw
          case rel => exact ⟨n, kk + step, f, rfl, rfl, hn1, hn2, by omega, by omega, by omega, by omega, ⟨HB.out.trans ((hb1.trans (hb2.mono hb1.size)).mono HB.out.size)⟩, HZ⟩
          case measure => simp [RowKit.intOf]; split <;> omega
        · simp only [if_true] at HE2
          by_cases c3 : n - 1 = 0
          · rw [if_pos c3] at HE2
            have HZ := Aside0.mk HE2
            have nb : (n - 1 == 0) = true := beq_iff_eq.mpr c3
            clear HE2 c3
            go_wp2_with (first
              | (go_at_call 32; refine HS.out.mono ?_; rintro e w1 ⟨rfl, hb1⟩)
              | (go_at_call 88; refine (HEM.out w1 hb1).mono ?_; rintro e w2 ⟨rfl, hb2⟩))
            go_ret
            exact ⟨by have e := HZ.out; subst e; rfl, HB.out.trans ((hb1.trans (hb2.mono hb1.size)).mono HB.out.size)⟩
          · rw [if_neg c3] at HE2
            have HZ := Aside0.mk HE2
            have nb : (n - 1 == 0) = false := beq_eq_false_iff_ne.mpr c3
            clear HE2
            go_wp2_with (first
              | (go_at_call 32; refine HS.out.mono ?_; rintro e w1 ⟨rfl, hb1⟩)
              | (go_at_call 88; refine (HEM.out w1 hb1).mono ?_; rintro e w2 ⟨rfl, hb2⟩))
            go_roundw
            case rel => exact ⟨n - 1, kk + step, f, rfl, rfl, by omega, by omega, by omega, by omega, by omega, by omega, ⟨HB.out.trans ((hb1.trans (hb2.mono hb1.size)).mono HB.out.size)⟩, HZ⟩
            case measure => simp [RowKit.intOf]; split <;> omega
      · have cb : (b3 != 0) = true := bne_iff_ne.mpr c1
        rw [if_neg c1] at HE2
        have HZ := Aside0.mk HE2
        clear HE2 c1 hin
        rcases hst with rfl | rfl
        · go_wp2_with (go_at_call 32; refine HS.out.mono ?_; rintro e w1 ⟨rfl, hb1⟩; have hr1 := HRW.below hb1; obtain ⟨g0, g1, g2, g3, g4, g5⟩ := hr1.cells)
          go_ret
          exact ⟨by have e := HZ.out; subst e; rfl, HB.out.trans (hb1.mono HB.out.size)⟩
        · go_wp2_with (go_at_call 32; refine HS.out.mono ?_; rintro e w1 ⟨rfl, hb1⟩; have hr1 := HRW.below hb1; obtain ⟨g0, g1, g2, g3, g4, g5⟩ := hr1.cells)
          go_ret
          exact ⟨by have e := HZ.out; subst e; rfl, HB.out.trans (hb1.mono HB.out.size)⟩

end Go.Proofs.YtpajakfmahfpkaaDoor.Ext
