/- The walker of 'move': down and up, by their walks. -/
import Derived.Test.YtpajakfmahfpkaaDoorExt12BK
import Derived.Test.YtpajakfmahfpkaaDoorWMore
import Derived.WalkKit
import Derived.WalkMore
import Derived.Below
import Derived.KernelRfl
import Derived.LoopTactic
import Derived.Deep.RegionWith
import Derived.Deep.RegionHeld3
import Derived.IntWalk
import Derived.Deep.DeepCutAuto
import Derived.Deep.CutBlock
import Derived.BigQuiet
import Derived.Laws.RangeString
import Derived.Laws.RangeAny
import Derived.Laws.Rows
import Derived.Laws.Runes
import Derived.Lib.OthersKept
import Derived.OpenShut
set_option linter.unusedVariables false
set_option linter.unusedSimpArgs false
namespace Go.Proofs.YtpajakfmahfpkaaDoor.Ext
open Go.RowKit Go.Lib Go.Proofs.YtpajakfmahfpkaaDoorW.PrintWords Go.Proofs.YtpajakfmahfpkaaDoorW.PrintMore

inductive Rf | beg | fin | any | is (g : Int)
def rfZ (s : ByteArray) : Rf → Int → Bool
  | .beg, a => begZ s a
  | .fin, a => finZ s a
  | .any, _ => true
  | .is g, a => runeZ s a == g
def RfV (w : World) (R : Nat) (v : Value) : Rf → Prop
  | .beg => v = .func (.func 73) #[.pointer (some ⟨R, 0, none⟩)] #[]
  | .fin => v = .func (.func 36) #[.pointer (some ⟨R, 0, none⟩)] #[]
  | .any => v = .func (.func 72) #[] #[]
  | .is g => ∃ b2 b3 : Nat, v = .func (.func 70) #[] #[.pointer (some ⟨b2, 0, none⟩), .pointer (some ⟨b3, 0, none⟩)] ∧ w.cell? ⟨b2, 0, none⟩ = some (.pointer (some ⟨R, 0, none⟩)) ∧ w.cell? ⟨b3, 1, none⟩ = some (.int .i32 g)
theorem RfV.below {w w' : World} {R : Nat} {v : Value} {rf : Rf} (h : RfV w R v rf) (hb : Below w.heap.size w w') : RfV w' R v rf := by
  cases rf with
  | beg => exact h
  | fin => exact h
  | any => exact h
  | is g =>
    obtain ⟨b2, b3, h1, h2, h3⟩ := h
    exact ⟨b2, b3, h1, (hb.cell (World.block_lt_of_cell? w _ h2)).trans h2, (hb.cell (World.block_lt_of_cell? w _ h3)).trans h3⟩
theorem next_range (s : ByteArray) (a : Int) : 0 ≤ nextZ s a ∧ nextZ s a ≤ (s.size : Int) ∧ (0 ≤ a → a < (s.size : Int) → a < nextZ s a) := by
  obtain ⟨n, h⟩ := signs_ex s
  obtain ⟨j, ha⟩ := At.ex h a
  have e := alignZ_eq h ha
  unfold nextZ widZ
  rw [e]
  by_cases c : j < n
  · have h1 := h.lt j c
    have h2 := h.le_size (show j + 1 ≤ n by omega)
    have h3 : Ext.st s (j + 1) = Ext.st s j + (Utf8.decode s (Ext.st s j)).2 := rfl
    rw [if_neg (by omega)]
    refine ⟨by omega, by omega, fun g1 g2 => ?_⟩
    have := ha.2.2.1 g1 g2
    omega
  · have hj := ha.1
    obtain rfl : j = n := by omega
    rw [if_pos h.last, h.last]
    refine ⟨by omega, by omega, fun g1 g2 => ?_⟩
    have := (ha.2.2.1 g1 g2).1
    omega
theorem prev_range (s : ByteArray) (a : Int) : 0 ≤ prevZ s a ∧ prevZ s a ≤ (s.size : Int) ∧ (0 < a → prevZ s a < a) := by
  obtain ⟨n, h⟩ := signs_ex s
  obtain ⟨j, ha⟩ := At.ex h a
  have e := alignZ_eq h ha
  have hl := alignZ_le s (((alignZ s a : Nat) : Int) - 1)
  refine ⟨by unfold prevZ; omega, by unfold prevZ; omega, fun g => ?_⟩
  unfold prevZ
  obtain ⟨i, hi⟩ := At.ex h (((alignZ s a : Nat) : Int) - 1)
  rw [alignZ_eq h hi]
  have h0 := hi.2.1
  have h1 := hi.2.2.1
  have hj := h.le_size ha.1
  rw [e] at h0 h1
  by_cases c : Ext.st s j = 0
  · have := h0 (by omega)
    subst this
    rw [show Ext.st s 0 = 0 from rfl]
    omega
  · have := h1 (by omega) (by omega)
    have h2 : ((Ext.st s j : Nat) : Int) ≤ a := by
      by_cases c2 : a < (s.size : Int)
      · exact (ha.2.2.1 (by omega) c2).2.1
      · omega
    omega
def dnL (s : ByteArray) (right : Int → Bool) (a bound other : Int) : Nat → Int → Int → Int × Bool
  | 0, _, _ => (other, false)
  | f + 1, n, at_ => if at_ > a then (if at_ < bound then (if (if right at_ = true then n - 1 else n) = 0 then (at_, true) else dnL s right a bound other f (if right at_ = true then n - 1 else n) (nextZ s at_)) else (other, false)) else (other, false)
def dnZ (k : Wk) (rf : Rf) (bound other : Int) : Int × Bool := dnL k.s (rfZ k.s rf) k.a bound other (k.s.size + 1) k.n (nextZ k.s k.a)
set_option maxRecDepth 100000 in
set_option maxHeartbeats 8000000 in
theorem down_w (R : Nat) (k : Wk) (bound other : Int) (rf : Rf) (v : Value) (w : World) (hs : k.s.size < 1000000) (hR : WRow w R k) (hT : Tabs w) (hv : RfV w R v rf) (hb : bound ≤ (k.s.size : Int)) (hn : 1 ≤ k.n ∧ k.n ≤ 999) (ha : 0 ≤ k.a) :
    Calls Tryd.prog 34 #[.pointer (some ⟨R, 0, none⟩), .int .i64 bound, .int .i64 other, v] w fun e w' => e = .returned (.tuple #[.int .i64 (dnZ k rf bound other).1, .bool (dnZ k rf bound other).2]) ∧ Below w.heap.size w w' := by
  obtain ⟨h0, h1, h2, h3, h4, h5⟩ := hR.cells
  have HR := Aside0.mk hR
  have HT := Aside0.mk hT
  have HV := Aside0.mk hv
  have hbd : Below w.heap.size w w.drew := (Below.refl _ _).drew
  have HD := Aside0.mk hbd
  have HN := Aside0.mk (Next_w k.s hs k.a w.drew (hT.below hbd (Nat.le_refl _)))
  clear hbd
  have hZ : Aside0 (dnL k.s (rfZ k.s rf) k.a bound other (k.s.size + 1) k.n (nextZ k.s k.a) = dnZ k rf bound other) := ⟨rfl⟩
  generalize dnZ k rf bound other = z at hZ ⊢
  clear hT hR hv
  go_enter Tryd.func34, Tryd.ntmps34
  go_upto_region 2 with (fail)
  go_cut [11] (fun v11 wc => v11 = .int .i64 (nextZ k.s k.a) ∧ Aside0 (Below w.heap.size w wc))
  case first =>
    go_region_with (go_at_call 68; refine HN.out.mono ?_; rintro e w1 ⟨rfl, hb1⟩)
    all_goals (go_wp2; go_meet)
    all_goals exact ⟨rfl, ⟨HD.out.trans (hb1.mono HD.out.size)⟩⟩
  case rest =>
    obtain ⟨rfl, HB0⟩ := hcut
    have hr0 := next_range k.s k.a
    have hcr := HR.out.below HB0.out
    obtain ⟨i0, i1, i2, i3, i4, i5⟩ := hcr.cells
    clear hcr
    go_wp2
    go_loopw [10, 11] (fun vn va wr => ∃ (n a' : Int) (f : Nat), vn = .int .i64 n ∧ va = .int .i64 a' ∧ 1 ≤ n ∧ n ≤ 999 ∧ 0 ≤ a' ∧ a' ≤ (k.s.size : Int) ∧ (k.s.size : Int) + 1 ≤ a' + (f : Int) ∧ Aside0 (Below w.heap.size w wr) ∧ Aside0 (dnL k.s (rfZ k.s rf) k.a bound other f n a' = z)) (fun _ va _ => k.s.size - (RowKit.intOf va).toNat)
    case atStart => exact ⟨k.n, nextZ k.s k.a, k.s.size + 1, rfl, rfl, hn.1, hn.2, hr0.1, hr0.2.1, by omega, HB0, hZ⟩
    case round =>
      obtain ⟨n, a', f, rfl, rfl, hn1, hn2, ha1, ha2, hf, HB, HE⟩ := hrel
      have HRW := HR.out.below HB.out
      have HTW := HT.out.below HB.out (Nat.le_refl _)
      obtain ⟨h0, h1, h2, h3, h4, h5⟩ := HRW.cells
      have hnr := next_range k.s a'
      have hwn : wrap64 (n - 1) = n - 1 := wrapZ _ (by omega) (by omega)
      cases f with
      | zero => omega
      | succ f =>
        have HE2 := HE.out
        simp only [dnL] at HE2
        clear HE
        by_cases c1 : a' > k.a
        · have b1 : decide (k.a < a') = true := decide_eq_true c1
          rw [if_pos c1] at HE2
          by_cases c2 : a' < bound
          · have b2 : decide (a' < bound) = true := decide_eq_true c2
            rw [if_pos c2] at HE2
            have hlt := hnr.2.2 ha1 (by omega)
            cases rf with
            | beg =>
              have hv2 : v = _ := HV.out
              subst hv2
              have CALL := begins_w R k a' wr hs HRW HTW
              have HC : Aside0 (Calls Tryd.prog 73 #[.pointer (some ⟨R, 0, none⟩), .int .i64 a'] wr fun e w' => e = .returned (.bool (rfZ k.s (.beg) a')) ∧ Below wr.heap.size wr w') := ⟨CALL⟩
              clear CALL
              generalize rfZ k.s (.beg) a' = b at HC HE2
              cases b
              · simp only [Bool.false_eq_true, if_false] at HE2
                rw [if_neg (by omega)] at HE2
                have HZ := Aside0.mk HE2
                clear HE2
                have nb : (n == 0) = false := beq_eq_false_iff_ne.mpr (by omega)
                go_wp2_with (first | (go_at_call 73; refine HC.out.mono ?_; rintro e w2 ⟨rfl, hb2⟩; have hr2 := HRW.below hb2; obtain ⟨g0, g1, g2, g3, g4, g5⟩ := hr2.cells) | (go_at_call 68; refine (Next_w k.s hs a' w2 (HTW.below hb2 (Nat.le_refl _))).mono ?_; rintro e w3 ⟨rfl, hb3⟩))
                go_roundw
                case rel => exact ⟨n, (nextZ k.s a'), f, rfl, rfl, hn1, hn2, by omega, by omega, by omega, ⟨HB.out.trans ((hb2.trans (hb3.mono hb2.size)).mono HB.out.size)⟩, HZ⟩
                case measure => simp [RowKit.intOf]; omega
              · simp only [if_true] at HE2
                by_cases c3 : n - 1 = 0
                · rw [if_pos c3] at HE2
                  have HZ := Aside0.mk HE2
                  have nb : (n - 1 == 0) = true := beq_iff_eq.mpr c3
                  clear HE2 c3
                  go_wp2_with (first | (go_at_call 73; refine HC.out.mono ?_; rintro e w2 ⟨rfl, hb2⟩; have hr2 := HRW.below hb2; obtain ⟨g0, g1, g2, g3, g4, g5⟩ := hr2.cells))
                  go_ret2
                  exact ⟨by have e := HZ.out; subst e; rfl, HB.out.trans (hb2.mono HB.out.size)⟩
                · rw [if_neg c3] at HE2
                  have HZ := Aside0.mk HE2
                  have nb : (n - 1 == 0) = false := beq_eq_false_iff_ne.mpr c3
                  clear HE2
                  go_wp2_with (first | (go_at_call 73; refine HC.out.mono ?_; rintro e w2 ⟨rfl, hb2⟩; have hr2 := HRW.below hb2; obtain ⟨g0, g1, g2, g3, g4, g5⟩ := hr2.cells) | (go_at_call 68; refine (Next_w k.s hs a' w2 (HTW.below hb2 (Nat.le_refl _))).mono ?_; rintro e w3 ⟨rfl, hb3⟩))
                  go_roundw
                  case rel => exact ⟨n - 1, (nextZ k.s a'), f, by first | rfl | (simp [*]; done), rfl, by omega, by omega, by omega, by omega, by omega, ⟨HB.out.trans ((hb2.trans (hb3.mono hb2.size)).mono HB.out.size)⟩, HZ⟩
                  case measure => simp [RowKit.intOf]; omega
            | fin =>
              have hv2 : v = _ := HV.out
              subst hv2
              have CALL := ends_w R k a' wr hs HRW HTW
              have HC : Aside0 (Calls Tryd.prog 36 #[.pointer (some ⟨R, 0, none⟩), .int .i64 a'] wr fun e w' => e = .returned (.bool (rfZ k.s (.fin) a')) ∧ Below wr.heap.size wr w') := ⟨CALL⟩
              clear CALL
              generalize rfZ k.s (.fin) a' = b at HC HE2
              cases b
              · simp only [Bool.false_eq_true, if_false] at HE2
                rw [if_neg (by omega)] at HE2
                have HZ := Aside0.mk HE2
                clear HE2
                have nb : (n == 0) = false := beq_eq_false_iff_ne.mpr (by omega)
                go_wp2_with (first | (go_at_call 36; refine HC.out.mono ?_; rintro e w2 ⟨rfl, hb2⟩; have hr2 := HRW.below hb2; obtain ⟨g0, g1, g2, g3, g4, g5⟩ := hr2.cells) | (go_at_call 68; refine (Next_w k.s hs a' w2 (HTW.below hb2 (Nat.le_refl _))).mono ?_; rintro e w3 ⟨rfl, hb3⟩))
                go_roundw
                case rel => exact ⟨n, (nextZ k.s a'), f, rfl, rfl, hn1, hn2, by omega, by omega, by omega, ⟨HB.out.trans ((hb2.trans (hb3.mono hb2.size)).mono HB.out.size)⟩, HZ⟩
                case measure => simp [RowKit.intOf]; omega
              · simp only [if_true] at HE2
                by_cases c3 : n - 1 = 0
                · rw [if_pos c3] at HE2
                  have HZ := Aside0.mk HE2
                  have nb : (n - 1 == 0) = true := beq_iff_eq.mpr c3
                  clear HE2 c3
                  go_wp2_with (first | (go_at_call 36; refine HC.out.mono ?_; rintro e w2 ⟨rfl, hb2⟩; have hr2 := HRW.below hb2; obtain ⟨g0, g1, g2, g3, g4, g5⟩ := hr2.cells))
                  go_ret2
                  exact ⟨by have e := HZ.out; subst e; rfl, HB.out.trans (hb2.mono HB.out.size)⟩
                · rw [if_neg c3] at HE2
                  have HZ := Aside0.mk HE2
                  have nb : (n - 1 == 0) = false := beq_eq_false_iff_ne.mpr c3
                  clear HE2
                  go_wp2_with (first | (go_at_call 36; refine HC.out.mono ?_; rintro e w2 ⟨rfl, hb2⟩; have hr2 := HRW.below hb2; obtain ⟨g0, g1, g2, g3, g4, g5⟩ := hr2.cells) | (go_at_call 68; refine (Next_w k.s hs a' w2 (HTW.below hb2 (Nat.le_refl _))).mono ?_; rintro e w3 ⟨rfl, hb3⟩))
                  go_roundw
                  case rel => exact ⟨n - 1, (nextZ k.s a'), f, by first | rfl | (simp [*]; done), rfl, by omega, by omega, by omega, by omega, by omega, ⟨HB.out.trans ((hb2.trans (hb3.mono hb2.size)).mono HB.out.size)⟩, HZ⟩
                  case measure => simp [RowKit.intOf]; omega
            | any =>
              have hv2 : v = _ := HV.out
              subst hv2
              have CALL := any_w a' wr
              have HC : Aside0 (Calls Tryd.prog 72 #[.int .i64 a'] wr fun e w' => e = .returned (.bool (rfZ k.s (.any) a')) ∧ Below wr.heap.size wr w') := ⟨CALL⟩
              clear CALL
              generalize rfZ k.s (.any) a' = b at HC HE2
              cases b
              · simp only [Bool.false_eq_true, if_false] at HE2
                rw [if_neg (by omega)] at HE2
                have HZ := Aside0.mk HE2
                clear HE2
                have nb : (n == 0) = false := beq_eq_false_iff_ne.mpr (by omega)
                go_wp2_with (first | (go_at_call 72; refine HC.out.mono ?_; rintro e w2 ⟨rfl, hb2⟩; have hr2 := HRW.below hb2; obtain ⟨g0, g1, g2, g3, g4, g5⟩ := hr2.cells) | (go_at_call 68; refine (Next_w k.s hs a' w2 (HTW.below hb2 (Nat.le_refl _))).mono ?_; rintro e w3 ⟨rfl, hb3⟩))
                go_roundw
                case rel => exact ⟨n, (nextZ k.s a'), f, rfl, rfl, hn1, hn2, by omega, by omega, by omega, ⟨HB.out.trans ((hb2.trans (hb3.mono hb2.size)).mono HB.out.size)⟩, HZ⟩
                case measure => simp [RowKit.intOf]; omega
              · simp only [if_true] at HE2
                by_cases c3 : n - 1 = 0
                · rw [if_pos c3] at HE2
                  have HZ := Aside0.mk HE2
                  have nb : (n - 1 == 0) = true := beq_iff_eq.mpr c3
                  clear HE2 c3
                  go_wp2_with (first | (go_at_call 72; refine HC.out.mono ?_; rintro e w2 ⟨rfl, hb2⟩; have hr2 := HRW.below hb2; obtain ⟨g0, g1, g2, g3, g4, g5⟩ := hr2.cells))
                  go_ret2
                  exact ⟨by have e := HZ.out; subst e; rfl, HB.out.trans (hb2.mono HB.out.size)⟩
                · rw [if_neg c3] at HE2
                  have HZ := Aside0.mk HE2
                  have nb : (n - 1 == 0) = false := beq_eq_false_iff_ne.mpr c3
                  clear HE2
                  go_wp2_with (first | (go_at_call 72; refine HC.out.mono ?_; rintro e w2 ⟨rfl, hb2⟩; have hr2 := HRW.below hb2; obtain ⟨g0, g1, g2, g3, g4, g5⟩ := hr2.cells) | (go_at_call 68; refine (Next_w k.s hs a' w2 (HTW.below hb2 (Nat.le_refl _))).mono ?_; rintro e w3 ⟨rfl, hb3⟩))
                  go_roundw
                  case rel => exact ⟨n - 1, (nextZ k.s a'), f, by first | rfl | (simp [*]; done), rfl, by omega, by omega, by omega, by omega, by omega, ⟨HB.out.trans ((hb2.trans (hb3.mono hb2.size)).mono HB.out.size)⟩, HZ⟩
                  case measure => simp [RowKit.intOf]; omega
            | is g =>
              obtain ⟨b2, b3, hv2, hc2, hc3⟩ := HV.out.below HB.out
              subst hv2
              have CALL := is_w R b2 b3 k g a' wr hs HRW HTW hc2 hc3
              have HC : Aside0 (Calls Tryd.prog 70 #[.int .i64 a', .pointer (some ⟨b2, 0, none⟩), .pointer (some ⟨b3, 0, none⟩)] wr fun e w' => e = .returned (.bool (rfZ k.s (.is g) a')) ∧ Below wr.heap.size wr w') := ⟨CALL⟩
              clear CALL
              generalize rfZ k.s (.is g) a' = b at HC HE2
              cases b
              · simp only [Bool.false_eq_true, if_false] at HE2
                rw [if_neg (by omega)] at HE2
                have HZ := Aside0.mk HE2
                clear HE2
                have nb : (n == 0) = false := beq_eq_false_iff_ne.mpr (by omega)
                go_wp2_with (first | (go_at_call 70; refine HC.out.mono ?_; rintro e w2 ⟨rfl, hb2⟩; have hr2 := HRW.below hb2; obtain ⟨g0, g1, g2, g3, g4, g5⟩ := hr2.cells) | (go_at_call 68; refine (Next_w k.s hs a' w2 (HTW.below hb2 (Nat.le_refl _))).mono ?_; rintro e w3 ⟨rfl, hb3⟩))
                go_roundw
                case rel => exact ⟨n, (nextZ k.s a'), f, rfl, rfl, hn1, hn2, by omega, by omega, by omega, ⟨HB.out.trans ((hb2.trans (hb3.mono hb2.size)).mono HB.out.size)⟩, HZ⟩
                case measure => simp [RowKit.intOf]; omega
              · simp only [if_true] at HE2
                by_cases c3 : n - 1 = 0
                · rw [if_pos c3] at HE2
                  have HZ := Aside0.mk HE2
                  have nb : (n - 1 == 0) = true := beq_iff_eq.mpr c3
                  clear HE2 c3
                  go_wp2_with (first | (go_at_call 70; refine HC.out.mono ?_; rintro e w2 ⟨rfl, hb2⟩; have hr2 := HRW.below hb2; obtain ⟨g0, g1, g2, g3, g4, g5⟩ := hr2.cells))
                  go_ret2
                  exact ⟨by have e := HZ.out; subst e; rfl, HB.out.trans (hb2.mono HB.out.size)⟩
                · rw [if_neg c3] at HE2
                  have HZ := Aside0.mk HE2
                  have nb : (n - 1 == 0) = false := beq_eq_false_iff_ne.mpr c3
                  clear HE2
                  go_wp2_with (first | (go_at_call 70; refine HC.out.mono ?_; rintro e w2 ⟨rfl, hb2⟩; have hr2 := HRW.below hb2; obtain ⟨g0, g1, g2, g3, g4, g5⟩ := hr2.cells) | (go_at_call 68; refine (Next_w k.s hs a' w2 (HTW.below hb2 (Nat.le_refl _))).mono ?_; rintro e w3 ⟨rfl, hb3⟩))
                  go_roundw
                  case rel => exact ⟨n - 1, (nextZ k.s a'), f, by first | rfl | (simp [*]; done), rfl, by omega, by omega, by omega, by omega, by omega, ⟨HB.out.trans ((hb2.trans (hb3.mono hb2.size)).mono HB.out.size)⟩, HZ⟩
                  case measure => simp [RowKit.intOf]; omega
          · have b2 : decide (a' < bound) = false := decide_eq_false c2
            rw [if_neg c2] at HE2
            have HZ := Aside0.mk HE2
            clear HE2 c2
            go_wp2
            go_ret2
            exact ⟨by have e := HZ.out; subst e; rfl, HB.out⟩
        · have b1 : decide (k.a < a') = false := decide_eq_false c1
          rw [if_neg c1] at HE2
          have HZ := Aside0.mk HE2
          clear HE2 c1
          go_wp2
          go_ret2
          exact ⟨by have e := HZ.out; subst e; rfl, HB.out⟩
def upL (s : ByteArray) (right : Int → Bool) (bound other : Int) : Nat → Int → Int → Int × Bool
  | 0, _, _ => (other, false)
  | f + 1, n, at_ => if at_ > bound then (if (if right (prevZ s at_) = true then n - 1 else n) = 0 then (prevZ s at_, true) else upL s right bound other f (if right (prevZ s at_) = true then n - 1 else n) (prevZ s at_)) else (other, false)
def upZ (k : Wk) (rf : Rf) (bound other : Int) : Int × Bool := upL k.s (rfZ k.s rf) bound other (k.s.size + 1) k.n k.a
set_option maxRecDepth 100000 in
set_option maxHeartbeats 8000000 in
theorem up_w (R : Nat) (k : Wk) (bound other : Int) (rf : Rf) (v : Value) (w : World) (hs : k.s.size < 1000000) (hR : WRow w R k) (hT : Tabs w) (hv : RfV w R v rf) (hb : 0 ≤ bound) (hn : 1 ≤ k.n ∧ k.n ≤ 999) (ha : 0 ≤ k.a ∧ k.a ≤ (k.s.size : Int)) :
    Calls Tryd.prog 71 #[.pointer (some ⟨R, 0, none⟩), .int .i64 bound, .int .i64 other, v] w fun e w' => e = .returned (.tuple #[.int .i64 (upZ k rf bound other).1, .bool (upZ k rf bound other).2]) ∧ Below w.heap.size w w' := by
  obtain ⟨h0, h1, h2, h3, h4, h5⟩ := hR.cells
  have HR := Aside0.mk hR
  have HT := Aside0.mk hT
  have HV := Aside0.mk hv
  have hZ : Aside0 (upL k.s (rfZ k.s rf) bound other (k.s.size + 1) k.n k.a = upZ k rf bound other) := ⟨rfl⟩
  generalize upZ k rf bound other = z at hZ ⊢
  clear hT hR hv
  go_enter Tryd.func71, Tryd.ntmps71
  go_wp2
  go_loopw [10, 11] (fun vn va wr => ∃ (n a' : Int) (f : Nat), vn = .int .i64 n ∧ va = .int .i64 a' ∧ 1 ≤ n ∧ n ≤ 999 ∧ 0 ≤ a' ∧ a' ≤ (k.s.size : Int) ∧ a' + 1 ≤ (f : Int) ∧ Aside0 (Below w.heap.size w wr) ∧ Aside0 (upL k.s (rfZ k.s rf) bound other f n a' = z)) (fun _ va _ => (RowKit.intOf va).toNat)
  case atStart => exact ⟨k.n, k.a, k.s.size + 1, rfl, rfl, hn.1, hn.2, ha.1, ha.2, by omega, ⟨Below.refl _ _⟩, hZ⟩
  case round =>
    obtain ⟨n, a', f, rfl, rfl, hn1, hn2, ha1, ha2, hf, HB, HE⟩ := hrel
    have HRW := HR.out.below HB.out
    have HTW := HT.out.below HB.out (Nat.le_refl _)
    obtain ⟨h0, h1, h2, h3, h4, h5⟩ := HRW.cells
    have hpr := prev_range k.s a'
    have hwn : wrap64 (n - 1) = n - 1 := wrapZ _ (by omega) (by omega)
    have HS := Aside0.mk (Prev_w k.s hs a' wr HTW)
    cases f with
    | zero => omega
    | succ f =>
      have HE2 := HE.out
      simp only [upL] at HE2
      clear HE
      by_cases c1 : a' > bound
      · have b1 : decide (bound < a') = true := decide_eq_true c1
        rw [if_pos c1] at HE2
        have hlt := hpr.2.2 (by omega)
        generalize prevZ k.s a' = p at HS HE2 hpr hlt
        cases rf with
        | beg =>
          have hv2 : v = _ := HV.out
          subst hv2
          have CALL := fun (w0 : World) (hb0 : Below wr.heap.size wr w0) => begins_w R k p w0 hs (HRW.below hb0) (HTW.below hb0 (Nat.le_refl _))
          have HC : Aside0 (∀ (w0 : World) (hb0 : Below wr.heap.size wr w0), Calls Tryd.prog 73 #[.pointer (some ⟨R, 0, none⟩), .int .i64 p] w0 fun e w' => e = .returned (.bool (rfZ k.s (.beg) p)) ∧ Below w0.heap.size w0 w') := ⟨CALL⟩
          clear CALL
          generalize rfZ k.s (.beg) p = b at HC HE2
          cases b
          · simp only [Bool.false_eq_true, if_false] at HE2
            rw [if_neg (by omega)] at HE2
            have HZ := Aside0.mk HE2
            clear HE2
            have nb : (n == 0) = false := beq_eq_false_iff_ne.mpr (by omega)
            go_wp2_with (first | (go_at_call 35; refine HS.out.mono ?_; rintro e w1 ⟨rfl, hb1⟩) | (go_at_call 73; refine (HC.out w1 hb1).mono ?_; rintro e w2 ⟨rfl, hb2⟩))
            go_roundw
            case rel => exact ⟨n, p, f, rfl, rfl, hn1, hn2, by omega, by omega, by omega, ⟨HB.out.trans ((hb1.trans (hb2.mono hb1.size)).mono HB.out.size)⟩, HZ⟩
            case measure => simp [RowKit.intOf]; omega
          · simp only [if_true] at HE2
            by_cases c3 : n - 1 = 0
            · rw [if_pos c3] at HE2
              have HZ := Aside0.mk HE2
              have nb : (n - 1 == 0) = true := beq_iff_eq.mpr c3
              clear HE2 c3
              go_wp2_with (first | (go_at_call 35; refine HS.out.mono ?_; rintro e w1 ⟨rfl, hb1⟩) | (go_at_call 73; refine (HC.out w1 hb1).mono ?_; rintro e w2 ⟨rfl, hb2⟩))
              go_ret2
              exact ⟨by have e := HZ.out; subst e; rfl, HB.out.trans ((hb1.trans (hb2.mono hb1.size)).mono HB.out.size)⟩
            · rw [if_neg c3] at HE2
              have HZ := Aside0.mk HE2
              have nb : (n - 1 == 0) = false := beq_eq_false_iff_ne.mpr c3
              clear HE2
              go_wp2_with (first | (go_at_call 35; refine HS.out.mono ?_; rintro e w1 ⟨rfl, hb1⟩) | (go_at_call 73; refine (HC.out w1 hb1).mono ?_; rintro e w2 ⟨rfl, hb2⟩))
              go_roundw
              case rel => exact ⟨n - 1, p, f, by first | rfl | (simp [*]; done), rfl, by omega, by omega, by omega, by omega, by omega, ⟨HB.out.trans ((hb1.trans (hb2.mono hb1.size)).mono HB.out.size)⟩, HZ⟩
              case measure => simp [RowKit.intOf]; omega
        | fin =>
          have hv2 : v = _ := HV.out
          subst hv2
          have CALL := fun (w0 : World) (hb0 : Below wr.heap.size wr w0) => ends_w R k p w0 hs (HRW.below hb0) (HTW.below hb0 (Nat.le_refl _))
          have HC : Aside0 (∀ (w0 : World) (hb0 : Below wr.heap.size wr w0), Calls Tryd.prog 36 #[.pointer (some ⟨R, 0, none⟩), .int .i64 p] w0 fun e w' => e = .returned (.bool (rfZ k.s (.fin) p)) ∧ Below w0.heap.size w0 w') := ⟨CALL⟩
          clear CALL
          generalize rfZ k.s (.fin) p = b at HC HE2
          cases b
          · simp only [Bool.false_eq_true, if_false] at HE2
            rw [if_neg (by omega)] at HE2
            have HZ := Aside0.mk HE2
            clear HE2
            have nb : (n == 0) = false := beq_eq_false_iff_ne.mpr (by omega)
            go_wp2_with (first | (go_at_call 35; refine HS.out.mono ?_; rintro e w1 ⟨rfl, hb1⟩) | (go_at_call 36; refine (HC.out w1 hb1).mono ?_; rintro e w2 ⟨rfl, hb2⟩))
            go_roundw
            case rel => exact ⟨n, p, f, rfl, rfl, hn1, hn2, by omega, by omega, by omega, ⟨HB.out.trans ((hb1.trans (hb2.mono hb1.size)).mono HB.out.size)⟩, HZ⟩
            case measure => simp [RowKit.intOf]; omega
          · simp only [if_true] at HE2
            by_cases c3 : n - 1 = 0
            · rw [if_pos c3] at HE2
              have HZ := Aside0.mk HE2
              have nb : (n - 1 == 0) = true := beq_iff_eq.mpr c3
              clear HE2 c3
              go_wp2_with (first | (go_at_call 35; refine HS.out.mono ?_; rintro e w1 ⟨rfl, hb1⟩) | (go_at_call 36; refine (HC.out w1 hb1).mono ?_; rintro e w2 ⟨rfl, hb2⟩))
              go_ret2
              exact ⟨by have e := HZ.out; subst e; rfl, HB.out.trans ((hb1.trans (hb2.mono hb1.size)).mono HB.out.size)⟩
            · rw [if_neg c3] at HE2
              have HZ := Aside0.mk HE2
              have nb : (n - 1 == 0) = false := beq_eq_false_iff_ne.mpr c3
              clear HE2
              go_wp2_with (first | (go_at_call 35; refine HS.out.mono ?_; rintro e w1 ⟨rfl, hb1⟩) | (go_at_call 36; refine (HC.out w1 hb1).mono ?_; rintro e w2 ⟨rfl, hb2⟩))
              go_roundw
              case rel => exact ⟨n - 1, p, f, by first | rfl | (simp [*]; done), rfl, by omega, by omega, by omega, by omega, by omega, ⟨HB.out.trans ((hb1.trans (hb2.mono hb1.size)).mono HB.out.size)⟩, HZ⟩
              case measure => simp [RowKit.intOf]; omega
        | any =>
          have hv2 : v = _ := HV.out
          subst hv2
          have CALL := fun (w0 : World) (hb0 : Below wr.heap.size wr w0) => any_w p w0
          have HC : Aside0 (∀ (w0 : World) (hb0 : Below wr.heap.size wr w0), Calls Tryd.prog 72 #[.int .i64 p] w0 fun e w' => e = .returned (.bool (rfZ k.s (.any) p)) ∧ Below w0.heap.size w0 w') := ⟨CALL⟩
          clear CALL
          generalize rfZ k.s (.any) p = b at HC HE2
          cases b
          · simp only [Bool.false_eq_true, if_false] at HE2
            rw [if_neg (by omega)] at HE2
            have HZ := Aside0.mk HE2
            clear HE2
            have nb : (n == 0) = false := beq_eq_false_iff_ne.mpr (by omega)
            go_wp2_with (first | (go_at_call 35; refine HS.out.mono ?_; rintro e w1 ⟨rfl, hb1⟩) | (go_at_call 72; refine (HC.out w1 hb1).mono ?_; rintro e w2 ⟨rfl, hb2⟩))
            go_roundw
            case rel => exact ⟨n, p, f, rfl, rfl, hn1, hn2, by omega, by omega, by omega, ⟨HB.out.trans ((hb1.trans (hb2.mono hb1.size)).mono HB.out.size)⟩, HZ⟩
            case measure => simp [RowKit.intOf]; omega
          · simp only [if_true] at HE2
            by_cases c3 : n - 1 = 0
            · rw [if_pos c3] at HE2
              have HZ := Aside0.mk HE2
              have nb : (n - 1 == 0) = true := beq_iff_eq.mpr c3
              clear HE2 c3
              go_wp2_with (first | (go_at_call 35; refine HS.out.mono ?_; rintro e w1 ⟨rfl, hb1⟩) | (go_at_call 72; refine (HC.out w1 hb1).mono ?_; rintro e w2 ⟨rfl, hb2⟩))
              go_ret2
              exact ⟨by have e := HZ.out; subst e; rfl, HB.out.trans ((hb1.trans (hb2.mono hb1.size)).mono HB.out.size)⟩
            · rw [if_neg c3] at HE2
              have HZ := Aside0.mk HE2
              have nb : (n - 1 == 0) = false := beq_eq_false_iff_ne.mpr c3
              clear HE2
              go_wp2_with (first | (go_at_call 35; refine HS.out.mono ?_; rintro e w1 ⟨rfl, hb1⟩) | (go_at_call 72; refine (HC.out w1 hb1).mono ?_; rintro e w2 ⟨rfl, hb2⟩))
              go_roundw
              case rel => exact ⟨n - 1, p, f, by first | rfl | (simp [*]; done), rfl, by omega, by omega, by omega, by omega, by omega, ⟨HB.out.trans ((hb1.trans (hb2.mono hb1.size)).mono HB.out.size)⟩, HZ⟩
              case measure => simp [RowKit.intOf]; omega
        | is g =>
          obtain ⟨b2, b3, hv2, hc2, hc3⟩ := HV.out.below HB.out
          subst hv2
          have CALL := fun (w0 : World) (hb0 : Below wr.heap.size wr w0) => is_w R b2 b3 k g p w0 hs (HRW.below hb0) (HTW.below hb0 (Nat.le_refl _)) ((hb0.cell (World.block_lt_of_cell? wr _ hc2)).trans hc2) ((hb0.cell (World.block_lt_of_cell? wr _ hc3)).trans hc3)
          have HC : Aside0 (∀ (w0 : World) (hb0 : Below wr.heap.size wr w0), Calls Tryd.prog 70 #[.int .i64 p, .pointer (some ⟨b2, 0, none⟩), .pointer (some ⟨b3, 0, none⟩)] w0 fun e w' => e = .returned (.bool (rfZ k.s (.is g) p)) ∧ Below w0.heap.size w0 w') := ⟨CALL⟩
          clear CALL
          generalize rfZ k.s (.is g) p = b at HC HE2
          cases b
          · simp only [Bool.false_eq_true, if_false] at HE2
            rw [if_neg (by omega)] at HE2
            have HZ := Aside0.mk HE2
            clear HE2
            have nb : (n == 0) = false := beq_eq_false_iff_ne.mpr (by omega)
            go_wp2_with (first | (go_at_call 35; refine HS.out.mono ?_; rintro e w1 ⟨rfl, hb1⟩) | (go_at_call 70; refine (HC.out w1 hb1).mono ?_; rintro e w2 ⟨rfl, hb2⟩))
            go_roundw
            case rel => exact ⟨n, p, f, rfl, rfl, hn1, hn2, by omega, by omega, by omega, ⟨HB.out.trans ((hb1.trans (hb2.mono hb1.size)).mono HB.out.size)⟩, HZ⟩
            case measure => simp [RowKit.intOf]; omega
          · simp only [if_true] at HE2
            by_cases c3 : n - 1 = 0
            · rw [if_pos c3] at HE2
              have HZ := Aside0.mk HE2
              have nb : (n - 1 == 0) = true := beq_iff_eq.mpr c3
              clear HE2 c3
              go_wp2_with (first | (go_at_call 35; refine HS.out.mono ?_; rintro e w1 ⟨rfl, hb1⟩) | (go_at_call 70; refine (HC.out w1 hb1).mono ?_; rintro e w2 ⟨rfl, hb2⟩))
              go_ret2
              exact ⟨by have e := HZ.out; subst e; rfl, HB.out.trans ((hb1.trans (hb2.mono hb1.size)).mono HB.out.size)⟩
            · rw [if_neg c3] at HE2
              have HZ := Aside0.mk HE2
              have nb : (n - 1 == 0) = false := beq_eq_false_iff_ne.mpr c3
              clear HE2
              go_wp2_with (first | (go_at_call 35; refine HS.out.mono ?_; rintro e w1 ⟨rfl, hb1⟩) | (go_at_call 70; refine (HC.out w1 hb1).mono ?_; rintro e w2 ⟨rfl, hb2⟩))
              go_roundw
              case rel => exact ⟨n - 1, p, f, by first | rfl | (simp [*]; done), rfl, by omega, by omega, by omega, by omega, by omega, ⟨HB.out.trans ((hb1.trans (hb2.mono hb1.size)).mono HB.out.size)⟩, HZ⟩
              case measure => simp [RowKit.intOf]; omega
      · have b1 : decide (bound < a') = false := decide_eq_false c1
        rw [if_neg c1] at HE2
        have HZ := Aside0.mk HE2
        clear HE2 c1
        go_wp2
        go_ret2
        exact ⟨by have e := HZ.out; subst e; rfl, HB.out⟩

end Go.Proofs.YtpajakfmahfpkaaDoor.Ext
