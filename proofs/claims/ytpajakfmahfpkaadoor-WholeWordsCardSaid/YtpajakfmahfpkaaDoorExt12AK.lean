/- glyph's functions that 'move' calls, in plain words. -/
import Derived.Test.YtpajakfmahfpkaaDoorExt06K
import Derived.Test.YtpajakfmahfpkaaDoorHelpA
import Derived.Test.YtpajakfmahfpkaaDoorHelpC
import Derived.Test.YtpajakfmahfpkaaDoorWMore
import Derived.WalkKit
import Derived.WalkMore
import Derived.Below
import Derived.KernelRfl
import Derived.LoopTactic
import Derived.Deep.RegionWith
import Derived.Deep.RegionHeld3
import Derived.IntWalk
import Derived.Deep.DeepCutAuto
import Derived.Deep.CutBlock
import Derived.BigQuiet
import Derived.Laws.RangeString
import Derived.Laws.RangeAny
import Derived.Laws.Rows
import Derived.Laws.Runes
import Derived.Lib.OthersKept
import Derived.OpenShut
set_option linter.unusedVariables false
set_option linter.unusedSimpArgs false
namespace Go.Proofs.YtpajakfmahfpkaaDoor.Ext
open Go.RowKit Go.Lib Go.Proofs.YtpajakfmahfpkaaDoorW.PrintWords Go.Proofs.YtpajakfmahfpkaaDoorW.PrintMore

def runeZ (s : ByteArray) (a : Int) : Int := if alignZ s a = s.size then 0 else (((Utf8.decode s (alignZ s a)).1 : Nat) : Int)
def widZ (s : ByteArray) (a : Int) : Int := if alignZ s a = s.size then 0 else (((Utf8.decode s (alignZ s a)).2 : Nat) : Int)
def prevZ (s : ByteArray) (a : Int) : Int := ((alignZ s (((alignZ s a : Nat) : Int) - 1) : Nat) : Int)
def nextZ (s : ByteArray) (a : Int) : Int := ((alignZ s a : Nat) : Int) + widZ s a
theorem Align_w (s : ByteArray) (hs : s.size < 1000000) (a : Int) (w : World) (hT : Tabs w) :
    Calls Tryd.prog 30 #[.string s, .int .i64 a] w fun e w' => e = .returned (.int .i64 ((alignZ s a : Nat) : Int)) ∧ Below w.heap.size w w' :=
  HelpA.glyph_Align.calls (0 + 10) s a _ w (alignP_eq s hs a 0) hT
theorem Class_w (r : Int) (w : World) (hT : Tabs w) :
    Calls Tryd.prog 54 #[.int .i32 r] w fun e w' => e = .returned (.int .i64 (classZ r)) ∧ Below w.heap.size w w' :=
  (HelpC.glyph_Class.calls (0 + 4) r _ w (class_eq 0 r) hT).mono fun e w' h => ⟨h.1, by obtain ⟨n, rfl⟩ := h.2; exact pw_below_drewN (Below.refl _ _) n⟩
set_option maxRecDepth 100000 in
set_option maxHeartbeats 2000000 in
theorem At_w (s : ByteArray) (hs : s.size < 1000000) (a : Int) (w : World) (hT : Tabs w) :
    Calls Tryd.prog 53 #[.string s, .int .i64 a] w fun e w' => e = .returned (.tuple #[.int .i32 (runeZ s a), .int .i64 (widZ s a)]) ∧ Below w.heap.size w w' := by
  have HA := Aside0.mk (Align_w s hs a w hT)
  have HT := Aside0.mk hT
  have hle := alignZ_le s a
  clear hT
  by_cases c : alignZ s a = s.size
  · have E1 : runeZ s a = 0 := by unfold runeZ; rw [if_pos c]
    have E2 : widZ s a = 0 := by unfold widZ; rw [if_pos c]
    rw [E1, E2]
    rw [c] at HA
    clear E1 E2 c hle
    go_enter Tryd.func53, Tryd.ntmps53
    go_wp2_with (go_at_call 30; refine HA.out.mono ?_; rintro e w1 ⟨rfl, hb1⟩)
    go_ret2
    exact ⟨rfl, hb1⟩
  · have E1 : runeZ s a = (((Utf8.decode s (alignZ s a)).1 : Nat) : Int) := by unfold runeZ; rw [if_neg c]
    have E2 : widZ s a = (((Utf8.decode s (alignZ s a)).2 : Nat) : Int) := by unfold widZ; rw [if_neg c]
    rw [E1, E2]
    clear E1 E2
    generalize alignZ s a = m at HA hle c
    have hd := Aside0.mk (suffix_dec s m (by omega))
    have cb : ((m : Int) == (s.size : Int)) = false := beq_eq_false_iff_ne.mpr (by omega)
    have p1 : (0 ≤ (m : Int)) = True := eq_true (by omega)
    have p2 : ((m : Int) ≤ (s.size : Int)) = True := eq_true (by omega)
    clear c
    go_enter Tryd.func53, Tryd.ntmps53
    go_wp2_with (first
      | (go_at_call 30; refine HA.out.mono ?_; rintro e w1 ⟨rfl, hb1⟩)
      | (go_at_call 65; refine (utf8_DecodeRuneInString.calls _ _ _ _ hd.out (HT.out.below hb1 (Nat.le_refl _))).mono ?_; rintro e w2 ⟨rfl, hb2⟩))
    go_ret2
    exact ⟨rfl, hb1.trans (hb2.mono hb1.size)⟩
set_option maxRecDepth 100000 in
set_option maxHeartbeats 2000000 in
theorem Next_w (s : ByteArray) (hs : s.size < 1000000) (a : Int) (w : World) (hT : Tabs w) :
    Calls Tryd.prog 68 #[.string s, .int .i64 a] w fun e w' => e = .returned (.int .i64 (nextZ s a)) ∧ Below w.heap.size w w' := by
  have HA := Aside0.mk (At_w s hs a w hT)
  have HT := Aside0.mk hT
  have hle := alignZ_le s a
  have hw : 0 ≤ widZ s a ∧ widZ s a ≤ 4 := by
    unfold widZ
    split
    · omega
    · have := width_le4 s (alignZ s a)
      omega
  have E : nextZ s a = ((alignZ s a : Nat) : Int) + widZ s a := rfl
  have EW := Aside0.mk (show wrap64 (((alignZ s a : Nat) : Int) + widZ s a) = nextZ s a by rw [E, wrapZ _ (by omega) (by omega)])
  clear hT hle hw E
  go_enter Tryd.func68, Tryd.ntmps68
  go_wp2_with (first
    | (go_at_call 53; refine HA.out.mono ?_; rintro e w1 ⟨rfl, hb1⟩)
    | (go_at_call 30; refine (Align_w s hs a w1 (HT.out.below hb1 (Nat.le_refl _))).mono ?_; rintro e w2 ⟨rfl, hb2⟩))
  go_ret
  exact ⟨by rw [← EW.out]; first | rfl | simp, hb1.trans (hb2.mono hb1.size)⟩
set_option maxRecDepth 100000 in
set_option maxHeartbeats 2000000 in
theorem Prev_w (s : ByteArray) (hs : s.size < 1000000) (a : Int) (w : World) (hT : Tabs w) :
    Calls Tryd.prog 35 #[.string s, .int .i64 a] w fun e w' => e = .returned (.int .i64 (prevZ s a)) ∧ Below w.heap.size w w' := by
  have HA := Aside0.mk (Align_w s hs a w hT)
  have HT := Aside0.mk hT
  have hle := alignZ_le s a
  have EW : wrap64 (((alignZ s a : Nat) : Int) - 1) = ((alignZ s a : Nat) : Int) - 1 := wrapZ _ (by omega) (by omega)
  have E : prevZ s a = ((alignZ s (((alignZ s a : Nat) : Int) - 1) : Nat) : Int) := rfl
  rw [E]
  generalize alignZ s a = m at HA EW
  clear hT hle E
  go_enter Tryd.func35, Tryd.ntmps35
  go_wp2_with (go_at_call 30; first | (with_reducible refine HA.out.mono ?_; rintro e w1 ⟨rfl, hb1⟩) | (refine (Align_w s hs _ w1 (HT.out.below hb1 (Nat.le_refl _))).mono ?_; rintro e w2 ⟨rfl, hb2⟩))
  go_ret
  exact ⟨by first | rfl | (simp [*]; done), hb1.trans (hb2.mono hb1.size)⟩

end Go.Proofs.YtpajakfmahfpkaaDoor.Ext
