/- regs: registers that nobody made, by the walks. -/
import Derived.Test.YtbcbfmhcoemnpaaExt09I
import Derived.Test.YtbcbfmhcoemnpaaXRRx2
import Derived.Test.YtbcbfmhcoemnpaaXRRx3
import Derived.Test.YtbcbfmhcoemnpaaXRRx4
import Derived.Test.YtbcbfmhcoemnpaaXRRx0
import Derived.Test.YtbcbfmhcoemnpaaWMore
import Derived.WalkKit
import Derived.WalkMore
import Derived.Below
import Derived.KernelRfl
import Derived.LoopTactic
import Derived.Deep.RegionWith
import Derived.Deep.RegionHeld3
import Derived.IntWalk
import Derived.Deep.DeepCutAuto
import Derived.Deep.CutBlock
import Derived.BigQuiet
import Derived.Laws.RangeString
import Derived.Laws.RangeAny
import Derived.Laws.Rows
import Derived.Laws.Runes
import Derived.Lib.OthersKept
import Derived.OpenShut
set_option linter.unusedVariables false
set_option linter.unusedSimpArgs false
namespace Go.Proofs.Ytbcbfmhcoemnpaa.Ext
open Go.RowKit Go.Lib Go.Proofs.YtbcbfmhcoemnpaaW.PrintWords Go.Proofs.YtbcbfmhcoemnpaaW.PrintMore Go.Proofs.Ytbcbfmhcoemnpaa.XRR

abbrev BadR (w : World) (p : Option Addr) : Prop := ∀ w1, Below w.heap.size w w1 → Calls Try.prog 26 #[.pointer p] w1 fun e w' => e = .returned (.bool false) ∧ w1 = w'
theorem bad_nil (w : World) : BadR w none := fun w1 _ => good_nil w1
theorem bad_zero (w : World) (B : Nat) (cs : Array Value) (hB : w.heap[B]? = some (.cells cs 53 (0, 0))) (h0 : cs[0]? = some (.bool false)) : BadR w (some ⟨B, 0, none⟩) := fun w1 hb => by
  have hB1 := (hb.block B (blk_lt hB)).trans hB
  exact good_zero w1 B ((cell_of_row w1 B 0 _ _ _ hB1).trans h0) (frozen_of_row w1 B 0 _ _ hB1)
theorem BadR.below {w w' : World} {p : Option Addr} (h : BadR w p) (hb : Below w.heap.size w w') : BadR w' p := fun w1 h1 => h w1 (below_step hb h1)
set_option maxRecDepth 100000 in
set_option maxHeartbeats 8000000 in
theorem letter_bad (w : World) (p : Option Addr) (hbad : BadR w p) (s : ByteArray) (A : Option Addr) (m c : Nat) (b : Bool) (n : Int) (h0 : -2147483648 ≤ n) (h1 : n ≤ 2147483647) :
    Calls Try.prog 21 #[.pointer p, .int .i32 n, eV s (.slice A m c) b] w fun e w' => e = .returned (.tuple #[.bool true, .int .i64 1]) ∧ Below w.heap.size w w' := by
  have HPL := Aside0.mk (fun w1 => place_w w1 n h0 h1)
  have HBAD := Aside0.mk hbad
  have HB := Aside0.mk (Below.refl w.heap.size w)
  clear hbad
  go_enter Try.func21, Try.ntmps21
  go_wp2_with (first | (go_at_call 25; (with_reducible refine (HPL.out _).mono ?_); rintro e w2 ⟨rfl, hd2⟩; have HB := Aside0.mk (below_step (by repeat (first | (with_reducible first | exact Below.refl _ _ | exact HB.out | apply pw_below_drewN | apply below_alloc | apply below_drew) | exact Below.refl _ _ | exact HB.out)) (drawn_below hd2) : Below w.heap.size w w2); clear hd2) | (go_at_call 26; (with_reducible refine (HBAD.out _ ?sb).mono ?_); (case sb => exact (by repeat (first | (with_reducible first | exact Below.refl _ _ | exact HB.out | apply pw_below_drewN | apply below_alloc | apply below_drew) | exact Below.refl _ _ | exact HB.out))); rintro e w3 ⟨rfl, rfl⟩))
  exact bodyPost_ret (v := .tuple #[.bool true, .int .i64 1]) (by simp [results, Try.results21, go_sem]) rfl ⟨rfl, HB.out⟩
set_option maxRecDepth 100000 in
set_option maxHeartbeats 8000000 in
theorem Yank_bad (w : World) (p : Option Addr) (hbad : BadR w p) (s : ByteArray) (A : Option Addr) (m c : Nat) (b : Bool) (n : Int) (h0 : -2147483648 ≤ n) (h1 : n ≤ 2147483647) :
    Calls Try.prog 19 #[.pointer p, .int .i32 n, eV s (.slice A m c) b] w fun e w' => e = .returned (.int .i64 1) ∧ Below w.heap.size w w' := by
  have hb := below_alloc (Below.refl w.heap.size w) (.cells #[.string s, .slice A m c, .bool b] 33)
  have HLE := Aside0.mk ((letter_bad _ p (hbad.below hb) s A m c b n h0 h1).mono (fun e w' (h : _ ∧ _) => (⟨h.1, below_step hb h.2⟩ : _ ∧ Below w.heap.size w w')))
  clear hbad hb
  go_enter Try.func19, Try.ntmps19
  go_wp2_with (first | (go_at_call 21; (with_reducible refine HLE.out.mono ?_); rintro e w2 ⟨rfl, hb2⟩; have HB := Aside0.mk hb2; clear hb2))
  go_ret
  exact ⟨rfl, HB.out⟩
set_option maxRecDepth 100000 in
set_option maxHeartbeats 8000000 in
theorem Delete_bad (w : World) (p : Option Addr) (hbad : BadR w p) (s : ByteArray) (A : Option Addr) (m c : Nat) (b wide : Bool) (n : Int) (h0 : -2147483648 ≤ n) (h1 : n ≤ 2147483647) :
    Calls Try.prog 10 #[.pointer p, .int .i32 n, eV s (.slice A m c) b, .bool wide] w fun e w' => e = .returned (.int .i64 1) ∧ Below w.heap.size w w' := by
  have hb := below_alloc (Below.refl w.heap.size w) (.cells #[.string s, .slice A m c, .bool b] 33)
  have HLE := Aside0.mk ((letter_bad _ p (hbad.below hb) s A m c b n h0 h1).mono (fun e w' (h : _ ∧ _) => (⟨h.1, below_step hb h.2⟩ : _ ∧ Below w.heap.size w w')))
  clear hbad hb
  go_enter Try.func10, Try.ntmps10
  go_wp2_with (first | (go_at_call 21; (with_reducible refine HLE.out.mono ?_); rintro e w2 ⟨rfl, hb2⟩; have HB := Aside0.mk hb2; clear hb2))
  go_ret
  exact ⟨rfl, HB.out⟩
set_option maxRecDepth 100000 in
set_option maxHeartbeats 8000000 in
theorem Copy_bad (w : World) (p : Option Addr) (hbad : BadR w p) :
    Calls Try.prog 17 #[.pointer p] w fun e w' => e = .returned (.pointer none) ∧ Below w.heap.size w w' := by
  have HBAD := Aside0.mk hbad
  have HB := Aside0.mk (Below.refl w.heap.size w)
  clear hbad
  go_enter Try.func17, Try.ntmps17
  go_wp2_with (first | (go_at_call 26; (with_reducible refine (HBAD.out _ ?sb).mono ?_); (case sb => exact (by repeat (first | (with_reducible first | exact Below.refl _ _ | exact HB.out | apply pw_below_drewN | apply below_alloc | apply below_drew) | exact Below.refl _ _ | exact HB.out))); rintro e w3 ⟨rfl, rfl⟩))
  go_ret
  exact ⟨rfl, HB.out⟩
set_option maxRecDepth 100000 in
set_option maxHeartbeats 8000000 in
theorem Get_bad (w : World) (p : Option Addr) (hbad : BadR w p) (n : Int) (h0 : -2147483648 ≤ n) (h1 : n ≤ 2147483647) :
    Calls Try.prog 12 #[.pointer p, .int .i32 n] w fun e w' => e = .returned (.tuple #[eV ⟨#[]⟩ (.slice none 0 0) false, .int .i64 1]) ∧ Below w.heap.size w w' := by
  have HPL := Aside0.mk (fun w1 => place_w w1 n h0 h1)
  have hb := below_alloc (Below.refl w.heap.size w) (.cells #[.string ⟨#[]⟩, .slice none 0 0, .bool false] 33)
  have HBAD := Aside0.mk (hbad.below hb)
  have HE := Aside0.mk (EX.new w ⟨#[]⟩ (.slice none 0 0) false)
  have HB0 := Aside0.mk hb
  clear hbad hb
  go_enter Try.func12, Try.ntmps12
  go_wp2_with (first | (go_at_call 25; (with_reducible refine (HPL.out _).mono ?_); rintro e w2 ⟨rfl, hd2⟩; have HB := Aside0.mk (drawn_below hd2); have HE := Aside0.mk (HE.out.below HB.out); have lp := blk_lt HE.out.x; obtain ⟨a0, a1, a2, f0, f1, f2⟩ := HE.out.cells; clear hd2) | (go_at_call 26; (with_reducible refine (HBAD.out _ HB.out).mono ?_); rintro e w3 ⟨rfl, rfl⟩))
  exact bodyPost_ret (v := .tuple #[eV ⟨#[]⟩ (.slice none 0 0) false, .int .i64 1]) (by simp [results, Try.results12, go_sem, a0, a1, a2, f0, f1, f2, lp]) rfl ⟨rfl, below_set (below_set (below_set (below_step HB0.out HB.out) (Nat.le_refl _)) (Nat.le_refl _)) (Nat.le_refl _)⟩

end Go.Proofs.Ytbcbfmhcoemnpaa.Ext
