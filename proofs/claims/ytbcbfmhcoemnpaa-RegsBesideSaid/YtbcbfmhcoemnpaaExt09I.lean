/- regs: the laws' alive, by its walk. -/
import Derived.Test.YtbcbfmhcoemnpaaExt09H
import Derived.Test.YtbcbfmhcoemnpaaXRRx2
import Derived.Test.YtbcbfmhcoemnpaaXRRx3
import Derived.Test.YtbcbfmhcoemnpaaXRRx4
import Derived.Test.YtbcbfmhcoemnpaaXRRx0
import Derived.Test.YtbcbfmhcoemnpaaWMore
import Derived.WalkKit
import Derived.WalkMore
import Derived.Below
import Derived.KernelRfl
import Derived.LoopTactic
import Derived.Deep.RegionWith
import Derived.Deep.RegionHeld3
import Derived.IntWalk
import Derived.Deep.DeepCutAuto
import Derived.Deep.CutBlock
import Derived.BigQuiet
import Derived.Laws.RangeString
import Derived.Laws.RangeAny
import Derived.Laws.Rows
import Derived.Laws.Runes
import Derived.Lib.OthersKept
import Derived.OpenShut
set_option linter.unusedVariables false
set_option linter.unusedSimpArgs false
namespace Go.Proofs.Ytbcbfmhcoemnpaa.Ext
open Go.RowKit Go.Lib Go.Proofs.YtbcbfmhcoemnpaaW.PrintWords Go.Proofs.YtbcbfmhcoemnpaaW.PrintMore Go.Proofs.Ytbcbfmhcoemnpaa.XRR

abbrev oneR (W : World) (base : Nat) (A : Option Addr) (c : Nat) : Prop := Kd.R k58 58 W base (fun _ => True) (.slice A ([⟨1, 1⟩] : List Rn).length c) ([⟨1, 1⟩] : List Rn)
set_option maxRecDepth 100000 in
set_option maxHeartbeats 8000000 in
theorem alive_w (w : World) : Calls Try.prog 7 #[] w fun e w' => e = .returned (.bool true) ∧ Below w.heap.size w w' := by
  have HB0 := Aside0.mk (Below.refl w.heap.size w)
  have HY1 : Aside0 (∀ W B A c base, ST w W B (List.replicate 38 hz) → oneR W base A c → Calls Try.prog 19 #[.pointer (some ⟨B, 0, none⟩), .int .i32 113, eV ⟨#[101]⟩ (.slice A 1 c) false] W fun e w' => e = .returned (.int .i64 0) ∧ ST w w' B alG1) := ⟨fun W B A c base hs hr => (yank_s hs (oneE 101) A c 113 (ra_of hs hr) (by decide) (by decide) (by decide)).mono (by rintro e w' ⟨rfl, h, -⟩; exact ⟨by rw [al1], h⟩)⟩
  have HY2 : Aside0 (∀ W B A c base, ST w W B alG1 → oneR W base A c → Calls Try.prog 19 #[.pointer (some ⟨B, 0, none⟩), .int .i32 81, eV ⟨#[102]⟩ (.slice A 1 c) false] W fun e w' => e = .returned (.int .i64 0) ∧ ST w w' B alG2) := ⟨fun W B A c base hs hr => (yank_s hs (oneE 102) A c 81 (ra_of hs hr) (by decide) (by decide) (by decide)).mono (by rintro e w' ⟨rfl, h, -⟩; exact ⟨by rw [al2], h⟩)⟩
  have HY3 : Aside0 (∀ W B A c base, ST w W B alG2 → oneR W base A c → Calls Try.prog 10 #[.pointer (some ⟨B, 0, none⟩), .int .i32 0, eV ⟨#[98]⟩ (.slice A 1 c) false, .bool true] W fun e w' => e = .returned (.int .i64 0) ∧ ST w w' B alG3) := ⟨fun W B A c base hs hr => (delete_s hs (oneE 98) A c 0 true (ra_of hs hr) (by decide) (by decide) (by decide)).mono (by rintro e w' ⟨rfl, h, -⟩; exact ⟨by rw [al3], h⟩)⟩
  have HG1 : Aside0 (∀ W B, ST w W B alG3 → Calls Try.prog 12 #[.pointer (some ⟨B, 0, none⟩), .int .i32 113] W fun e w' => ∃ A c, e = .returned (.tuple #[eV ⟨#[101, 102]⟩ (.slice A (getM alG3 113).1.l.length c) (getM alG3 113).1.b, .int .i64 0]) ∧ ST w w' B alG3) := ⟨fun W B hs => (get_s hs 113 (by decide) (by decide)).mono (by rintro e w' ⟨A, c, rfl, -, h⟩; exact ⟨A, c, by rw [al4, al6], hs.below h⟩)⟩
  have HG2 : Aside0 (∀ W B, ST w W B alG3 → Calls Try.prog 12 #[.pointer (some ⟨B, 0, none⟩), .int .i32 0] W fun e w' => ∃ A c, e = .returned (.tuple #[eV ⟨#[98]⟩ (.slice A (getM alG3 0).1.l.length c) (getM alG3 0).1.b, .int .i64 0]) ∧ ST w w' B alG3 ∧ Below W.heap.size W w') := ⟨fun W B hs => (get_s hs 0 (by decide) (by decide)).mono (by rintro e w' ⟨A, c, rfl, -, h⟩; exact ⟨A, c, by rw [al5, al7], hs.below h, h⟩)⟩
  generalize (getM alG3 0).1.l.length = n1 at HG2
  generalize (getM alG3 0).1.b = b1 at HG2
  generalize (getM alG3 113).1.l.length = n2 at HG1
  generalize (getM alG3 113).1.b = b2 at HG1
  go_enter Try.func7, Try.ntmps7
  go_wp2_with (first | (go_at_call 20; (with_reducible refine (one_w _ _).mono ?_); rintro e w2 ⟨A2, c2, rfl, hr2, hb2⟩; have HS := Aside0.mk (HS.out.below hb2); have HR2 := Aside0.mk hr2; clear hr2 hb2) | (go_at_call 8; (with_reducible refine (new_s w _ HB0.out).mono ?_); rintro e w1 ⟨rfl, hs1, hb1⟩; have HS := Aside0.mk hs1; clear hs1 hb1) | (go_at_call 19; (with_reducible refine (HY1.out _ _ _ _ _ HS.out HR2.out).mono ?_); rintro e w3 ⟨rfl, hs3⟩; have HS := Aside0.mk hs3; clear hs3) | (go_at_call 19; (with_reducible refine (HY2.out _ _ _ _ _ HS.out HR2.out).mono ?_); rintro e w3 ⟨rfl, hs3⟩; have HS := Aside0.mk hs3; clear hs3) | (go_at_call 10; (with_reducible refine (HY3.out _ _ _ _ _ HS.out HR2.out).mono ?_); rintro e w3 ⟨rfl, hs3⟩; have HS := Aside0.mk hs3; clear hs3) | (go_at_call 12; (with_reducible refine (HG1.out _ _ HS.out).mono ?_); rintro e w4 ⟨A4, c4, rfl, hs4⟩; have HS := Aside0.mk hs4; clear hs4) | (go_at_call 12; (with_reducible refine (HG2.out _ _ (HS.out.below (below_alloc (Below.refl _ _) _))).mono ?_); rintro e w5 ⟨A5, c5, rfl, hs5, hb5⟩; have HS := Aside0.mk hs5; have bx5 := (hb5.block w4.heap.size (by simp)).trans (heap_alloc_new w4 _); have x0 := cell_of_row w5 w4.heap.size 0 _ _ _ bx5; have lx := blk_lt bx5; clear hs5 hb5 bx5))
  go_ret
  exact ⟨rfl, below_alloc HS.out.bl _⟩

end Go.Proofs.Ytbcbfmhcoemnpaa.Ext
