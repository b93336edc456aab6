/- The law's alive04, by its walk. -/
import Derived.Test.YtcaoopmpbpfeaaaExtRM
import Derived.Test.YtcaoopmpbpfeaaaXRRx2
import Derived.Test.YtcaoopmpbpfeaaaXRRx4
import Derived.Test.YtcaoopmpbpfeaaaXRRx0
import Derived.Test.YtcaoopmpbpfeaaaWMore
import Derived.WalkKit
import Derived.WalkMore
import Derived.Below
import Derived.KernelRfl
import Derived.LoopTactic
import Derived.Deep.RegionWith
import Derived.Deep.RegionHeld3
import Derived.IntWalk
import Derived.Deep.DeepCutAuto
import Derived.Deep.CutBlock
import Derived.BigQuiet
import Derived.Laws.RangeString
import Derived.Laws.RangeAny
import Derived.Laws.Rows
import Derived.Laws.Runes
import Derived.Lib.OthersKept
import Derived.OpenShut
set_option linter.unusedVariables false
set_option linter.unusedSimpArgs false
namespace Go.Proofs.Ytcaoopmpbpfeaaa.Ext
open Go.RowKit Go.Lib Go.Proofs.YtcaoopmpbpfeaaaW.PrintWords Go.Proofs.YtcaoopmpbpfeaaaW.PrintMore Go.Proofs.Ytcaoopmpbpfeaaa.XRR

abbrev sAB : ByteArray := ⟨#[97, 98]⟩
def lAB : List Rn := [⟨2, 2⟩]
theorem goodAB : goodT sAB lAB = true := by decide
theorem makAB : makT sAB 2 = (sAB, lAB, 0) := by decide
theorem vieAB : vieT sAB lAB 1 = ⟨#[35, 35]⟩ := by rfl
set_option maxRecDepth 100000 in
set_option maxHeartbeats 8000000 in
theorem alive04_w (w : World) :
    Calls Try.prog 4 #[] w fun e w' => e = .returned (.bool true) ∧ Below w.heap.size w w' := by
  have HM := Aside0.mk (makT_w w sAB 2 (by decide))
  rw [makAB] at HM
  have HV := Aside0.mk (fun (w1 : World) (A : Option Addr) (c : Nat) (hC : Kd.C k43 w1 A lAB.length lAB) (hc : lAB.length ≤ c) => view_w w1 sAB A c lAB 1 hC hc (by decide) goodAB)
  rw [vieAB] at HV
  have HG := Aside0.mk (fun (w1 : World) (A : Option Addr) (c : Nat) (hC : Kd.C k43 w1 A lAB.length lAB) (hc : lAB.length ≤ c) => strip_Good.calls (lAB.length + 2 + lAB.length) sAB A c lAB _ w1 hC hc (goodT_k sAB lAB (by decide) _ (Nat.le_refl _)))
  rw [goodAB] at HG
  go_enter Try.func4, Try.ntmps4
  go_wp2_with (first
    | (go_at_call 10; (with_reducible refine HM.out.mono ?_); rintro e w1 ⟨v1, rfl, hr1, hb1⟩; obtain ⟨A1, c1, e1, hc1, hC1⟩ := Kd.R_reads hr1; subst e1; have HC1 := Aside0.mk hC1; have HCC := Aside0.mk hc1; have HB1 := Aside0.mk hb1; clear hr1 hb1 hC1 hc1; dsimp only [vT])
    | (go_at_call 8; (with_reducible refine (HV.out _ _ _ (Kd.C_below HC1.out (below_alloc (Below.refl _ _) _)) HCC.out).mono ?_); rintro e w2 ⟨rfl, hb2⟩; have hb3 := below_step (below_alloc (Below.refl w1.heap.size w1) (.cells #[.string sAB, .slice A1 lAB.length c1] 28)) hb2; have HC2 := Aside0.mk (Kd.C_below HC1.out hb3); have HB2 := Aside0.mk (below_step HB1.out hb3); obtain ⟨a0, a1, -, -⟩ := (BX.below (⟨heap_alloc_new _ _⟩ : BX (w1.alloc (.cells #[.string sAB, .slice A1 lAB.length c1] 28)) w1.heap.size sAB (.slice A1 lAB.length c1)) hb2).cells; clear hb2 hb3)
    | (go_at_call 11; (with_reducible refine (HG.out _ _ _ HC2.out HCC.out).mono ?_); rintro e w4 ⟨rfl, hb4⟩; have HB4 := Aside0.mk (below_step HB2.out hb4); clear hb4))
  go_ret
  exact ⟨rfl, HB4.out⟩

end Go.Proofs.Ytcaoopmpbpfeaaa.Ext
