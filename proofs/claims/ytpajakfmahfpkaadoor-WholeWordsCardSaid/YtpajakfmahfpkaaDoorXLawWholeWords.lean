/- The tied card of bureautop_WholeWords, out of its pure statement and its walk. Written by a program. -/
import Derived.Test.YtpajakfmahfpkaaDoorRows
import Derived.Test.YtpajakfmahfpkaaDoorXWholeWordsx2
import Derived.Test.YtpajakfmahfpkaaDoorXPureWholeWords
import Derived.Test.YtpajakfmahfpkaaDoorOpen
import Derived.Test.YtpajakfmahfpkaaDoorLaid06
import Derived.Test.YtpajakfmahfpkaaDoorTie
import Derived.Test.YtpajakfmahfpkaaDoorCards
import Derived.Lay
import Derived.LaidOnce
import Derived.SevenTiedAt
import Derived.WalkKit
import Derived.ProofKit
import Derived.OpenShut
import Derived.ShutString
import Derived.ChangeOld
import Derived.Below
import Derived.SizedLaws
namespace Go.Proofs.YtpajakfmahfpkaaDoor.wholeWordsX
open Go.ChangeShapes Go.WideShapes Go.ChangeAt Go.RowKit Go.Proofs.YtpajakfmahfpkaaDoor.Open Go.Proofs.YtpajakfmahfpkaaDoor.XWholeWords Go.Proofs.YtpajakfmahfpkaaDoorW.PrintWords
open Go.ChangeMaps (open_string shut_string)
set_option linter.unusedVariables false
set_option linter.unusedSimpArgs false
theorem own : ownKnob Tryd.prog.godebug = none := by kernel_rfl
theorem laidOut : laidOutB Tryd.prog = true := by kernel_rfl
set_option maxRecDepth 100000 in
set_option maxHeartbeats 1000000 in
theorem lifted (os : Os) (started : os.Started) (H : Type) (enc : TypeId × Value → H) :
    ReturnsInHanded {} Tryd.checked os 8 .any (fun w args => (Rows.wholeWordsSpec.pre enc Tryd.prog Tryd.f8 Rows.wholeWordsRow.domain false w args ∧ laidMetH Tryd.prog Ext.laidL w) ∧ sizedMet enc Tryd.prog Tryd.f8 (OpenSpec.ofChange Rows.wholeWordsSpec) false w args) (Rows.wholeWordsSpec.post enc Tryd.prog Tryd.f8 false true false false) := by
  refine returnsInHanded_of_change_and (C := Tryd.checked) (X := fun w _ => laidMetH Tryd.prog Ext.laidL w) (fun _ _ _ hh h => h.of_heap hh) own started (by kernel_rfl) Tryd.func8
    (ChangeSpec.witness_shaped (enc := enc) (C := Tryd.checked) (os := os) (X := fun w _ => laidMetH Tryd.prog Ext.laidL w) false (World.laidAll Tryd.prog os Ext.laidL) #[.string ByteArray.empty] 8 (World.laidAll_os _ _ _)
      (World.shaped_of_ZipB (by kernel_rfl) (by kernel_rfl)) (by kernel_rfl) (by kernel_rfl) (by kernel_rfl) (Ext.laid_in_all os _)) ?_
  intro W base args ds gs before hval0 hW hcnd hsz0 hLaid _
  have hTabs : Ext.Tabs W := Ext.tabs_of_laid hLaid
  have hval : ∀ (j : Nat) t v, Tryd.f8.params[j]? = some t → args[j]? = some v → Value.okWide Tryd.prog W .any base t v := hval0
  have hW' := hW
  obtain ⟨p, q, hA0, hV, rfl, hfz, hnd⟩ := hW
  have hA : DataW.TrodAll enc Tryd.prog W 0 (fun _ => true) true Tryd.f8.params.toList args.toList ds p := hA0
  rw [Tryd.params8] at hA hval
  obtain ⟨v0, vs0, d0, ds0, p0, q0, hargs, rfl, rfl, h0, r0⟩ := trodAll_cons hA
  obtain ⟨rfl, rfl, rfl⟩ := trodAll_nil r0
  obtain rfl : args = #[v0] := by cases args; simp_all
  obtain ⟨rfl, rfl⟩ := trodVars_none hV
  have k0 := h0
  have lt0 : ∀ x ∈ p0, x.block < W.heap.size := by obtain ⟨m, hm⟩ := k0; exact DataW.trod_lt m _ _ _ hm
  obtain ⟨fu0, hf0⟩ := h0
  obtain ⟨a0, rfl, rfl, rfl, hG0⟩ := open_string Tryd.underlying9 (hval 0 9 v0 rfl rfl) k0
  clear hA0 hval0 hsz0
  have hpure := Pure.WholeWords a0
  obtain ⟨k, hp⟩ := hpure (by first | assumption | (simp only [and_assoc] at *; first | assumption | (simp_all; done)))
  refine (bureautop_WholeWords.calls k a0 true W  hp hTabs).mono fun e W' ⟨he, hd⟩ => ?_
  have bel : Below W.heap.size W W' := hd
  subst he
  exact ⟨_, rfl, _, _, _, [], _, [], hW', trodAll_mk1 (shut_bool Tryd.underlying4 _), (trodAll_cons_mk (Below.trod laidOut (by kernel_rfl) (of_decide_eq_true (by kernel_rfl)) k0 bel lt0) trodAll_mk0), rfl, bel.frame _, fun h => by cases h⟩
theorem over : Rows.wholeWordsRow.holds Tryd.pinned (OpenSpec.ofChange Rows.wholeWordsSpec) :=
  OpenClaim.holds_of_wide 8 Tryd.f8 rfl rfl rfl rfl rfl rfl rfl ⟨rfl, rfl, rfl, rfl, rfl⟩ rfl rfl rfl rfl rfl (by kernel_rfl) Tryd.func8 (by kernel_rfl)
    (of_decide_eq_true (by kernel_rfl)) (by unfold Func.isWrapper; first | (rw [if_pos (by decide +kernel)]; kernel_rfl) | (rw [if_neg (by decide +kernel)]; exact ⟨rfl, rfl⟩))
    (fun os started H enc _ => lifted os started H enc)
theorem proved : Rows.WholeWordsSaid := over
theorem card : Rows.WholeWordsCardSaid :=
  Claim7.holds_tied_plain_at .later [] [.data, .pinned] true (true, "9cc36356dbcbd080771f035660feaa48744131233757aa995d820fb3f888e1eb") false over (fun _ h => by cases h) (by kernel_rfl) (fun _ h => by cases h) wholeWords_row_tie rfl ⟨rfl, rfl⟩ (by kernel_rfl) rfl
    (fun f fn hf hfn => by
      obtain rfl : f = 8 := Option.some.inj ((show Tryd.prog.funcNamed "bureau/bureautop.WholeWords" = some 8 by kernel_rfl).symm.trans hf) |>.symm
      obtain rfl : fn = Tryd.f8 := (Option.some.inj (Tryd.func8.symm.trans hfn)).symm
      exact ⟨by kernel_rfl, fun j t ht => by
        rw [Tryd.params8] at ht
        have hm : t ∈ [9] := by simpa using Array.mem_of_getElem? ht
        have hall : ([9].all fun u => !Tryd.prog.wantsStandIn u) = true := by kernel_rfl
        exact (show Tryd.prog.wantsStandIn t = false by simpa using List.all_eq_true.1 hall t hm)⟩)
    (by kernel_rfl)
#print axioms card
end Go.Proofs.YtpajakfmahfpkaaDoor.wholeWordsX
namespace Go.Proofs.YtpajakfmahfpkaaDoor
/-- The card, under a short name, for the claim. -/
theorem wholeWords_holds : Rows.WholeWordsCardSaid := wholeWordsX.card
end Go.Proofs.YtpajakfmahfpkaaDoor
