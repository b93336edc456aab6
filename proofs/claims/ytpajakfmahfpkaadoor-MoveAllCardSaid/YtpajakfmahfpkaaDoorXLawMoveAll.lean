/- The tied card of bureaulaw12_MoveAll, out of its pure statement and its walk. Written by a program. -/
import Derived.Test.YtpajakfmahfpkaaDoorRows
import Derived.Test.YtpajakfmahfpkaaDoorXMoveAllx9
import Derived.Test.YtpajakfmahfpkaaDoorXPureMoveAll
import Derived.Test.YtpajakfmahfpkaaDoorOpen
import Derived.Test.YtpajakfmahfpkaaDoorLaid06
import Derived.Test.YtpajakfmahfpkaaDoorTie
import Derived.Test.YtpajakfmahfpkaaDoorCards
import Derived.Lay
import Derived.LaidOnce
import Derived.SevenTiedAt
import Derived.WalkKit
import Derived.ProofKit
import Derived.OpenShut
import Derived.ShutString
import Derived.ChangeOld
import Derived.Below
import Derived.SizedLaws
namespace Go.Proofs.YtpajakfmahfpkaaDoor.moveAllX
open Go.ChangeShapes Go.WideShapes Go.ChangeAt Go.RowKit Go.Proofs.YtpajakfmahfpkaaDoor.Open Go.Proofs.YtpajakfmahfpkaaDoor.XMoveAll Go.Proofs.YtpajakfmahfpkaaDoorW.PrintWords
open Go.ChangeMaps (open_string shut_string)
set_option linter.unusedVariables false
set_option linter.unusedSimpArgs false
theorem own : ownKnob Tryd.prog.godebug = none := by kernel_rfl
theorem laidOut : laidOutB Tryd.prog = true := by kernel_rfl
theorem opens23 : Opens Tryd.prog 23 (Kd.pair (Kd.int .i32) (Kd.pair (Kd.int .i32) (Kd.int .i64))) (fun x => (fun n => (Lit.int .i32 n).wf = true) x.1 ∧ (fun x => (fun n => (Lit.int .i32 n).wf = true) x.1 ∧ (fun n => (Lit.int .i64 n).wf = true) x.2) x.2) := (opens_struct Tryd.underlying23 (by kernel_rfl) (opensAt_cons (off := 0) (off' := 1) rfl rfl (opens_int (k := .i32) Tryd.underlying21 (by kernel_rfl)) (opensAt_cons (off := 1) (off' := 2) rfl rfl (opens_int (k := .i32) Tryd.underlying21 (by kernel_rfl)) (opensAt_last (off := 2) rfl (opens_int (k := .i64) Tryd.underlying3 (by kernel_rfl))))))
set_option maxRecDepth 100000 in
set_option maxHeartbeats 1000000 in
theorem lifted (os : Os) (started : os.Started) (H : Type) (enc : TypeId × Value → H) :
    ReturnsInHanded {} Tryd.checked os 3 .any (fun w args => (Rows.moveAllSpec.pre enc Tryd.prog Tryd.f3 Rows.moveAllRow.domain false w args ∧ laidMetH Tryd.prog Ext.laidL w) ∧ sizedMet enc Tryd.prog Tryd.f3 (OpenSpec.ofChange Rows.moveAllSpec) false w args) (Rows.moveAllSpec.post enc Tryd.prog Tryd.f3 false true false false) := by
  refine returnsInHanded_of_change_and (C := Tryd.checked) (X := fun w _ => laidMetH Tryd.prog Ext.laidL w) (fun _ _ _ hh h => h.of_heap hh) own started (by kernel_rfl) Tryd.func3
    (ChangeSpec.witness_shaped (enc := enc) (C := Tryd.checked) (os := os) (X := fun w _ => laidMetH Tryd.prog Ext.laidL w) false (World.laidAll Tryd.prog os Ext.laidL) #[.string ByteArray.empty, .int .i64 0, .agg #[.int .i32 0, .int .i32 0, .int .i64 0]] 8 (World.laidAll_os _ _ _)
      (World.shaped_of_ZipB (by kernel_rfl) (by kernel_rfl)) (by kernel_rfl) (by kernel_rfl) (by kernel_rfl) (Ext.laid_in_all os _)) ?_
  intro W base args ds gs before hval0 hW hcnd hsz0 hLaid _
  have hTabs : Ext.Tabs W := Ext.tabs_of_laid hLaid
  have hval : ∀ (j : Nat) t v, Tryd.f3.params[j]? = some t → args[j]? = some v → Value.okWide Tryd.prog W .any base t v := hval0
  have hW' := hW
  obtain ⟨p, q, hA0, hV, rfl, hfz, hnd⟩ := hW
  have hA : DataW.TrodAll enc Tryd.prog W 0 (fun _ => true) true Tryd.f3.params.toList args.toList ds p := hA0
  rw [Tryd.params3] at hA hval
  obtain ⟨v0, vs0, d0, ds0, p0, q0, hargs, rfl, rfl, h0, r0⟩ := trodAll_cons hA
  obtain ⟨v1, vs1, d1, ds1, p1, q1, rfl, rfl, rfl, h1, r1⟩ := trodAll_cons r0
  obtain ⟨v2, vs2, d2, ds2, p2, q2, rfl, rfl, rfl, h2, r2⟩ := trodAll_cons r1
  obtain ⟨rfl, rfl, rfl⟩ := trodAll_nil r2
  obtain rfl : args = #[v0, v1, v2] := by cases args; simp_all
  obtain ⟨rfl, rfl⟩ := trodVars_none hV
  have k0 := h0
  have lt0 : ∀ x ∈ p0, x.block < W.heap.size := by obtain ⟨m, hm⟩ := k0; exact DataW.trod_lt m _ _ _ hm
  obtain ⟨fu0, hf0⟩ := h0
  obtain ⟨a0, rfl, rfl, rfl, hG0⟩ := open_string Tryd.underlying9 (hval 0 9 v0 rfl rfl) k0
  have k1 := h1
  have lt1 : ∀ x ∈ p1, x.block < W.heap.size := by obtain ⟨m, hm⟩ := k1; exact DataW.trod_lt m _ _ _ hm
  obtain ⟨fu1, hf1⟩ := h1
  obtain ⟨a1, rfl, rfl, rfl, hG1⟩ := open_int Tryd.underlying3 (hval 1 3 v1 rfl rfl) k1
  have k2 := h2
  have lt2 : ∀ x ∈ p2, x.block < W.heap.size := by obtain ⟨m, hm⟩ := k2; exact DataW.trod_lt m _ _ _ hm
  obtain ⟨cs2, rfl, _⟩ := okWide_struct Tryd.underlying23 (hval 2 23 v2 rfl rfl)
  obtain ⟨fu2, hf2⟩ := h2
  obtain ⟨x2, hK2, hG2⟩ := opens23.op hf2
  obtain ⟨l2, hl2⟩ : ∃ l, cs2.toList = l := ⟨_, rfl⟩
  obtain rfl : cs2 = l2.toArray := by rw [← hl2]
  simp only [Value.cells] at hK2
  obtain ⟨_, _, rfl, rfl, ⟨_, _, rfl, rfl, rfl⟩⟩ := hK2
  clear hA0 hval0 hsz0
  have hpure := Pure.MoveAll a0 a1 x2.1 x2.2.1 x2.2.2
  obtain ⟨k, hp⟩ := hpure (by first | assumption | (simp only [and_assoc] at *; first | assumption | (simp_all; done))) (by first | assumption | (simp only [and_assoc] at *; first | assumption | (simp_all; done))) (by first | assumption | (simp only [and_assoc] at *; first | assumption | (simp_all; done))) (by first | assumption | (simp only [and_assoc] at *; first | assumption | (simp_all; done))) (by first | assumption | (simp only [and_assoc] at *; first | assumption | (simp_all; done)))
  refine (bureaulaw12_MoveAll.calls k a0 a1 x2.1 x2.2.1 x2.2.2 true W  hp hTabs).mono fun e W' ⟨he, hd⟩ => ?_
  have bel : Below W.heap.size W W' := hd
  subst he
  exact ⟨_, rfl, _, _, _, [], _, [], hW', trodAll_mk1 (shut_bool Tryd.underlying4 _), (trodAll_cons_mk (Below.trod laidOut (by kernel_rfl) (of_decide_eq_true (by kernel_rfl)) k0 bel lt0) (trodAll_cons_mk (Below.trod laidOut (by kernel_rfl) (of_decide_eq_true (by kernel_rfl)) k1 bel lt1) (trodAll_cons_mk (Below.trod laidOut (by kernel_rfl) (of_decide_eq_true (by kernel_rfl)) k2 bel lt2) trodAll_mk0))), rfl, bel.frame _, fun h => by cases h⟩
theorem over : Rows.moveAllRow.holds Tryd.pinned (OpenSpec.ofChange Rows.moveAllSpec) :=
  OpenClaim.holds_of_wide 3 Tryd.f3 rfl rfl rfl rfl rfl rfl rfl ⟨rfl, rfl, rfl, rfl, rfl⟩ rfl rfl rfl rfl rfl (by kernel_rfl) Tryd.func3 (by kernel_rfl)
    (of_decide_eq_true (by kernel_rfl)) (by unfold Func.isWrapper; first | (rw [if_pos (by decide +kernel)]; kernel_rfl) | (rw [if_neg (by decide +kernel)]; exact ⟨rfl, rfl⟩))
    (fun os started H enc _ => lifted os started H enc)
theorem proved : Rows.MoveAllSaid := over
theorem card : Rows.MoveAllCardSaid :=
  Claim7.holds_tied_plain_at .later [] [.data, .pinned] true (true, "9cc36356dbcbd080771f035660feaa48744131233757aa995d820fb3f888e1eb") false over (fun _ h => by cases h) (by kernel_rfl) (fun _ h => by cases h) moveAll_row_tie rfl ⟨rfl, rfl⟩ (by kernel_rfl) rfl
    (fun f fn hf hfn => by
      obtain rfl : f = 3 := Option.some.inj ((show Tryd.prog.funcNamed "bureau/bureaulaw12.MoveAll" = some 3 by kernel_rfl).symm.trans hf) |>.symm
      obtain rfl : fn = Tryd.f3 := (Option.some.inj (Tryd.func3.symm.trans hfn)).symm
      exact ⟨by kernel_rfl, fun j t ht => by
        rw [Tryd.params3] at ht
        have hm : t ∈ [9, 3, 23] := by simpa using Array.mem_of_getElem? ht
        have hall : ([9, 3, 23].all fun u => !Tryd.prog.wantsStandIn u) = true := by kernel_rfl
        exact (show Tryd.prog.wantsStandIn t = false by simpa using List.all_eq_true.1 hall t hm)⟩)
    (by kernel_rfl)
#print axioms card
end Go.Proofs.YtpajakfmahfpkaaDoor.moveAllX
namespace Go.Proofs.YtpajakfmahfpkaaDoor
/-- The card, under a short name, for the claim. -/
theorem moveAll_holds : Rows.MoveAllCardSaid := moveAllX.card
end Go.Proofs.YtpajakfmahfpkaaDoor
