/- The tied card of bureaulaw10_KeysJoins, out of its pure statement and its walk. Written by a program. -/
import Derived.Test.YtbbogjecpdebbaaDoorRows
import Derived.Test.YtbbogjecpdebbaaDoorXKeysJoinsx1
import Derived.Test.YtbbogjecpdebbaaDoorXPureKeysJoins
import Derived.Test.YtbbogjecpdebbaaDoorOpen
import Derived.Test.YtbbogjecpdebbaaDoorLaid10
import Derived.Test.YtbbogjecpdebbaaDoorTie
import Derived.Test.YtbbogjecpdebbaaDoorCards
import Derived.Lay
import Derived.LaidOnce
import Derived.SevenTiedAt
import Derived.WalkKit
import Derived.ProofKit
import Derived.OpenShut
import Derived.ShutString
import Derived.ChangeOld
import Derived.Below
import Derived.SizedLaws
namespace Go.Proofs.YtbbogjecpdebbaaDoor.keysJoinsX
open Go.ChangeShapes Go.WideShapes Go.ChangeAt Go.RowKit Go.Proofs.YtbbogjecpdebbaaDoor.Open Go.Proofs.YtbbogjecpdebbaaDoor.XKeysJoins Go.Proofs.YtbbogjecpdebbaaDoorW.PrintWords
open Go.ChangeMaps (open_string shut_string)
set_option linter.unusedVariables false
set_option linter.unusedSimpArgs false
theorem own : ownKnob Tryd.prog.godebug = none := by kernel_rfl
theorem laidOut : laidOutB Tryd.prog = true := by kernel_rfl
set_option maxRecDepth 100000 in
set_option maxHeartbeats 1000000 in
theorem lifted (os : Os) (started : os.Started) (H : Type) (enc : TypeId × Value → H) :
    ReturnsInHanded {} Tryd.checked os 7 .any (fun w args => (Rows.keysJoinsSpec.pre enc Tryd.prog Tryd.f7 Rows.keysJoinsRow.domain false w args ∧ laidMetH Tryd.prog Ext.laidL w) ∧ sizedMet enc Tryd.prog Tryd.f7 (OpenSpec.ofChange Rows.keysJoinsSpec) false w args) (Rows.keysJoinsSpec.post enc Tryd.prog Tryd.f7 false true false false) := by
  refine returnsInHanded_of_change_and (C := Tryd.checked) (X := fun w _ => laidMetH Tryd.prog Ext.laidL w) (fun _ _ _ hh h => h.of_heap hh) own started (by kernel_rfl) Tryd.func7
    (ChangeSpec.witness_shaped (enc := enc) (C := Tryd.checked) (os := os) (X := fun w _ => laidMetH Tryd.prog Ext.laidL w) false (World.laidAll Tryd.prog os Ext.laidL) #[.slice none 0 0, .slice none 0 0] 8 (World.laidAll_os _ _ _)
      (World.shaped_of_ZipB (by kernel_rfl) (by kernel_rfl)) (by kernel_rfl) (by kernel_rfl) (by kernel_rfl) (Ext.laid_in_all os _)) ?_
  intro W base args ds gs before hval0 hW hcnd hsz0 hLaid _
  have hTabs : Ext.Tabs W := Ext.tabs_of_laid hLaid
  have hval : ∀ (j : Nat) t v, Tryd.f7.params[j]? = some t → args[j]? = some v → Value.okWide Tryd.prog W .any base t v := hval0
  have hW' := hW
  obtain ⟨p, q, hA0, hV, rfl, hfz, hnd⟩ := hW
  have hA : DataW.TrodAll enc Tryd.prog W 0 (fun _ => true) true Tryd.f7.params.toList args.toList ds p := hA0
  rw [Tryd.params7] at hA hval
  obtain ⟨v0, vs0, d0, ds0, p0, q0, hargs, rfl, rfl, h0, r0⟩ := trodAll_cons hA
  obtain ⟨v1, vs1, d1, ds1, p1, q1, rfl, rfl, rfl, h1, r1⟩ := trodAll_cons r0
  obtain ⟨rfl, rfl, rfl⟩ := trodAll_nil r1
  obtain rfl : args = #[v0, v1] := by cases args; simp_all
  obtain ⟨rfl, rfl⟩ := trodVars_none hV
  have k0 := h0
  have lt0 : ∀ x ∈ p0, x.block < W.heap.size := by obtain ⟨m, hm⟩ := k0; exact DataW.trod_lt m _ _ _ hm
  obtain ⟨a0, len0, cap0, rfl⟩ := okWide_slice Tryd.underlying25 (hval 0 25 v0 rfl rfl)
  obtain ⟨fu0, hf0⟩ := h0
  obtain ⟨l0, ⟨A0, c0, hs0, hc0, hr0⟩, hG0⟩ := ((opens_slice Tryd.underlying25 (by kernel_rfl) (opens_int (k := .i32) Tryd.underlying21 (by kernel_rfl))) : Opens Tryd.prog 25 (Kd.slice 21 (Kd.int .i32)) (fun xs => xs.length ≤ maxLen ∧ ∀ x ∈ xs, (fun n => (Lit.int .i32 n).wf = true) x)).op hf0
  simp only [Value.cells, List.cons.injEq, and_true, Value.slice.injEq] at hs0
  obtain ⟨rfl, rfl, rfl⟩ := hs0
  have k1 := h1
  have lt1 : ∀ x ∈ p1, x.block < W.heap.size := by obtain ⟨m, hm⟩ := k1; exact DataW.trod_lt m _ _ _ hm
  obtain ⟨a1, len1, cap1, rfl⟩ := okWide_slice Tryd.underlying25 (hval 1 25 v1 rfl rfl)
  obtain ⟨fu1, hf1⟩ := h1
  obtain ⟨l1, ⟨A1, c1, hs1, hc1, hr1⟩, hG1⟩ := ((opens_slice Tryd.underlying25 (by kernel_rfl) (opens_int (k := .i32) Tryd.underlying21 (by kernel_rfl))) : Opens Tryd.prog 25 (Kd.slice 21 (Kd.int .i32)) (fun xs => xs.length ≤ maxLen ∧ ∀ x ∈ xs, (fun n => (Lit.int .i32 n).wf = true) x)).op hf1
  simp only [Value.cells, List.cons.injEq, and_true, Value.slice.injEq] at hs1
  obtain ⟨rfl, rfl, rfl⟩ := hs1
  clear hA0 hval0 hsz0
  have hpure := Pure.KeysJoins l0 l1
  obtain ⟨k, hp⟩ := hpure (by first | assumption | (simp only [and_assoc] at *; first | assumption | (simp_all; done))) (by first | assumption | (simp only [and_assoc] at *; first | assumption | (simp_all; done))) (by first | assumption | (simp only [and_assoc] at *; first | assumption | (simp_all; done))) (by first | assumption | (simp only [and_assoc] at *; first | assumption | (simp_all; done)))
  refine (bureaulaw10_KeysJoins.calls k _ _ l0 _ _ l1 true W hr0 hc0 hr1 hc1 hp hTabs).mono fun e W' ⟨he, hd⟩ => ?_
  have bel : Below W.heap.size W W' := hd
  subst he
  exact ⟨_, rfl, _, _, _, [], _, [], hW', trodAll_mk1 (shut_bool Tryd.underlying4 _), (trodAll_cons_mk (Below.trod laidOut (by kernel_rfl) (of_decide_eq_true (by kernel_rfl)) k0 bel lt0) (trodAll_cons_mk (Below.trod laidOut (by kernel_rfl) (of_decide_eq_true (by kernel_rfl)) k1 bel lt1) trodAll_mk0)), rfl, bel.frame _, fun h => by cases h⟩
theorem over : Rows.keysJoinsRow.holds Tryd.pinned (OpenSpec.ofChange Rows.keysJoinsSpec) :=
  OpenClaim.holds_of_wide 7 Tryd.f7 rfl rfl rfl rfl rfl rfl rfl ⟨rfl, rfl, rfl, rfl, rfl⟩ rfl rfl rfl rfl rfl (by kernel_rfl) Tryd.func7 (by kernel_rfl)
    (of_decide_eq_true (by kernel_rfl)) (by unfold Func.isWrapper; first | (rw [if_pos (by decide +kernel)]; kernel_rfl) | (rw [if_neg (by decide +kernel)]; exact ⟨rfl, rfl⟩))
    (fun os started H enc _ => lifted os started H enc)
theorem proved : Rows.KeysJoinsSaid := over
theorem card : Rows.KeysJoinsCardSaid :=
  Claim7.holds_tied_plain_at .later [] [.data, .pinned] true (true, "cf03ceb910741e898b37d3b4f2e1e80b9238b73bcb480ed4d77acb035a70df90") false over (fun _ h => by cases h) (by kernel_rfl) (fun _ h => by cases h) keysJoins_row_tie rfl ⟨rfl, rfl⟩ (by kernel_rfl) rfl
    (fun f fn hf hfn => by
      obtain rfl : f = 7 := Option.some.inj ((show Tryd.prog.funcNamed "bureau/bureaulaw10.KeysJoins" = some 7 by kernel_rfl).symm.trans hf) |>.symm
      obtain rfl : fn = Tryd.f7 := (Option.some.inj (Tryd.func7.symm.trans hfn)).symm
      exact ⟨by kernel_rfl, fun j t ht => by
        rw [Tryd.params7] at ht
        have hm : t ∈ [25] := by simpa using Array.mem_of_getElem? ht
        have hall : ([25].all fun u => !Tryd.prog.wantsStandIn u) = true := by kernel_rfl
        exact (show Tryd.prog.wantsStandIn t = false by simpa using List.all_eq_true.1 hall t hm)⟩)
    (by kernel_rfl)
#print axioms card
end Go.Proofs.YtbbogjecpdebbaaDoor.keysJoinsX
namespace Go.Proofs.YtbbogjecpdebbaaDoor
/-- The card, under a short name, for the claim. -/
theorem keysJoins_holds : Rows.KeysJoinsCardSaid := keysJoinsX.card
end Go.Proofs.YtbbogjecpdebbaaDoor
