-- The row of bureaulaw09_RegsHides, out of its pure statement and its walk. Written by this session's program.
import Derived.Test.YtbcbfmhcoemnpaaRows
import Derived.Test.YtbcbfmhcoemnpaaXRHx1
import Derived.Test.YtbcbfmhcoemnpaaXPureRegsHides
import Derived.Test.YtbcbfmhcoemnpaaOpen
import Derived.WalkKit
import Derived.ProofKit
import Derived.OpenShut
import Derived.ShutString
import Derived.ChangeOld
import Derived.Below
import Derived.SizedLaws
namespace Go.Proofs.Ytbcbfmhcoemnpaa.regsHidesX
open Go.ChangeShapes Go.WideShapes Go.ChangeAt Go.RowKit Go.Proofs.Ytbcbfmhcoemnpaa.Open Go.Proofs.Ytbcbfmhcoemnpaa.XRH Go.Proofs.YtbcbfmhcoemnpaaW.PrintWords Go.Proofs.Ytbcbfmhcoemnpaa.Ext
open Go.ChangeMaps (open_string shut_string)
set_option linter.unusedVariables false
set_option linter.unusedSimpArgs false
theorem own : ownKnob Try.prog.godebug = none := by kernel_rfl
theorem laidOut : laidOutB Try.prog = true := by kernel_rfl
def G58 (b : S58) : Prop := (fun x => (fun n => (Lit.int .u64 n).wf = true) x.1 ∧ (fun n => (Lit.int .i64 n).wf = true) x.2) ((fun x : S58 => (x.f0, x.f1)) b)
theorem opens58 : Opens Try.prog 58 k58 G58 := opens_iso (fun x : S58 => (x.f0, x.f1)) (fun p => ⟨p.1, p.2⟩) (fun _ => rfl) (opens_struct Try.underlying58 (by kernel_rfl) (opensAt_cons (off := 0) (off' := 1) rfl rfl (opens_int (k := .u64) Try.underlying40 (by kernel_rfl)) (opensAt_last (off := 1) rfl (opens_int (k := .i64) Try.underlying3 (by kernel_rfl)))))
def G29 (b : S29) : Prop := (fun x => (fun s => s.size ≤ maxLen) x.1 ∧ (fun xs => xs.length ≤ maxLen ∧ ∀ x ∈ xs, G58 x) x.2) ((fun x : S29 => (x.f0, x.f1)) b)
theorem opens29 : Opens Try.prog 29 k29 G29 := opens_iso (fun x : S29 => (x.f0, x.f1)) (fun p => ⟨p.1, p.2⟩) (fun _ => rfl) (opens_struct Try.underlying29 (by kernel_rfl) (opensAt_cons (off := 0) (off' := 1) rfl rfl (opens_string Try.underlying9 (by kernel_rfl)) (opensAt_last (off := 1) rfl (opens_slice Try.underlying27 (by kernel_rfl) opens58))))
def G33 (b : S33) : Prop := (fun x => G29 x.1 ∧ (fun _ => True) x.2) ((fun x : S33 => (x.f0, x.f1)) b)
theorem opens33 : Opens Try.prog 33 k33 G33 := opens_iso (fun x : S33 => (x.f0, x.f1)) (fun p => ⟨p.1, p.2⟩) (fun _ => rfl) (opens_struct Try.underlying33 (by kernel_rfl) (opensAt_cons (off := 0) (off' := 2) (G := G29) rfl rfl opens29 (opensAt_last (off := 2) rfl (opens_bool Try.underlying4 (by kernel_rfl)))))
def G42 (b : S42) : Prop := (fun x => (fun n => (Lit.int .i32 n).wf = true) x.1 ∧ (fun x => G33 x.1 ∧ (fun x => (fun _ => True) x.1 ∧ (fun _ => True) x.2) x.2) x.2) ((fun x : S42 => (x.f0, x.f1, x.f2, x.f3)) b)
theorem opens42 : Opens Try.prog 42 k42 G42 := opens_iso (fun x : S42 => (x.f0, x.f1, x.f2, x.f3)) (fun p => ⟨p.1, p.2.1, p.2.2.1, p.2.2.2⟩) (fun _ => rfl) (opens_struct Try.underlying42 (by kernel_rfl) (opensAt_cons (off := 0) (off' := 1) rfl rfl (opens_int (k := .i32) Try.underlying21 (by kernel_rfl)) (opensAt_cons (off := 1) (off' := 4) (G := G33) rfl rfl opens33 (opensAt_cons (off := 4) (off' := 5) rfl rfl (opens_bool Try.underlying4 (by kernel_rfl)) (opensAt_last (off := 5) rfl (opens_bool Try.underlying4 (by kernel_rfl)))))))
set_option maxRecDepth 100000 in
set_option maxHeartbeats 1000000 in
theorem lifted (os : Os) (started : os.Started) (H : Type) (enc : TypeId × Value → H) :
    ReturnsInHanded {} Try.checked os 4 .any (Rows.regsHidesSpec.pre6 enc Try.prog Try.f4 Rows.regsHidesRow.domain false) (Rows.regsHidesSpec.post enc Try.prog Try.f4 false true false false) := by
  refine returnsInHanded_of_change_sized (C := Try.checked) own started (by kernel_rfl) Try.func4
    (ChangeSpec.witness6 (enc := enc) (C := Try.checked) false ⟨#[], #[.slice none 0 0, .string ByteArray.empty, .int .u64 0], []⟩ 8 (by kernel_rfl) (by kernel_rfl) (by kernel_rfl) (by kernel_rfl)) ?_
  intro W base args ds gs before hval0 hW hcnd hsz0 _
  have hval : ∀ (j : Nat) t v, Try.f4.params[j]? = some t → args[j]? = some v → Value.okWide Try.prog W .any base t v := hval0
  have hW' := hW
  obtain ⟨p, q, hA0, hV, rfl, hfz, hnd⟩ := hW
  have hA : DataW.TrodAll enc Try.prog W 0 (fun _ => true) true Try.f4.params.toList args.toList ds p := hA0
  rw [Try.params4] at hA hval
  obtain ⟨v0, vs0, d0, ds0, p0, q0, hargs, rfl, rfl, h0, r0⟩ := trodAll_cons hA
  obtain ⟨v1, vs1, d1, ds1, p1, q1, rfl, rfl, rfl, h1, r1⟩ := trodAll_cons r0
  obtain ⟨v2, vs2, d2, ds2, p2, q2, rfl, rfl, rfl, h2, r2⟩ := trodAll_cons r1
  obtain ⟨rfl, rfl, rfl⟩ := trodAll_nil r2
  obtain rfl : args = #[v0, v1, v2] := by cases args; simp_all
  obtain ⟨rfl, rfl⟩ := trodVars_none hV
  have k0 := h0
  have lt0 : ∀ x ∈ p0, x.block < W.heap.size := by obtain ⟨m, hm⟩ := k0; exact DataW.trod_lt m _ _ _ hm
  obtain ⟨a0, len0, cap0, rfl⟩ := okWide_slice Try.underlying38 (hval 0 38 v0 rfl rfl)
  obtain ⟨fu0, hf0⟩ := h0
  obtain ⟨l0, ⟨A0, c0, hs0, hc0, hr0⟩, hG0⟩ := ((opens_slice Try.underlying38 (by kernel_rfl) opens42) : Opens Try.prog 38 (Kd.slice 42 k42) (fun xs => xs.length ≤ maxLen ∧ ∀ x ∈ xs, G42 x)).op hf0
  simp only [Value.cells, List.cons.injEq, and_true, Value.slice.injEq] at hs0
  obtain ⟨rfl, rfl, rfl⟩ := hs0
  have k1 := h1
  have lt1 : ∀ x ∈ p1, x.block < W.heap.size := by obtain ⟨m, hm⟩ := k1; exact DataW.trod_lt m _ _ _ hm
  obtain ⟨fu1, hf1⟩ := h1
  obtain ⟨a1, rfl, rfl, rfl, hG1⟩ := open_string Try.underlying9 (hval 1 9 v1 rfl rfl) k1
  have k2 := h2
  have lt2 : ∀ x ∈ p2, x.block < W.heap.size := by obtain ⟨m, hm⟩ := k2; exact DataW.trod_lt m _ _ _ hm
  obtain ⟨fu2, hf2⟩ := h2
  obtain ⟨a2, rfl, rfl, rfl, hG2⟩ := open_int Try.underlying40 (hval 2 40 v2 rfl rfl) k2
  clear hA0 hval0 hsz0
  have hpure := Pure.RegsHides l0 a1 a2
  have hp := hpure (by first | assumption | (simp only [and_assoc, and_true, true_and, G58, G29, G33, G42] at *; first | assumption | exact hG0.2 | exact hG1.2 | exact hG2.2 | (simp_all; done))) (by first | assumption | (simp only [and_assoc, and_true, true_and, G58, G29, G33, G42] at *; first | assumption | exact hG0.2 | exact hG1.2 | exact hG2.2 | (simp_all; done))) (by first | assumption | (simp only [and_assoc, and_true, true_and, G58, G29, G33, G42] at *; first | assumption | exact hG0.2 | exact hG1.2 | exact hG2.2 | (simp_all; done))) (by first | assumption | (simp only [and_assoc, and_true, true_and, G58, G29, G33, G42] at *; first | assumption | exact hG0.2 | exact hG1.2 | exact hG2.2 | (simp_all; done)))
  refine (bureaulaw09_RegsHides.calls _ _ l0 a1 a2 true W hr0 hc0 hp).mono fun e W' ⟨he, hd⟩ => ?_
  have bel : Below W.heap.size W W' := hd
  subst he
  exact ⟨_, rfl, _, _, _, [], _, [], hW', trodAll_mk1 (shut_bool Try.underlying4 _), (trodAll_cons_mk (Below.trod laidOut (by kernel_rfl) (of_decide_eq_true (by kernel_rfl)) k0 bel lt0) (trodAll_cons_mk (Below.trod laidOut (by kernel_rfl) (of_decide_eq_true (by kernel_rfl)) k1 bel lt1) (trodAll_cons_mk (Below.trod laidOut (by kernel_rfl) (of_decide_eq_true (by kernel_rfl)) k2 bel lt2) trodAll_mk0))), rfl, bel.frame _, fun h => by cases h⟩
theorem over : Rows.regsHidesRow.holds Try.pinned (OpenSpec.ofChange Rows.regsHidesSpec) :=
  OpenClaim.holds_of_wide 4 Try.f4 rfl rfl rfl rfl rfl rfl rfl ⟨rfl, rfl, rfl, rfl, rfl⟩ rfl rfl rfl rfl rfl (by kernel_rfl) Try.func4 (by kernel_rfl)
    (of_decide_eq_true (by kernel_rfl)) (by unfold Func.isWrapper; first | (rw [if_pos (by decide +kernel)]; kernel_rfl) | (rw [if_neg (by decide +kernel)]; exact ⟨rfl, rfl⟩))
    (fun os started H enc _ => lifted os started H enc)
theorem proved : Rows.RegsHidesSaid := over
#print axioms proved
end Go.Proofs.Ytbcbfmhcoemnpaa.regsHidesX
namespace Go.Proofs.Ytbcbfmhcoemnpaa
/-- The row, under a short name, for the claim. -/
theorem regsHides_holds : Rows.RegsHidesSaid := regsHidesX.proved
end Go.Proofs.Ytbcbfmhcoemnpaa
