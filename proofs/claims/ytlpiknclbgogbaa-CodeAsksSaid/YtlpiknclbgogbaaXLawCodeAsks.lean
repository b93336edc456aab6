-- The row of bureaulaw21_CodeAsks, out of its pure statement and its walk. Written by this session's program.
import Derived.Test.YtlpiknclbgogbaaRows
import Derived.Test.YtlpiknclbgogbaaXCodeAsksx5
import Derived.Test.YtlpiknclbgogbaaXPureCodeAsks
import Derived.Test.YtlpiknclbgogbaaOpen
import Derived.WalkKit
import Derived.ProofKit
import Derived.OpenShut
import Derived.ShutString
import Derived.ChangeOld
import Derived.Below
import Derived.SizedLaws
namespace Go.Proofs.Ytlpiknclbgogbaa.codeAsksX
open Go.ChangeShapes Go.WideShapes Go.ChangeAt Go.RowKit Go.Proofs.Ytlpiknclbgogbaa.Open Go.Proofs.Ytlpiknclbgogbaa.XCodeAsks Go.Proofs.YtlpiknclbgogbaaW.PrintWords
open Go.ChangeMaps (open_string shut_string)
set_option linter.unusedVariables false
set_option linter.unusedSimpArgs false
theorem own : ownKnob Try.prog.godebug = none := by kernel_rfl
theorem laidOut : laidOutB Try.prog = true := by kernel_rfl
theorem opens36 : Opens Try.prog 36 (Kd.pair (Kd.int .i64) (Kd.int .i64)) (fun x => (fun n => (Lit.int .i64 n).wf = true) x.1 ∧ (fun n => (Lit.int .i64 n).wf = true) x.2) := (opens_struct Try.underlying36 (by kernel_rfl) (opensAt_cons (off := 0) (off' := 1) rfl rfl (opens_int (k := .i64) Try.underlying3 (by kernel_rfl)) (opensAt_last (off := 1) rfl (opens_int (k := .i64) Try.underlying3 (by kernel_rfl)))))
set_option maxRecDepth 100000 in
set_option maxHeartbeats 1000000 in
theorem lifted (os : Os) (started : os.Started) (H : Type) (enc : TypeId × Value → H) :
    ReturnsInHanded {} Try.checked os 5 .any (Rows.codeAsksSpec.pre6 enc Try.prog Try.f5 Rows.codeAsksRow.domain false) (Rows.codeAsksSpec.post enc Try.prog Try.f5 false true false false) := by
  refine returnsInHanded_of_change_sized (C := Try.checked) own started (by kernel_rfl) Try.func5
    (ChangeSpec.witness6 (enc := enc) (C := Try.checked) false ⟨#[], #[.agg #[.int .i64 0, .int .i64 0]], []⟩ 8 (by kernel_rfl) (by kernel_rfl) (by kernel_rfl) (by kernel_rfl)) ?_
  intro W base args ds gs before hval0 hW hcnd hsz0 _
  have hval : ∀ (j : Nat) t v, Try.f5.params[j]? = some t → args[j]? = some v → Value.okWide Try.prog W .any base t v := hval0
  have hW' := hW
  obtain ⟨p, q, hA0, hV, rfl, hfz, hnd⟩ := hW
  have hA : DataW.TrodAll enc Try.prog W 0 (fun _ => true) true Try.f5.params.toList args.toList ds p := hA0
  rw [Try.params5] at hA hval
  obtain ⟨v0, vs0, d0, ds0, p0, q0, hargs, rfl, rfl, h0, r0⟩ := trodAll_cons hA
  obtain ⟨rfl, rfl, rfl⟩ := trodAll_nil r0
  obtain rfl : args = #[v0] := by cases args; simp_all
  obtain ⟨rfl, rfl⟩ := trodVars_none hV
  have k0 := h0
  have lt0 : ∀ x ∈ p0, x.block < W.heap.size := by obtain ⟨m, hm⟩ := k0; exact DataW.trod_lt m _ _ _ hm
  obtain ⟨cs0, rfl, _⟩ := okWide_struct Try.underlying36 (hval 0 36 v0 rfl rfl)
  obtain ⟨fu0, hf0⟩ := h0
  obtain ⟨x0, hK0, hG0⟩ := opens36.op hf0
  obtain ⟨l0, hl0⟩ : ∃ l, cs0.toList = l := ⟨_, rfl⟩
  obtain rfl : cs0 = l0.toArray := by rw [← hl0]
  simp only [Value.cells] at hK0
  obtain ⟨_, _, rfl, rfl, rfl⟩ := hK0
  clear hA0 hval0 hsz0
  have hpure := Pure.CodeAsks x0.1 x0.2
  obtain ⟨k, hp⟩ := hpure (by first | assumption | (simp only [and_assoc] at *; first | assumption | (simp_all; done))) (by first | assumption | (simp only [and_assoc] at *; first | assumption | (simp_all; done)))
  refine (bureaulaw21_CodeAsks.calls k x0.1 x0.2 true W  hp).mono fun e W' ⟨he, hd⟩ => ?_
  have bel : Below W.heap.size W W' := hd
  subst he
  exact ⟨_, rfl, _, _, _, [], _, [], hW', trodAll_mk1 (shut_bool Try.underlying4 _), (trodAll_cons_mk (Below.trod laidOut (by kernel_rfl) (of_decide_eq_true (by kernel_rfl)) k0 bel lt0) trodAll_mk0), rfl, bel.frame _, fun h => by cases h⟩
theorem over : Rows.codeAsksRow.holds Try.pinned (OpenSpec.ofChange Rows.codeAsksSpec) :=
  OpenClaim.holds_of_wide 5 Try.f5 rfl rfl rfl rfl rfl rfl rfl ⟨rfl, rfl, rfl, rfl, rfl⟩ rfl rfl rfl rfl rfl (by kernel_rfl) Try.func5 (by kernel_rfl)
    (of_decide_eq_true (by kernel_rfl)) (by unfold Func.isWrapper; first | (rw [if_pos (by decide +kernel)]; kernel_rfl) | (rw [if_neg (by decide +kernel)]; exact ⟨rfl, rfl⟩))
    (fun os started H enc _ => lifted os started H enc)
theorem proved : Rows.CodeAsksSaid := over
#print axioms proved
end Go.Proofs.Ytlpiknclbgogbaa.codeAsksX
namespace Go.Proofs.Ytlpiknclbgogbaa
/-- The row, under a short name, for the claim. -/
theorem codeAsks_holds : Rows.CodeAsksSaid := codeAsksX.proved
end Go.Proofs.Ytlpiknclbgogbaa
