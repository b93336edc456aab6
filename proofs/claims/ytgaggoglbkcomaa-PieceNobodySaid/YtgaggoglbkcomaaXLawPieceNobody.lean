-- The row of bureaulaw05_PieceNobody, out of its pure statement and its walk. Written by this session's program.
import Derived.Test.YtgaggoglbkcomaaRows
import Derived.Test.YtgaggoglbkcomaaXPNx1
import Derived.Test.YtgaggoglbkcomaaXPurePieceNobody
import Derived.Test.YtgaggoglbkcomaaOpen
import Derived.WalkKit
import Derived.ProofKit
import Derived.OpenShut
import Derived.ShutString
import Derived.ChangeOld
import Derived.Below
import Derived.SizedLaws
namespace Go.Proofs.Ytgaggoglbkcomaa.pieceNobodyX
open Go.ChangeShapes Go.WideShapes Go.ChangeAt Go.RowKit Go.Proofs.Ytgaggoglbkcomaa.Open Go.Proofs.Ytgaggoglbkcomaa.XPN Go.Proofs.YtgaggoglbkcomaaW.PrintWords Go.Proofs.Ytgaggoglbkcomaa.Ext Go.Proofs.Ytgaggoglbkcomaa.XRR
open Go.ChangeMaps (open_string shut_string)
set_option linter.unusedVariables false
set_option linter.unusedSimpArgs false
theorem own : ownKnob Try.prog.godebug = none := by kernel_rfl
theorem laidOut : laidOutB Try.prog = true := by kernel_rfl
def G29 (b : S29) : Prop := (fun x => (fun n => (Lit.int .u64 n).wf = true) x.1 ∧ (fun n => (Lit.int .i64 n).wf = true) x.2) ((fun x : S29 => (x.f0, x.f1)) b)
theorem opens29 : Opens Try.prog 29 k29 G29 := opens_iso (fun x : S29 => (x.f0, x.f1)) (fun p => ⟨p.1, p.2⟩) (fun _ => rfl) (opens_struct Try.underlying29 (by kernel_rfl) (opensAt_cons (off := 0) (off' := 1) rfl rfl (opens_int (k := .u64) Try.underlying27 (by kernel_rfl)) (opensAt_last (off := 1) rfl (opens_int (k := .i64) Try.underlying3 (by kernel_rfl)))))
set_option maxRecDepth 100000 in
theorem opens24 : Opens Try.prog 24 (Kd.pair Kd.string (Kd.slice 29 k29)) (fun x => (fun s => s.size ≤ maxLen) x.1 ∧ (fun xs => xs.length ≤ maxLen ∧ ∀ x ∈ xs, G29 x) x.2) := (opens_struct Try.underlying24 (by kernel_rfl) (opensAt_cons (off := 0) (off' := 1) (d := Kd.string) (G := (fun s => s.size ≤ maxLen)) rfl rfl (opens_string Try.underlying9 (by kernel_rfl)) (opensAt_last (off := 1) rfl (opens_slice Try.underlying22 (by kernel_rfl) opens29))))
set_option maxRecDepth 100000 in
theorem opens48 : Opens Try.prog 48 (Kd.pair (Kd.int .i64) (Kd.pair (Kd.int .i64) (Kd.pair (Kd.pair Kd.string (Kd.slice 29 k29)) (Kd.pair Kd.bool Kd.bool)))) (fun x => (fun n => (Lit.int .i64 n).wf = true) x.1 ∧ (fun x => (fun n => (Lit.int .i64 n).wf = true) x.1 ∧ (fun x => (fun x => (fun s => s.size ≤ maxLen) x.1 ∧ (fun xs => xs.length ≤ maxLen ∧ ∀ x ∈ xs, G29 x) x.2) x.1 ∧ (fun x => (fun _ => True) x.1 ∧ (fun _ => True) x.2) x.2) x.2) x.2) := (opens_struct Try.underlying48 (by kernel_rfl) (opensAt_cons (off := 0) (off' := 1) (d := Kd.int .i64) (G := (fun n => (Lit.int .i64 n).wf = true)) rfl rfl (opens_int (k := .i64) Try.underlying3 (by kernel_rfl)) (opensAt_cons (off := 1) (off' := 2) (d := Kd.int .i64) (G := (fun n => (Lit.int .i64 n).wf = true)) rfl rfl (opens_int (k := .i64) Try.underlying3 (by kernel_rfl)) (opensAt_cons (off := 2) (off' := 4) (d := (Kd.pair Kd.string (Kd.slice 29 k29))) (G := (fun x => (fun s => s.size ≤ maxLen) x.1 ∧ (fun xs => xs.length ≤ maxLen ∧ ∀ x ∈ xs, G29 x) x.2)) rfl rfl opens24 (opensAt_cons (off := 4) (off' := 5) (d := Kd.bool) (G := (fun _ => True)) rfl rfl (opens_bool Try.underlying4 (by kernel_rfl)) (opensAt_last (off := 5) (d := Kd.bool) (G := (fun _ => True)) rfl (opens_bool Try.underlying4 (by kernel_rfl))))))))
set_option maxRecDepth 100000 in
set_option maxHeartbeats 1000000 in
theorem lifted (os : Os) (started : os.Started) (H : Type) (enc : TypeId × Value → H) :
    ReturnsInHanded {} Try.checked os 8 .any (Rows.pieceNobodySpec.pre6 enc Try.prog Try.f8 Rows.pieceNobodyRow.domain false) (Rows.pieceNobodySpec.post enc Try.prog Try.f8 false true false false) := by
  refine returnsInHanded_of_change_sized (C := Try.checked) own started (by kernel_rfl) Try.func8
    (ChangeSpec.witness6 (enc := enc) (C := Try.checked) false ⟨#[], #[.agg #[.int .i64 0, .int .i64 0, .string ByteArray.empty, .slice none 0 0, .bool false, .bool false]], []⟩ 8 (by kernel_rfl) (by kernel_rfl) (by kernel_rfl) (by kernel_rfl)) ?_
  intro W base args ds gs before hval0 hW hcnd hsz0 _
  have hval : ∀ (j : Nat) t v, Try.f8.params[j]? = some t → args[j]? = some v → Value.okWide Try.prog W .any base t v := hval0
  have hW' := hW
  obtain ⟨p, q, hA0, hV, rfl, hfz, hnd⟩ := hW
  have hA : DataW.TrodAll enc Try.prog W 0 (fun _ => true) true Try.f8.params.toList args.toList ds p := hA0
  rw [Try.params8] at hA hval
  obtain ⟨v0, vs0, d0, ds0, p0, q0, hargs, rfl, rfl, h0, r0⟩ := trodAll_cons hA
  obtain ⟨rfl, rfl, rfl⟩ := trodAll_nil r0
  obtain rfl : args = #[v0] := by cases args; simp_all
  obtain ⟨rfl, rfl⟩ := trodVars_none hV
  have k0 := h0
  have lt0 : ∀ x ∈ p0, x.block < W.heap.size := by obtain ⟨m, hm⟩ := k0; exact DataW.trod_lt m _ _ _ hm
  obtain ⟨cs0, rfl, _⟩ := okWide_struct Try.underlying48 (hval 0 48 v0 rfl rfl)
  obtain ⟨fu0, hf0⟩ := h0
  obtain ⟨x0, hK0, hG0⟩ := opens48.op hf0
  obtain ⟨l0, hl0⟩ : ∃ l, cs0.toList = l := ⟨_, rfl⟩
  obtain rfl : cs0 = l0.toArray := by rw [← hl0]
  simp only [Value.cells] at hK0
  obtain ⟨_, _, rfl, rfl, ⟨_, _, rfl, rfl, ⟨_, _, rfl, ⟨_, _, rfl, rfl, ⟨A101, c101, rfl, hc101, hr101⟩⟩, ⟨_, _, rfl, rfl, rfl⟩⟩⟩⟩ := hK0
  clear hA0 hval0 hsz0
  have hpure := Pure.PieceNobody x0.1 x0.2.1 x0.2.2.1.1 x0.2.2.1.2 x0.2.2.2.1 x0.2.2.2.2
  have hp := hpure (by first | assumption | (simp only [and_assoc, and_true, true_and, G29] at *; first | assumption | exact hG0.2 | exact hG1.2 | exact hG2.2 | (simp_all; done))) (by first | assumption | (simp only [and_assoc, and_true, true_and, G29] at *; first | assumption | exact hG0.2 | exact hG1.2 | exact hG2.2 | (simp_all; done))) (by first | assumption | (simp only [and_assoc, and_true, true_and, G29] at *; first | assumption | exact hG0.2 | exact hG1.2 | exact hG2.2 | (simp_all; done))) (by first | assumption | (simp only [and_assoc, and_true, true_and, G29] at *; first | assumption | exact hG0.2 | exact hG1.2 | exact hG2.2 | (simp_all; done))) (by first | assumption | (simp only [and_assoc, and_true, true_and, G29] at *; first | assumption | exact hG0.2 | exact hG1.2 | exact hG2.2 | (simp_all; done)))
  refine (bureaulaw05_PieceNobody.calls x0.1 x0.2.1 x0.2.2.1.1 A101 c101 x0.2.2.1.2 x0.2.2.2.1 x0.2.2.2.2 true W hr101 hc101 hp).mono fun e W' ⟨he, hd⟩ => ?_
  have bel : Below W.heap.size W W' := hd
  subst he
  exact ⟨_, rfl, _, _, _, [], _, [], hW', trodAll_mk1 (shut_bool Try.underlying4 _), (trodAll_cons_mk (Below.trod laidOut (by kernel_rfl) (of_decide_eq_true (by kernel_rfl)) k0 bel lt0) trodAll_mk0), rfl, bel.frame _, fun h => by cases h⟩
theorem over : Rows.pieceNobodyRow.holds Try.pinned (OpenSpec.ofChange Rows.pieceNobodySpec) :=
  OpenClaim.holds_of_wide 8 Try.f8 rfl rfl rfl rfl rfl rfl rfl ⟨rfl, rfl, rfl, rfl, rfl⟩ rfl rfl rfl rfl rfl (by kernel_rfl) Try.func8 (by kernel_rfl)
    (of_decide_eq_true (by kernel_rfl)) (by unfold Func.isWrapper; first | (rw [if_pos (by decide +kernel)]; kernel_rfl) | (rw [if_neg (by decide +kernel)]; exact ⟨rfl, rfl⟩))
    (fun os started H enc _ => lifted os started H enc)
theorem proved : Rows.PieceNobodySaid := over
#print axioms proved
end Go.Proofs.Ytgaggoglbkcomaa.pieceNobodyX
namespace Go.Proofs.Ytgaggoglbkcomaa
/-- The row, under a short name, for the claim. -/
theorem pieceNobody_holds : Rows.PieceNobodySaid := pieceNobodyX.proved
end Go.Proofs.Ytgaggoglbkcomaa
