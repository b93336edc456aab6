-- The row of bureaulaw05_PieceCopies, out of its pure statement and its walk. Written by this session's program.
import Derived.Test.YtgaggoglbkcomaaRows
import Derived.Test.YtgaggoglbkcomaaXPCx1
import Derived.Test.YtgaggoglbkcomaaXPurePieceCopies
import Derived.Test.YtgaggoglbkcomaaOpen
import Derived.WalkKit
import Derived.ProofKit
import Derived.OpenShut
import Derived.ShutString
import Derived.ChangeOld
import Derived.Below
import Derived.SizedLaws
namespace Go.Proofs.Ytgaggoglbkcomaa.pieceCopiesX
open Go.ChangeShapes Go.WideShapes Go.ChangeAt Go.RowKit Go.Proofs.Ytgaggoglbkcomaa.Open Go.Proofs.Ytgaggoglbkcomaa.XPC Go.Proofs.YtgaggoglbkcomaaW.PrintWords Go.Proofs.Ytgaggoglbkcomaa.Ext Go.Proofs.Ytgaggoglbkcomaa.XRR
open Go.ChangeMaps (open_string shut_string)
set_option linter.unusedVariables false
set_option linter.unusedSimpArgs false
theorem own : ownKnob Try.prog.godebug = none := by kernel_rfl
theorem laidOut : laidOutB Try.prog = true := by kernel_rfl
def G29 (b : S29) : Prop := (fun x => (fun n => (Lit.int .u64 n).wf = true) x.1 ∧ (fun n => (Lit.int .i64 n).wf = true) x.2) ((fun x : S29 => (x.f0, x.f1)) b)
theorem opens29 : Opens Try.prog 29 k29 G29 := opens_iso (fun x : S29 => (x.f0, x.f1)) (fun p => ⟨p.1, p.2⟩) (fun _ => rfl) (opens_struct Try.underlying29 (by kernel_rfl) (opensAt_cons (off := 0) (off' := 1) (d := (Kd.int .u64)) (G := (fun n => (Lit.int .u64 n).wf = true)) rfl rfl (opens_int (k := .u64) Try.underlying27 (by kernel_rfl)) (opensAt_last (off := 1) (d := (Kd.int .i64)) (G := (fun n => (Lit.int .i64 n).wf = true)) rfl (opens_int (k := .i64) Try.underlying3 (by kernel_rfl)))))
def G24 (b : S24) : Prop := (fun x => (fun s => s.size ≤ maxLen) x.1 ∧ (fun xs => xs.length ≤ maxLen ∧ ∀ x ∈ xs, G29 x) x.2) ((fun x : S24 => (x.f0, x.f1)) b)
theorem opens24 : Opens Try.prog 24 k24 G24 := opens_iso (fun x : S24 => (x.f0, x.f1)) (fun p => ⟨p.1, p.2⟩) (fun _ => rfl) (opens_struct Try.underlying24 (by kernel_rfl) (opensAt_cons (off := 0) (off' := 1) (d := Kd.string) (G := (fun s => s.size ≤ maxLen)) rfl rfl (opens_string Try.underlying9 (by kernel_rfl)) (opensAt_last (off := 1) rfl (opens_slice Try.underlying22 (by kernel_rfl) opens29))))
def G48 (b : S48) : Prop := (fun x => (fun n => (Lit.int .i64 n).wf = true) x.1 ∧ (fun x => (fun n => (Lit.int .i64 n).wf = true) x.1 ∧ (fun x => G24 x.1 ∧ (fun x => (fun _ => True) x.1 ∧ (fun _ => True) x.2) x.2) x.2) x.2) ((fun x : S48 => (x.f0, x.f1, x.f2, x.f3, x.f4)) b)
theorem opens48 : Opens Try.prog 48 k48 G48 := opens_iso (fun x : S48 => (x.f0, x.f1, x.f2, x.f3, x.f4)) (fun p => ⟨p.1, p.2.1, p.2.2.1, p.2.2.2.1, p.2.2.2.2⟩) (fun _ => rfl) (opens_struct Try.underlying48 (by kernel_rfl) (opensAt_cons (off := 0) (off' := 1) (d := (Kd.int .i64)) (G := (fun n => (Lit.int .i64 n).wf = true)) rfl rfl (opens_int (k := .i64) Try.underlying3 (by kernel_rfl)) (opensAt_cons (off := 1) (off' := 2) (d := (Kd.int .i64)) (G := (fun n => (Lit.int .i64 n).wf = true)) rfl rfl (opens_int (k := .i64) Try.underlying3 (by kernel_rfl)) (opensAt_cons (off := 2) (off' := 4) (d := k24) (G := G24) rfl rfl opens24 (opensAt_cons (off := 4) (off' := 5) (d := Kd.bool) (G := (fun _ => True)) rfl rfl (opens_bool Try.underlying4 (by kernel_rfl)) (opensAt_last (off := 5) (d := Kd.bool) (G := (fun _ => True)) rfl (opens_bool Try.underlying4 (by kernel_rfl))))))))
set_option maxRecDepth 100000 in
set_option maxHeartbeats 1000000 in
theorem lifted (os : Os) (started : os.Started) (H : Type) (enc : TypeId × Value → H) :
    ReturnsInHanded {} Try.checked os 7 .any (Rows.pieceCopiesSpec.pre6 enc Try.prog Try.f7 Rows.pieceCopiesRow.domain false) (Rows.pieceCopiesSpec.post enc Try.prog Try.f7 false true false false) := by
  refine returnsInHanded_of_change_sized (C := Try.checked) own started (by kernel_rfl) Try.func7
    (ChangeSpec.witness6 (enc := enc) (C := Try.checked) false ⟨#[], #[.slice none 0 0], []⟩ 8 (by kernel_rfl) (by kernel_rfl) (by kernel_rfl) (by kernel_rfl)) ?_
  intro W base args ds gs before hval0 hW hcnd hsz0 _
  have hval : ∀ (j : Nat) t v, Try.f7.params[j]? = some t → args[j]? = some v → Value.okWide Try.prog W .any base t v := hval0
  have hW' := hW
  obtain ⟨p, q, hA0, hV, rfl, hfz, hnd⟩ := hW
  have hA : DataW.TrodAll enc Try.prog W 0 (fun _ => true) true Try.f7.params.toList args.toList ds p := hA0
  rw [Try.params7] at hA hval
  obtain ⟨v0, vs0, d0, ds0, p0, q0, hargs, rfl, rfl, h0, r0⟩ := trodAll_cons hA
  obtain ⟨rfl, rfl, rfl⟩ := trodAll_nil r0
  obtain rfl : args = #[v0] := by cases args; simp_all
  obtain ⟨rfl, rfl⟩ := trodVars_none hV
  have k0 := h0
  have lt0 : ∀ x ∈ p0, x.block < W.heap.size := by obtain ⟨m, hm⟩ := k0; exact DataW.trod_lt m _ _ _ hm
  obtain ⟨a0, len0, cap0, rfl⟩ := okWide_slice Try.underlying46 (hval 0 46 v0 rfl rfl)
  obtain ⟨fu0, hf0⟩ := h0
  obtain ⟨l0, ⟨A0, c0, hs0, hc0, hr0⟩, hG0⟩ := ((opens_slice Try.underlying46 (by kernel_rfl) opens48) : Opens Try.prog 46 (Kd.slice 48 k48) (fun xs => xs.length ≤ maxLen ∧ ∀ x ∈ xs, G48 x)).op hf0
  simp only [Value.cells, List.cons.injEq, and_true, Value.slice.injEq] at hs0
  obtain ⟨rfl, rfl, rfl⟩ := hs0
  clear hA0 hval0 hsz0
  have hpure := Pure.PieceCopies l0
  have hp := hpure (by first | assumption | (simp only [and_assoc, and_true, true_and, G29, G24, G48] at *; first | assumption | exact hG0.2 | exact hG1.2 | exact hG2.2 | (simp_all; done))) (by first | assumption | (simp only [and_assoc, and_true, true_and, G29, G24, G48] at *; first | assumption | exact hG0.2 | exact hG1.2 | exact hG2.2 | (simp_all; done)))
  refine (bureaulaw05_PieceCopies.calls _ _ l0 true W hr0 hc0 hp).mono fun e W' ⟨he, hd⟩ => ?_
  have bel : Below W.heap.size W W' := hd
  subst he
  exact ⟨_, rfl, _, _, _, [], _, [], hW', trodAll_mk1 (shut_bool Try.underlying4 _), (trodAll_cons_mk (Below.trod laidOut (by kernel_rfl) (of_decide_eq_true (by kernel_rfl)) k0 bel lt0) trodAll_mk0), rfl, bel.frame _, fun h => by cases h⟩
theorem over : Rows.pieceCopiesRow.holds Try.pinned (OpenSpec.ofChange Rows.pieceCopiesSpec) :=
  OpenClaim.holds_of_wide 7 Try.f7 rfl rfl rfl rfl rfl rfl rfl ⟨rfl, rfl, rfl, rfl, rfl⟩ rfl rfl rfl rfl rfl (by kernel_rfl) Try.func7 (by kernel_rfl)
    (of_decide_eq_true (by kernel_rfl)) (by unfold Func.isWrapper; first | (rw [if_pos (by decide +kernel)]; kernel_rfl) | (rw [if_neg (by decide +kernel)]; exact ⟨rfl, rfl⟩))
    (fun os started H enc _ => lifted os started H enc)
theorem proved : Rows.PieceCopiesSaid := over
#print axioms proved
end Go.Proofs.Ytgaggoglbkcomaa.pieceCopiesX
namespace Go.Proofs.Ytgaggoglbkcomaa
/-- The row, under a short name, for the claim. -/
theorem pieceCopies_holds : Rows.PieceCopiesSaid := pieceCopiesX.proved
end Go.Proofs.Ytgaggoglbkcomaa
