-- The row of bureaulaw05_PieceActs, out of its pure statement and its walk. Written by this session's program.
import Derived.Test.YtgaggoglbkcomaaRows
import Derived.Test.YtgaggoglbkcomaaXPAx1
import Derived.Test.YtgaggoglbkcomaaXPurePieceActs
import Derived.Test.YtgaggoglbkcomaaOpen
import Derived.WalkKit
import Derived.ProofKit
import Derived.OpenShut
import Derived.ShutString
import Derived.ChangeOld
import Derived.Below
import Derived.SizedLaws
namespace Go.Proofs.Ytgaggoglbkcomaa.pieceActsX
open Go.ChangeShapes Go.WideShapes Go.ChangeAt Go.RowKit Go.Proofs.Ytgaggoglbkcomaa.Open Go.Proofs.Ytgaggoglbkcomaa.XPA Go.Proofs.YtgaggoglbkcomaaW.PrintWords Go.Proofs.Ytgaggoglbkcomaa.Ext Go.Proofs.Ytgaggoglbkcomaa.XRR
open Go.ChangeMaps (open_string shut_string)
set_option linter.unusedVariables false
set_option linter.unusedSimpArgs false
theorem own : ownKnob Try.prog.godebug = none := by kernel_rfl
theorem laidOut : laidOutB Try.prog = true := by kernel_rfl
def G29 (b : S29) : Prop := (fun x => (fun n => (Lit.int .u64 n).wf = true) x.1 ∧ (fun n => (Lit.int .i64 n).wf = true) x.2) ((fun x : S29 => (x.f0, x.f1)) b)
theorem opens29 : Opens Try.prog 29 k29 G29 := opens_iso (fun x : S29 => (x.f0, x.f1)) (fun p => ⟨p.1, p.2⟩) (fun _ => rfl) (opens_struct Try.underlying29 (by kernel_rfl) (opensAt_cons (off := 0) (off' := 1) rfl rfl (opens_int (k := .u64) Try.underlying27 (by kernel_rfl)) (opensAt_last (off := 1) rfl (opens_int (k := .i64) Try.underlying3 (by kernel_rfl)))))
def G24 (b : S24) : Prop := (fun x => (fun s => s.size ≤ maxLen) x.1 ∧ (fun xs => xs.length ≤ maxLen ∧ ∀ x ∈ xs, G29 x) x.2) ((fun x : S24 => (x.f0, x.f1)) b)
theorem opens24 : Opens Try.prog 24 k24 G24 := opens_iso (fun x : S24 => (x.f0, x.f1)) (fun p => ⟨p.1, p.2⟩) (fun _ => rfl) (opens_struct Try.underlying24 (by kernel_rfl) (opensAt_cons (off := 0) (off' := 1) rfl rfl (opens_string Try.underlying9 (by kernel_rfl)) (opensAt_last (off := 1) rfl (opens_slice Try.underlying22 (by kernel_rfl) opens29))))
def G48 (b : S48) : Prop := (fun x => (fun n => (Lit.int .i64 n).wf = true) x.1 ∧ (fun x => (fun n => (Lit.int .i64 n).wf = true) x.1 ∧ (fun x => G24 x.1 ∧ (fun x => (fun _ => True) x.1 ∧ (fun _ => True) x.2) x.2) x.2) x.2) ((fun x : S48 => (x.f0, x.f1, x.f2, x.f3, x.f4)) b)
theorem opens48 : Opens Try.prog 48 k48 G48 := opens_iso (fun x : S48 => (x.f0, x.f1, x.f2, x.f3, x.f4)) (fun p => ⟨p.1, p.2.1, p.2.2.1, p.2.2.2.1, p.2.2.2.2⟩) (fun _ => rfl) (opens_struct Try.underlying48 (by kernel_rfl) (opensAt_cons (off := 0) (off' := 1) rfl rfl (opens_int (k := .i64) Try.underlying3 (by kernel_rfl)) (opensAt_cons (off := 1) (off' := 2) rfl rfl (opens_int (k := .i64) Try.underlying3 (by kernel_rfl)) (opensAt_cons (off := 2) (off' := 4) (d := k24) (G := G24) rfl rfl opens24 (opensAt_cons (off := 4) (off' := 5) rfl rfl (opens_bool Try.underlying4 (by kernel_rfl)) (opensAt_last (off := 5) rfl (opens_bool Try.underlying4 (by kernel_rfl))))))))
set_option maxRecDepth 100000 in
set_option maxHeartbeats 1000000 in
theorem lifted (os : Os) (started : os.Started) (H : Type) (enc : TypeId × Value → H) :
    ReturnsInHanded {} Try.checked os 5 .any (Rows.pieceActsSpec.pre6 enc Try.prog Try.f5 Rows.pieceActsRow.domain false) (Rows.pieceActsSpec.post enc Try.prog Try.f5 false true false false) := by
  refine returnsInHanded_of_change_sized (C := Try.checked) own started (by kernel_rfl) Try.func5
    (ChangeSpec.witness6 (enc := enc) (C := Try.checked) false ⟨#[], #[.int .i64 0, .slice none 0 0], []⟩ 8 (by kernel_rfl) (by kernel_rfl) (by kernel_rfl) (by kernel_rfl)) ?_
  intro W base args ds gs before hval0 hW hcnd hsz0 _
  have hval : ∀ (j : Nat) t v, Try.f5.params[j]? = some t → args[j]? = some v → Value.okWide Try.prog W .any base t v := hval0
  have hW' := hW
  obtain ⟨p, q, hA0, hV, rfl, hfz, hnd⟩ := hW
  have hA : DataW.TrodAll enc Try.prog W 0 (fun _ => true) true Try.f5.params.toList args.toList ds p := hA0
  rw [Try.params5] at hA hval
  obtain ⟨v0, vs0, d0, ds0, p0, q0, hargs, rfl, rfl, h0, r0⟩ := trodAll_cons hA
  obtain ⟨v1, vs1, d1, ds1, p1, q1, rfl, rfl, rfl, h1, r1⟩ := trodAll_cons r0
  obtain ⟨rfl, rfl, rfl⟩ := trodAll_nil r1
  obtain rfl : args = #[v0, v1] := by cases args; simp_all
  obtain ⟨rfl, rfl⟩ := trodVars_none hV
  have k0 := h0
  have lt0 : ∀ x ∈ p0, x.block < W.heap.size := by obtain ⟨m, hm⟩ := k0; exact DataW.trod_lt m _ _ _ hm
  obtain ⟨fu0, hf0⟩ := h0
  obtain ⟨a0, rfl, rfl, rfl, hG0⟩ := open_int Try.underlying3 (hval 0 3 v0 rfl rfl) k0
  have k1 := h1
  have lt1 : ∀ x ∈ p1, x.block < W.heap.size := by obtain ⟨m, hm⟩ := k1; exact DataW.trod_lt m _ _ _ hm
  obtain ⟨a1, len1, cap1, rfl⟩ := okWide_slice Try.underlying46 (hval 1 46 v1 rfl rfl)
  obtain ⟨fu1, hf1⟩ := h1
  obtain ⟨l1, ⟨A1, c1, hs1, hc1, hr1⟩, hG1⟩ := ((opens_slice Try.underlying46 (by kernel_rfl) opens48) : Opens Try.prog 46 (Kd.slice 48 k48) (fun xs => xs.length ≤ maxLen ∧ ∀ x ∈ xs, G48 x)).op hf1
  simp only [Value.cells, List.cons.injEq, and_true, Value.slice.injEq] at hs1
  obtain ⟨rfl, rfl, rfl⟩ := hs1
  clear hA0 hval0 hsz0
  have hpure := Pure.PieceActs a0 l1
  have hp := hpure (by first | assumption | (simp only [and_assoc, and_true, true_and, G29, G24, G48] at *; first | assumption | exact hG0.2 | exact hG1.2 | exact hG2.2 | (simp_all; done))) (by first | assumption | (simp only [and_assoc, and_true, true_and, G29, G24, G48] at *; first | assumption | exact hG0.2 | exact hG1.2 | exact hG2.2 | (simp_all; done))) (by first | assumption | (simp only [and_assoc, and_true, true_and, G29, G24, G48] at *; first | assumption | exact hG0.2 | exact hG1.2 | exact hG2.2 | (simp_all; done)))
  refine (bureaulaw05_PieceActs.calls a0 _ _ l1 true W hr1 hc1 hp).mono fun e W' ⟨he, hd⟩ => ?_
  have bel : Below W.heap.size W W' := hd
  subst he
  exact ⟨_, rfl, _, _, _, [], _, [], hW', trodAll_mk1 (shut_bool Try.underlying4 _), (trodAll_cons_mk (Below.trod laidOut (by kernel_rfl) (of_decide_eq_true (by kernel_rfl)) k0 bel lt0) (trodAll_cons_mk (Below.trod laidOut (by kernel_rfl) (of_decide_eq_true (by kernel_rfl)) k1 bel lt1) trodAll_mk0)), rfl, bel.frame _, fun h => by cases h⟩
theorem over : Rows.pieceActsRow.holds Try.pinned (OpenSpec.ofChange Rows.pieceActsSpec) :=
  OpenClaim.holds_of_wide 5 Try.f5 rfl rfl rfl rfl rfl rfl rfl ⟨rfl, rfl, rfl, rfl, rfl⟩ rfl rfl rfl rfl rfl (by kernel_rfl) Try.func5 (by kernel_rfl)
    (of_decide_eq_true (by kernel_rfl)) (by unfold Func.isWrapper; first | (rw [if_pos (by decide +kernel)]; kernel_rfl) | (rw [if_neg (by decide +kernel)]; exact ⟨rfl, rfl⟩))
    (fun os started H enc _ => lifted os started H enc)
theorem proved : Rows.PieceActsSaid := over
#print axioms proved
end Go.Proofs.Ytgaggoglbkcomaa.pieceActsX
namespace Go.Proofs.Ytgaggoglbkcomaa
/-- The row, under a short name, for the claim. -/
theorem pieceActs_holds : Rows.PieceActsSaid := pieceActsX.proved
end Go.Proofs.Ytgaggoglbkcomaa
