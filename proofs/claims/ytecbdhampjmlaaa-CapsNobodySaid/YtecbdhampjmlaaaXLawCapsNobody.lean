-- The row of bureaulaw17_CapsNobody, out of its pure statement and its walk. Written by this session's program.
import Derived.Test.YtecbdhampjmlaaaRows
import Derived.Test.YtecbdhampjmlaaaXCNx1
import Derived.Test.YtecbdhampjmlaaaXPureCapsNobody
import Derived.Test.YtecbdhampjmlaaaOpen
import Derived.WalkKit
import Derived.ProofKit
import Derived.OpenShut
import Derived.ShutString
import Derived.ChangeOld
import Derived.Below
import Derived.SizedLaws
namespace Go.Proofs.Ytecbdhampjmlaaa.capsNobodyX
open Go.ChangeShapes Go.WideShapes Go.ChangeAt Go.RowKit Go.Proofs.Ytecbdhampjmlaaa.Open Go.Proofs.Ytecbdhampjmlaaa.XCN Go.Proofs.YtecbdhampjmlaaaW.PrintWords Go.Proofs.Ytecbdhampjmlaaa.Ext
open Go.ChangeMaps (open_string shut_string)
set_option linter.unusedVariables false
set_option linter.unusedSimpArgs false
theorem own : ownKnob Try.prog.godebug = none := by kernel_rfl
theorem laidOut : laidOutB Try.prog = true := by kernel_rfl
def G28 (b : S28) : Prop := (fun x => (fun n => (Lit.int .i64 n).wf = true) x.1 ∧ (fun n => (Lit.int .i64 n).wf = true) x.2) ((fun x : S28 => (x.f0, x.f1)) b)
theorem opens28 : Opens Try.prog 28 k28 G28 := opens_iso (fun x : S28 => (x.f0, x.f1)) (fun p => ⟨p.1, p.2⟩) (fun _ => rfl) (opens_struct Try.underlying28 (by kernel_rfl) (opensAt_cons (off := 0) (off' := 1) rfl rfl (opens_int (k := .i64) Try.underlying3 (by kernel_rfl)) (opensAt_last (off := 1) rfl (opens_int (k := .i64) Try.underlying3 (by kernel_rfl)))))
def G32 (b : S32) : Prop := (fun x => (fun n => (Lit.int .u8 n).wf = true) x.1 ∧ (fun x => G28 x.1 ∧ (fun x => (fun n => (Lit.int .i64 n).wf = true) x.1 ∧ (fun x => (fun n => (Lit.int .i64 n).wf = true) x.1 ∧ (fun x => (fun n => (Lit.int .i64 n).wf = true) x.1 ∧ (fun x => (fun n => (Lit.int .i64 n).wf = true) x.1 ∧ (fun _ => True) x.2) x.2) x.2) x.2) x.2) x.2) ((fun x : S32 => (x.f0, x.f1, x.f2, x.f3, x.f4, x.f5, x.f6)) b)
theorem opens32 : Opens Try.prog 32 k32 G32 := opens_iso (fun x : S32 => (x.f0, x.f1, x.f2, x.f3, x.f4, x.f5, x.f6)) (fun p => ⟨p.1, p.2.1, p.2.2.1, p.2.2.2.1, p.2.2.2.2.1, p.2.2.2.2.2.1, p.2.2.2.2.2.2⟩) (fun _ => rfl) (opens_struct Try.underlying32 (by kernel_rfl) (opensAt_cons (off := 0) (off' := 1) rfl rfl (opens_int (k := .u8) Try.underlying5 (by kernel_rfl)) (opensAt_cons (off := 1) (off' := 3) rfl rfl opens28 (opensAt_cons (off := 3) (off' := 4) rfl rfl (opens_int (k := .i64) Try.underlying3 (by kernel_rfl)) (opensAt_cons (off := 4) (off' := 5) rfl rfl (opens_int (k := .i64) Try.underlying3 (by kernel_rfl)) (opensAt_cons (off := 5) (off' := 6) rfl rfl (opens_int (k := .i64) Try.underlying3 (by kernel_rfl)) (opensAt_cons (off := 6) (off' := 7) rfl rfl (opens_int (k := .i64) Try.underlying3 (by kernel_rfl)) (opensAt_last (off := 7) rfl (opens_bool Try.underlying4 (by kernel_rfl))))))))))
set_option maxRecDepth 100000 in
set_option maxHeartbeats 1000000 in
theorem lifted (os : Os) (started : os.Started) (H : Type) (enc : TypeId × Value → H) :
    ReturnsInHanded {} Try.checked os 7 .any (Rows.capsNobodySpec.pre6 enc Try.prog Try.f7 Rows.capsNobodyRow.domain false) (Rows.capsNobodySpec.post enc Try.prog Try.f7 false true false false) := by
  refine returnsInHanded_of_change_sized (C := Try.checked) own started (by kernel_rfl) Try.func7
    (ChangeSpec.witness6 (enc := enc) (C := Try.checked) false ⟨#[], #[.slice none 0 0], []⟩ 8 (by kernel_rfl) (by kernel_rfl) (by kernel_rfl) (by kernel_rfl)) ?_
  intro W base args ds gs before hval0 hW hcnd hsz0 _
  have hval : ∀ (j : Nat) t v, Try.f7.params[j]? = some t → args[j]? = some v → Value.okWide Try.prog W .any base t v := hval0
  have hW' := hW
  obtain ⟨p, q, hA0, hV, rfl, hfz, hnd⟩ := hW
  have hA : DataW.TrodAll enc Try.prog W 0 (fun _ => true) true Try.f7.params.toList args.toList ds p := hA0
  rw [Try.params7] at hA hval
  obtain ⟨v0, vs0, d0, ds0, p0, q0, hargs, rfl, rfl, h0, r0⟩ := trodAll_cons hA
  obtain ⟨rfl, rfl, rfl⟩ := trodAll_nil r0
  obtain rfl : args = #[v0] := by cases args; simp_all
  obtain ⟨rfl, rfl⟩ := trodVars_none hV
  have k0 := h0
  have lt0 : ∀ x ∈ p0, x.block < W.heap.size := by obtain ⟨m, hm⟩ := k0; exact DataW.trod_lt m _ _ _ hm
  obtain ⟨a0, len0, cap0, rfl⟩ := okWide_slice Try.underlying22 (hval 0 22 v0 rfl rfl)
  obtain ⟨fu0, hf0⟩ := h0
  obtain ⟨l0, ⟨A0, c0, hs0, hc0, hr0⟩, hG0⟩ := ((opens_slice Try.underlying22 (by kernel_rfl) opens32) : Opens Try.prog 22 (Kd.slice 32 k32) (fun xs => xs.length ≤ maxLen ∧ ∀ x ∈ xs, G32 x)).op hf0
  simp only [Value.cells, List.cons.injEq, and_true, Value.slice.injEq] at hs0
  obtain ⟨rfl, rfl, rfl⟩ := hs0
  clear hA0 hval0 hsz0
  have hpure := Pure.CapsNobody l0
  have hp := hpure (by first | assumption | (simp only [and_assoc, G28, G32] at *; first | assumption | (simp_all; done))) (by first | assumption | (simp only [and_assoc, G28, G32] at *; first | assumption | (simp_all; done)))
  refine (bureaulaw17_CapsNobody.calls _ _ l0 true W hr0 hc0 hp).mono fun e W' ⟨he, hd⟩ => ?_
  have bel : Below W.heap.size W W' := hd
  subst he
  exact ⟨_, rfl, _, _, _, [], _, [], hW', trodAll_mk1 (shut_bool Try.underlying4 _), (trodAll_cons_mk (Below.trod laidOut (by kernel_rfl) (of_decide_eq_true (by kernel_rfl)) k0 bel lt0) trodAll_mk0), rfl, bel.frame _, fun h => by cases h⟩
theorem over : Rows.capsNobodyRow.holds Try.pinned (OpenSpec.ofChange Rows.capsNobodySpec) :=
  OpenClaim.holds_of_wide 7 Try.f7 rfl rfl rfl rfl rfl rfl rfl ⟨rfl, rfl, rfl, rfl, rfl⟩ rfl rfl rfl rfl rfl (by kernel_rfl) Try.func7 (by kernel_rfl)
    (of_decide_eq_true (by kernel_rfl)) (by unfold Func.isWrapper; first | (rw [if_pos (by decide +kernel)]; kernel_rfl) | (rw [if_neg (by decide +kernel)]; exact ⟨rfl, rfl⟩))
    (fun os started H enc _ => lifted os started H enc)
theorem proved : Rows.CapsNobodySaid := over
#print axioms proved
end Go.Proofs.Ytecbdhampjmlaaa.capsNobodyX
namespace Go.Proofs.Ytecbdhampjmlaaa
/-- The row, under a short name, for the claim. -/
theorem capsNobody_holds : Rows.CapsNobodySaid := capsNobodyX.proved
end Go.Proofs.Ytecbdhampjmlaaa
