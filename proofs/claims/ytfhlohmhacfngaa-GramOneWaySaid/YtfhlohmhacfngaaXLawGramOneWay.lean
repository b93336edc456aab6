-- The row of bureaulaw11_GramOneWay, out of its pure statement and its walk. Written by this session's program.
import Derived.Test.YtfhlohmhacfngaaRows
import Derived.Test.YtfhlohmhacfngaaXGramOneWayx3
import Derived.Test.YtfhlohmhacfngaaXPureGramOneWay
import Derived.Test.YtfhlohmhacfngaaOpen
import Derived.WalkKit
import Derived.ProofKit
import Derived.OpenShut
import Derived.ShutString
import Derived.ChangeOld
import Derived.Below
import Derived.SizedLaws
namespace Go.Proofs.Ytfhlohmhacfngaa.gramOneWayX
open Go.ChangeShapes Go.WideShapes Go.ChangeAt Go.RowKit Go.Proofs.Ytfhlohmhacfngaa.Open Go.Proofs.Ytfhlohmhacfngaa.XGramOneWay Go.Proofs.YtfhlohmhacfngaaW.PrintWords
open Go.ChangeMaps (open_string shut_string)
set_option linter.unusedVariables false
set_option linter.unusedSimpArgs false
theorem own : ownKnob Try.prog.godebug = none := by kernel_rfl
theorem laidOut : laidOutB Try.prog = true := by kernel_rfl
set_option maxRecDepth 100000 in
set_option maxHeartbeats 1000000 in
theorem lifted (os : Os) (started : os.Started) (H : Type) (enc : TypeId × Value → H) :
    ReturnsInHanded {} Try.checked os 4 .any (Rows.gramOneWaySpec.pre6 enc Try.prog Try.f4 Rows.gramOneWayRow.domain false) (Rows.gramOneWaySpec.post enc Try.prog Try.f4 false true false false) := by
  refine returnsInHanded_of_change_sized (C := Try.checked) own started (by kernel_rfl) Try.func4
    (ChangeSpec.witness6 (enc := enc) (C := Try.checked) false ⟨#[], #[.slice none 0 0, .slice none 0 0, .bool false], []⟩ 8 (by kernel_rfl) (by kernel_rfl) (by kernel_rfl) (by kernel_rfl)) ?_
  intro W base args ds gs before hval0 hW hcnd hsz0 _
  have hval : ∀ (j : Nat) t v, Try.f4.params[j]? = some t → args[j]? = some v → Value.okWide Try.prog W .any base t v := hval0
  have hW' := hW
  obtain ⟨p, q, hA0, hV, rfl, hfz, hnd⟩ := hW
  have hA : DataW.TrodAll enc Try.prog W 0 (fun _ => true) true Try.f4.params.toList args.toList ds p := hA0
  rw [Try.params4] at hA hval
  obtain ⟨v0, vs0, d0, ds0, p0, q0, hargs, rfl, rfl, h0, r0⟩ := trodAll_cons hA
  obtain ⟨v1, vs1, d1, ds1, p1, q1, rfl, rfl, rfl, h1, r1⟩ := trodAll_cons r0
  obtain ⟨v2, vs2, d2, ds2, p2, q2, rfl, rfl, rfl, h2, r2⟩ := trodAll_cons r1
  obtain ⟨rfl, rfl, rfl⟩ := trodAll_nil r2
  obtain rfl : args = #[v0, v1, v2] := by cases args; simp_all
  obtain ⟨rfl, rfl⟩ := trodVars_none hV
  have k0 := h0
  have lt0 : ∀ x ∈ p0, x.block < W.heap.size := by obtain ⟨m, hm⟩ := k0; exact DataW.trod_lt m _ _ _ hm
  obtain ⟨a0, len0, cap0, rfl⟩ := okWide_slice Try.underlying25 (hval 0 25 v0 rfl rfl)
  obtain ⟨fu0, hf0⟩ := h0
  obtain ⟨l0, ⟨A0, c0, hs0, hc0, hr0⟩, hG0⟩ := ((opens_slice Try.underlying25 (by kernel_rfl) (opens_int (k := .i32) Try.underlying21 (by kernel_rfl))) : Opens Try.prog 25 (Kd.slice 21 (Kd.int .i32)) (fun xs => xs.length ≤ maxLen ∧ ∀ x ∈ xs, (fun n => (Lit.int .i32 n).wf = true) x)).op hf0
  simp only [Value.cells, List.cons.injEq, and_true, Value.slice.injEq] at hs0
  obtain ⟨rfl, rfl, rfl⟩ := hs0
  have k1 := h1
  have lt1 : ∀ x ∈ p1, x.block < W.heap.size := by obtain ⟨m, hm⟩ := k1; exact DataW.trod_lt m _ _ _ hm
  obtain ⟨a1, len1, cap1, rfl⟩ := okWide_slice Try.underlying25 (hval 1 25 v1 rfl rfl)
  obtain ⟨fu1, hf1⟩ := h1
  obtain ⟨l1, ⟨A1, c1, hs1, hc1, hr1⟩, hG1⟩ := ((opens_slice Try.underlying25 (by kernel_rfl) (opens_int (k := .i32) Try.underlying21 (by kernel_rfl))) : Opens Try.prog 25 (Kd.slice 21 (Kd.int .i32)) (fun xs => xs.length ≤ maxLen ∧ ∀ x ∈ xs, (fun n => (Lit.int .i32 n).wf = true) x)).op hf1
  simp only [Value.cells, List.cons.injEq, and_true, Value.slice.injEq] at hs1
  obtain ⟨rfl, rfl, rfl⟩ := hs1
  have k2 := h2
  have lt2 : ∀ x ∈ p2, x.block < W.heap.size := by obtain ⟨m, hm⟩ := k2; exact DataW.trod_lt m _ _ _ hm
  obtain ⟨fu2, hf2⟩ := h2
  obtain ⟨a2, rfl, rfl, rfl⟩ := open_bool Try.underlying4 (hval 2 4 v2 rfl rfl) k2
  clear hA0 hval0 hsz0
  have hpure := Pure.GramOneWay l0 l1 a2
  obtain ⟨k, hp⟩ := hpure (by first | assumption | (simp only [and_assoc] at *; first | assumption | (simp_all; done))) (by first | assumption | (simp only [and_assoc] at *; first | assumption | (simp_all; done))) (by first | assumption | (simp only [and_assoc] at *; first | assumption | (simp_all; done))) (by first | assumption | (simp only [and_assoc] at *; first | assumption | (simp_all; done)))
  refine (bureaulaw11_GramOneWay.calls k _ _ l0 _ _ l1 a2 true W hr0 hc0 hr1 hc1 hp).mono fun e W' ⟨he, hd⟩ => ?_
  have bel : Below W.heap.size W W' := hd
  subst he
  exact ⟨_, rfl, _, _, _, [], _, [], hW', trodAll_mk1 (shut_bool Try.underlying4 _), (trodAll_cons_mk (Below.trod laidOut (by kernel_rfl) (of_decide_eq_true (by kernel_rfl)) k0 bel lt0) (trodAll_cons_mk (Below.trod laidOut (by kernel_rfl) (of_decide_eq_true (by kernel_rfl)) k1 bel lt1) (trodAll_cons_mk (Below.trod laidOut (by kernel_rfl) (of_decide_eq_true (by kernel_rfl)) k2 bel lt2) trodAll_mk0))), rfl, bel.frame _, fun h => by cases h⟩
theorem over : Rows.gramOneWayRow.holds Try.pinned (OpenSpec.ofChange Rows.gramOneWaySpec) :=
  OpenClaim.holds_of_wide 4 Try.f4 rfl rfl rfl rfl rfl rfl rfl ⟨rfl, rfl, rfl, rfl, rfl⟩ rfl rfl rfl rfl rfl (by kernel_rfl) Try.func4 (by kernel_rfl)
    (of_decide_eq_true (by kernel_rfl)) (by unfold Func.isWrapper; first | (rw [if_pos (by decide +kernel)]; kernel_rfl) | (rw [if_neg (by decide +kernel)]; exact ⟨rfl, rfl⟩))
    (fun os started H enc _ => lifted os started H enc)
theorem proved : Rows.GramOneWaySaid := over
#print axioms proved
end Go.Proofs.Ytfhlohmhacfngaa.gramOneWayX
namespace Go.Proofs.Ytfhlohmhacfngaa
/-- The row, under a short name, for the claim. -/
theorem gramOneWay_holds : Rows.GramOneWaySaid := gramOneWayX.proved
end Go.Proofs.Ytfhlohmhacfngaa
