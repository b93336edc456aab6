-- The row of bureaulaw20_GateLower, out of its pure statement and its walk. Written by this session's program.
import Derived.Test.YtngfmhbhdpeedaaRows
import Derived.Test.YtngfmhbhdpeedaaXGateLowerx4
import Derived.Test.YtngfmhbhdpeedaaXPureGateLower
import Derived.Test.YtngfmhbhdpeedaaOpen
import Derived.WalkKit
import Derived.ProofKit
import Derived.OpenShut
import Derived.ShutString
import Derived.ChangeOld
import Derived.Below
import Derived.SizedLaws
namespace Go.Proofs.Ytngfmhbhdpeedaa.gateLowerX
open Go.ChangeShapes Go.WideShapes Go.ChangeAt Go.RowKit Go.Proofs.Ytngfmhbhdpeedaa.Open Go.Proofs.Ytngfmhbhdpeedaa.XGateLower Go.Proofs.YtngfmhbhdpeedaaW.PrintWords
open Go.ChangeMaps (open_string shut_string)
set_option linter.unusedVariables false
set_option linter.unusedSimpArgs false
theorem own : ownKnob Try.prog.godebug = none := by kernel_rfl
theorem laidOut : laidOutB Try.prog = true := by kernel_rfl
theorem opens25 : Opens Try.prog 25 (Kd.pair Kd.bool (Kd.pair Kd.bool (Kd.pair (Kd.int .u64) (Kd.pair (Kd.int .u64) (Kd.pair (Kd.int .u64) (Kd.pair (Kd.int .u64) (Kd.pair (Kd.int .i64) (Kd.int .i64)))))))) (fun x => (fun _ => True) x.1 ∧ (fun x => (fun _ => True) x.1 ∧ (fun x => (fun n => (Lit.int .u64 n).wf = true) x.1 ∧ (fun x => (fun n => (Lit.int .u64 n).wf = true) x.1 ∧ (fun x => (fun n => (Lit.int .u64 n).wf = true) x.1 ∧ (fun x => (fun n => (Lit.int .u64 n).wf = true) x.1 ∧ (fun x => (fun n => (Lit.int .i64 n).wf = true) x.1 ∧ (fun n => (Lit.int .i64 n).wf = true) x.2) x.2) x.2) x.2) x.2) x.2) x.2) := (opens_struct Try.underlying25 (by kernel_rfl) (opensAt_cons (off := 0) (off' := 1) rfl rfl (opens_bool Try.underlying4 (by kernel_rfl)) (opensAt_cons (off := 1) (off' := 2) rfl rfl (opens_bool Try.underlying4 (by kernel_rfl)) (opensAt_cons (off := 2) (off' := 3) rfl rfl (opens_int (k := .u64) Try.underlying23 (by kernel_rfl)) (opensAt_cons (off := 3) (off' := 4) rfl rfl (opens_int (k := .u64) Try.underlying23 (by kernel_rfl)) (opensAt_cons (off := 4) (off' := 5) rfl rfl (opens_int (k := .u64) Try.underlying23 (by kernel_rfl)) (opensAt_cons (off := 5) (off' := 6) rfl rfl (opens_int (k := .u64) Try.underlying23 (by kernel_rfl)) (opensAt_cons (off := 6) (off' := 7) rfl rfl (opens_int (k := .i64) Try.underlying3 (by kernel_rfl)) (opensAt_last (off := 7) rfl (opens_int (k := .i64) Try.underlying3 (by kernel_rfl)))))))))))
theorem opens35 : Opens Try.prog 35 (Kd.pair (Kd.int .u64) (Kd.int .u64)) (fun x => (fun n => (Lit.int .u64 n).wf = true) x.1 ∧ (fun n => (Lit.int .u64 n).wf = true) x.2) := (opens_fields (fs := [fld 23 0, fld 23 1]) Try.underlying35 (by kernel_rfl) (fun f hf => by have hce : Try.prog.cellsOf 23 = 1 := (by kernel_rfl); simp only [List.mem_cons, List.not_mem_nil, or_false] at hf; rcases hf with rfl | rfl; (exact ⟨rfl, 0, by decide, by rw [hce]; rfl⟩); (exact ⟨rfl, 1, by decide, by rw [hce]; rfl⟩)) (opensAt_cons (off := 0) (off' := 1) rfl rfl (opens_int (k := .u64) Try.underlying23 (by kernel_rfl)) (opensAt_last (off := 1) rfl (opens_int (k := .u64) Try.underlying23 (by kernel_rfl)))))
set_option maxRecDepth 100000 in
set_option maxHeartbeats 1000000 in
theorem lifted (os : Os) (started : os.Started) (H : Type) (enc : TypeId × Value → H) :
    ReturnsInHanded {} Try.checked os 4 .any (Rows.gateLowerSpec.pre6 enc Try.prog Try.f4 Rows.gateLowerRow.domain false) (Rows.gateLowerSpec.post enc Try.prog Try.f4 false true false false) := by
  refine returnsInHanded_of_change_sized (C := Try.checked) own started (by kernel_rfl) Try.func4
    (ChangeSpec.witness6 (enc := enc) (C := Try.checked) false ⟨#[], #[.agg #[.bool false, .bool false, .int .u64 0, .int .u64 0, .int .u64 0, .int .u64 0, .int .i64 0, .int .i64 0], .agg #[.int .u64 0, .int .u64 0], .int .u8 0], []⟩ 8 (by kernel_rfl) (by kernel_rfl) (by kernel_rfl) (by kernel_rfl)) ?_
  intro W base args ds gs before hval0 hW hcnd hsz0 _
  have hval : ∀ (j : Nat) t v, Try.f4.params[j]? = some t → args[j]? = some v → Value.okWide Try.prog W .any base t v := hval0
  have hW' := hW
  obtain ⟨p, q, hA0, hV, rfl, hfz, hnd⟩ := hW
  have hA : DataW.TrodAll enc Try.prog W 0 (fun _ => true) true Try.f4.params.toList args.toList ds p := hA0
  rw [Try.params4] at hA hval
  obtain ⟨v0, vs0, d0, ds0, p0, q0, hargs, rfl, rfl, h0, r0⟩ := trodAll_cons hA
  obtain ⟨v1, vs1, d1, ds1, p1, q1, rfl, rfl, rfl, h1, r1⟩ := trodAll_cons r0
  obtain ⟨v2, vs2, d2, ds2, p2, q2, rfl, rfl, rfl, h2, r2⟩ := trodAll_cons r1
  obtain ⟨rfl, rfl, rfl⟩ := trodAll_nil r2
  obtain rfl : args = #[v0, v1, v2] := by cases args; simp_all
  obtain ⟨rfl, rfl⟩ := trodVars_none hV
  have k0 := h0
  have lt0 : ∀ x ∈ p0, x.block < W.heap.size := by obtain ⟨m, hm⟩ := k0; exact DataW.trod_lt m _ _ _ hm
  obtain ⟨cs0, rfl, _⟩ := okWide_struct Try.underlying25 (hval 0 25 v0 rfl rfl)
  obtain ⟨fu0, hf0⟩ := h0
  obtain ⟨x0, hK0, hG0⟩ := opens25.op hf0
  obtain ⟨l0, hl0⟩ : ∃ l, cs0.toList = l := ⟨_, rfl⟩
  obtain rfl : cs0 = l0.toArray := by rw [← hl0]
  simp only [Value.cells] at hK0
  obtain ⟨_, _, rfl, rfl, ⟨_, _, rfl, rfl, ⟨_, _, rfl, rfl, ⟨_, _, rfl, rfl, ⟨_, _, rfl, rfl, ⟨_, _, rfl, rfl, ⟨_, _, rfl, rfl, rfl⟩⟩⟩⟩⟩⟩⟩ := hK0
  have k1 := h1
  have lt1 : ∀ x ∈ p1, x.block < W.heap.size := by obtain ⟨m, hm⟩ := k1; exact DataW.trod_lt m _ _ _ hm
  obtain ⟨cs1, rfl, _⟩ := okWide_array Try.underlying35 (hval 1 35 v1 rfl rfl)
  obtain ⟨fu1, hf1⟩ := h1
  obtain ⟨x1, hK1, hG1⟩ := opens35.op hf1
  obtain ⟨l1, hl1⟩ : ∃ l, cs1.toList = l := ⟨_, rfl⟩
  obtain rfl : cs1 = l1.toArray := by rw [← hl1]
  simp only [Value.cells] at hK1
  obtain ⟨_, _, rfl, rfl, rfl⟩ := hK1
  have k2 := h2
  have lt2 : ∀ x ∈ p2, x.block < W.heap.size := by obtain ⟨m, hm⟩ := k2; exact DataW.trod_lt m _ _ _ hm
  obtain ⟨fu2, hf2⟩ := h2
  obtain ⟨a2, rfl, rfl, rfl, hG2⟩ := open_int Try.underlying5 (hval 2 5 v2 rfl rfl) k2
  clear hA0 hval0 hsz0
  have hpure := Pure.GateLower x0.1 x0.2.1 x0.2.2.1 x0.2.2.2.1 x0.2.2.2.2.1 x0.2.2.2.2.2.1 x0.2.2.2.2.2.2.1 x0.2.2.2.2.2.2.2 x1.1 x1.2 a2
  obtain ⟨k, hp⟩ := hpure (by first | assumption | (simp only [and_assoc] at *; first | assumption | (simp_all; done))) (by first | assumption | (simp only [and_assoc] at *; first | assumption | (simp_all; done))) (by first | assumption | (simp only [and_assoc] at *; first | assumption | (simp_all; done))) (by first | assumption | (simp only [and_assoc] at *; first | assumption | (simp_all; done))) (by first | assumption | (simp only [and_assoc] at *; first | assumption | (simp_all; done))) (by first | assumption | (simp only [and_assoc] at *; first | assumption | (simp_all; done))) (by first | assumption | (simp only [and_assoc] at *; first | assumption | (simp_all; done))) (by first | assumption | (simp only [and_assoc] at *; first | assumption | (simp_all; done))) (by first | assumption | (simp only [and_assoc] at *; first | assumption | (simp_all; done)))
  refine (bureaulaw20_GateLower.calls k x0.1 x0.2.1 x0.2.2.1 x0.2.2.2.1 x0.2.2.2.2.1 x0.2.2.2.2.2.1 x0.2.2.2.2.2.2.1 x0.2.2.2.2.2.2.2 x1.1 x1.2 a2 true W  hp).mono fun e W' ⟨he, hd⟩ => ?_
  have bel : Below W.heap.size W W' := hd
  subst he
  exact ⟨_, rfl, _, _, _, [], _, [], hW', trodAll_mk1 (shut_bool Try.underlying4 _), (trodAll_cons_mk (Below.trod laidOut (by kernel_rfl) (of_decide_eq_true (by kernel_rfl)) k0 bel lt0) (trodAll_cons_mk (Below.trod laidOut (by kernel_rfl) (of_decide_eq_true (by kernel_rfl)) k1 bel lt1) (trodAll_cons_mk (Below.trod laidOut (by kernel_rfl) (of_decide_eq_true (by kernel_rfl)) k2 bel lt2) trodAll_mk0))), rfl, bel.frame _, fun h => by cases h⟩
theorem over : Rows.gateLowerRow.holds Try.pinned (OpenSpec.ofChange Rows.gateLowerSpec) :=
  OpenClaim.holds_of_wide 4 Try.f4 rfl rfl rfl rfl rfl rfl rfl ⟨rfl, rfl, rfl, rfl, rfl⟩ rfl rfl rfl rfl rfl (by kernel_rfl) Try.func4 (by kernel_rfl)
    (of_decide_eq_true (by kernel_rfl)) (by unfold Func.isWrapper; first | (rw [if_pos (by decide +kernel)]; kernel_rfl) | (rw [if_neg (by decide +kernel)]; exact ⟨rfl, rfl⟩))
    (fun os started H enc _ => lifted os started H enc)
theorem proved : Rows.GateLowerSaid := over
#print axioms proved
end Go.Proofs.Ytngfmhbhdpeedaa.gateLowerX
namespace Go.Proofs.Ytngfmhbhdpeedaa
/-- The row, under a short name, for the claim. -/
theorem gateLower_holds : Rows.GateLowerSaid := gateLowerX.proved
end Go.Proofs.Ytngfmhbhdpeedaa
