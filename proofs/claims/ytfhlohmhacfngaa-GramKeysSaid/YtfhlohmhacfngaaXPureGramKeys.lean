/- Which keys are motions', and which operators', is told as the document says: for all keys. -/
import Derived.Test.YtfhlohmhacfngaaXGramKeysx2
import Derived.Test.YtfhlohmhacfngaaExt11
import Derived.OpenShut
set_option linter.unusedVariables false
set_option linter.unusedSimpArgs false
namespace Go.Proofs.Ytfhlohmhacfngaa.Pure
open Go.RowKit Go.Proofs.Ytfhlohmhacfngaa.XGramKeys Go.Proofs.YtfhlohmhacfngaaW.PrintWords Go.Proofs.YtfhlohmhacfngaaW.PrintMore Go.Proofs.Ytfhlohmhacfngaa.Ext

theorem wrapZ (a : Int) (h0 : -9223372036854775808 ≤ a) (h1 : a < 9223372036854775808) : wrap64 a = a := by
  unfold wrap64
  omega
set_option maxRecDepth 20000 in
theorem alive_eq : bureaulaw11_alive.f = some true := by kernel_rfl
theorem Parse_eq (l : List Int) (v : Bool) (h : l.length ≤ 35184372088832) : gram_Parse.f l v = some (parseZ l v) := by
  unfold gram_Parse.f
  rw [if_pos h]
/-- In: by a text's bytes from a place on. -/
theorem in_l0 (x : Int) (s : ByteArray) (hs : s.size < 1000) : ∀ (d i f : Nat), i + d = s.size → d < f →
    bureauref11_In.l0 f x s (i : Int) = some ((s.data.toList.drop i).any fun b => decide ((b.toNat : Int) = x))
  | _, _, 0, _, hf => by omega
  | 0, i, f + 1, e, _ => by
    have hc : ¬ ((i : Int) < (s.size : Int)) := by omega
    have hd : s.data.toList.drop i = [] := List.drop_eq_nil_of_le (by rw [Array.length_toList]; show s.size ≤ i; omega)
    rw [bureauref11_In.l0, if_neg hc, hd]
    rfl
  | d + 1, i, f + 1, e, hf => by
    have hc : ((i : Int) < (s.size : Int)) := by omega
    have hi : i < s.size := by omega
    have hil : i < s.data.toList.length := by rw [Array.length_toList]; exact hi
    have hb : bt s (i : Int) = ((s.data.toList[i]).toNat : Int) := by
      unfold bt
      rw [dif_pos (show (i : Int).toNat < s.size by simpa using hi)]
      rfl
    have hlt : (s.data.toList[i]).toNat < 256 := UInt8.toNat_lt _
    have hw : wrap64 (bt s (i : Int)) = ((s.data.toList[i]).toNat : Int) := by rw [hb, wrapZ _ (by omega) (by omega)]
    have hw2 : wrap64 ((i : Int) + 1) = ((i + 1 : Nat) : Int) := by rw [wrapZ _ (by omega) (by omega)]; omega
    rw [bureauref11_In.l0, if_pos hc, if_pos (by omega), hw, hw2, List.drop_eq_getElem_cons hil, List.any_cons]
    by_cases q : ((s.data.toList[i]).toNat : Int) = x
    · rw [if_pos q, decide_eq_true q]; rfl
    · rw [if_neg q, decide_eq_false q, Bool.false_or]
      exact in_l0 x s hs d (i + 1) f (by omega) (by omega)
theorem in_eq (k : Nat) (x : Int) (s : ByteArray) (hs : s.size < 1000) (hk : s.size < k) : bureauref11_In.f k x s = some (s.data.toList.any fun b => decide ((b.toNat : Int) = x)) := by
  have := in_l0 x s hs s.size 0 k (by omega) hk
  rw [List.drop_zero] at this
  exact this
/-- A table's keys, told both ways. -/
theorem same_in (s : ByteArray) (x : Int) (h : ∀ n, n < 128 → inZ ((n : Nat) : Int) s = s.data.toList.any fun b => decide ((b.toNat : Int) = ((n : Nat) : Int)))
    (hb : s.data.toList.all (fun b => decide (b.toNat < 128)) = true) (hz : inZ 0 s = false) : inZ x s = s.data.toList.any fun b => decide ((b.toNat : Int) = x) := by
  by_cases c : 0 ≤ x ∧ x < 128
  · have e : x = ((x.toNat : Nat) : Int) := by omega
    rw [e]
    exact h x.toNat (by omega)
  · have h1 : inZ x s = false := by
      unfold inZ
      by_cases c0 : 0 < x
      · have : ¬ x < 128 := by omega
        simp [this]
      · simp [c0]
    rw [h1]
    symm
    rw [Bool.eq_false_iff]
    intro hh
    rw [List.any_eq_true] at hh
    obtain ⟨b, hm, hq⟩ := hh
    have hq' := of_decide_eq_true hq
    have := of_decide_eq_true (List.all_eq_true.1 hb b hm)
    omega
set_option maxRecDepth 20000 in
theorem mot_same (x : Int) : motZ x = tMot.data.toList.any fun b => decide ((b.toNat : Int) = x) := same_in tMot x (by decide) (by decide) (by decide)
set_option maxRecDepth 20000 in
theorem op_same (x : Int) : opZ x = tOp.data.toList.any fun b => decide ((b.toNat : Int) = x) := same_in tOp x (by decide) (by decide) (by decide)
theorem rmot (k : Nat) (x : Int) (hk : 50 ≤ k) : bureauref11_Motion.f k x = some (motZ x) := by
  unfold bureauref11_Motion.f
  have := in_eq k x tMot (by decide) (Nat.lt_of_lt_of_le (by decide) hk)
  rw [show (⟨#[104, 108, 106, 107, 48, 94, 119, 98, 101, 71, 123, 125, 103, 102, 70, 116, 84, 36]⟩ : ByteArray) = tMot from rfl, this, Option.bind_some, mot_same]
theorem rop (k : Nat) (x : Int) (hk : 50 ≤ k) : bureauref11_Operator.f k x = some (opZ x) := by
  unfold bureauref11_Operator.f
  have := in_eq k x tOp (by decide) (Nat.lt_of_lt_of_le (by decide) hk)
  rw [show (⟨#[100, 121, 99, 62, 60]⟩ : ByteArray) = tOp from rfl, this, Option.bind_some, op_same]
theorem GramKeys : bureaulaw11_GramKeys.Pure := by
  intro x hx
  have hr : -2147483648 ≤ x ∧ x ≤ 2147483647 := by simpa [Lit.wf, IntKind.min, IntKind.max, IntKind.signed, IntKind.bits] using hx
  refine ⟨50, ?_⟩
  unfold bureaulaw11_GramKeys.f
  have hw : wrap64 x = x := wrapZ _ (by omega) (by omega)
  rw [alive_eq, Option.bind_some, if_pos rfl, hw, rmot 50 x (by omega), rop 50 x (by omega)]
  unfold gram_Motion.f gram_Operator.f
  simp only [Option.bind_some]
  cases motZ x <;> cases opZ x <;> rfl

end Go.Proofs.Ytfhlohmhacfngaa.Pure
