/- Which numbers are keys is told as the document says: for every number. -/
import Derived.Test.YtbbogjecpdebbaaDoorXKeysMayx1
import Derived.Test.YtbbogjecpdebbaaDoorExt10K
import Derived.OpenShut
set_option linter.unusedVariables false
set_option linter.unusedSimpArgs false
namespace Go.Proofs.YtbbogjecpdebbaaDoor.Pure
open Go.RowKit Go.Proofs.YtbbogjecpdebbaaDoor.XKeysMay Go.Proofs.YtbbogjecpdebbaaDoorW.PrintWords Go.Proofs.YtbbogjecpdebbaaDoorW.PrintMore Go.Proofs.YtbbogjecpdebbaaDoor.Ext

theorem alive_eq (k : Nat) : bureaulaw10_alive.f (k + 20) = some true := by
  have h : bureaulaw10_alive.f 20 = some true := by decide +kernel
  induction k with
  | zero => exact h
  | succ k ih =>
    have := bureaulaw10_alive.mono (k + 20) true ih
    rwa [show k + 1 + 20 = k + 20 + 1 by omega]
theorem r02may (r : Int) (h : 32 ≤ r) : bureauref02_May.f r = some (validZ r) := by
  unfold bureauref02_May.f validZ
  rw [if_pos (by omega)]
  by_cases h1 : r ≤ 1114111
  · rw [if_pos h1]
    by_cases h2 : r < 55296
    · rw [if_pos h2, decide_eq_true (by omega)]
    · rw [if_neg h2]
      congr 1
      rw [Bool.eq_iff_iff]
      simp only [decide_eq_true_eq]
      omega
  · rw [if_neg h1, decide_eq_false (by omega)]
theorem rmay_eq (r : Int) : bureauref10_May.f r = some (mayZ r) := by
  unfold bureauref10_May.f mayZ
  by_cases h1 : r ≥ 1
  · rw [if_pos h1]
    by_cases h2 : r ≤ 27
    · rw [if_pos h2, decide_eq_true (show 1 ≤ r ∧ r ≤ 27 from ⟨h1, h2⟩), Bool.true_or]
    · rw [if_neg h2, decide_eq_false (fun h : 1 ≤ r ∧ r ≤ 27 => h2 h.2), Bool.false_or]
      by_cases h3 : r ≥ 32
      · rw [if_pos h3, decide_eq_true (show 32 ≤ r from h3), Bool.true_and]
        by_cases h4 : r = 127
        · rw [if_pos h4]
          simp [h4]
        · rw [if_neg h4, r02may r h3]
          simp [h4]
      · rw [if_neg h3, decide_eq_false (show ¬ 32 ≤ r from h3), Bool.false_and]
  · rw [if_neg h1, decide_eq_false (fun h : 1 ≤ r ∧ r ≤ 27 => h1 h.1), Bool.false_or]
    rw [if_neg (by omega), decide_eq_false (show ¬ 32 ≤ r by omega), Bool.false_and]
theorem KeysMay : bureaulaw10_KeysMay.Pure := by
  intro r hwf
  have hr : -2147483648 ≤ r ∧ r ≤ 2147483647 := by simpa [Lit.wf, IntKind.min, IntKind.max, IntKind.signed, IntKind.bits] using hwf
  refine ⟨0 + 20, ?_⟩
  unfold bureaulaw10_KeysMay.f
  have h1 : keys_May.f r = some (mayZ r) := rfl
  have hw : wrap64 r = r := wrapZ _ (by omega) (by omega)
  rw [h1, Option.bind_some, hw, rmay_eq, Option.bind_some, alive_eq, Option.bind_some]
  cases mayZ r <;> rfl

end Go.Proofs.YtbbogjecpdebbaaDoor.Pure
