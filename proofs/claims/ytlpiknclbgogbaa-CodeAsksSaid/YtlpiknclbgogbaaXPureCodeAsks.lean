/- How many values any instruction takes, and lays down, is told as the document says: for every pair of numbers. -/
import Derived.Test.YtlpiknclbgogbaaXCodeAsksx5
import Derived.Test.YtlpiknclbgogbaaExtShapesD
import Derived.OpenShut
set_option linter.unusedVariables false
set_option linter.unusedSimpArgs false
namespace Go.Proofs.Ytlpiknclbgogbaa.Pure
open Go.RowKit Go.Proofs.Ytlpiknclbgogbaa.XCodeAsks Go.Proofs.YtlpiknclbgogbaaW.PrintWords Go.Proofs.YtlpiknclbgogbaaW.PrintMore Go.Proofs.Ytlpiknclbgogbaa.Ext

theorem LeO.le_ {α : Type} {g : Nat → Option α} (hg : ∀ k, LeO (g k) (g (k + 1))) {a b : Nat} {r : α} (h : g a = some r) (hab : a ≤ b) : g b = some r := by
  induction b with
  | zero => rw [show (0 : Nat) = a by omega]; exact h
  | succ b ih =>
    rcases Nat.lt_or_ge a (b + 1) with hlt | hge
    · exact hg b r (ih (by omega))
    · rw [show b + 1 = a by omega]; exact h
/-- May an instruction be? -/
def mayB (op a : Int) : Bool :=
  if op = 1 then decide (-32768 ≤ a ∧ a ≤ 32767) else if op = 12 ∨ op = 13 ∨ op = 16 then decide (0 ≤ a ∧ a ≤ 7) else if op = 14 ∨ op = 15 then decide (0 ≤ a ∧ a ≤ 255) else decide (0 ≤ op ∧ op ≤ 16 ∧ a = 0)
def ctakes (op a : Int) : Int := if op = 2 ∨ op = 3 ∨ op = 11 ∨ op = 13 ∨ op = 15 then 1 else if 4 ≤ op ∧ op ≤ 10 then 2 else if op = 16 then callTakes a else 0
def cgives (op : Int) : Int := if op = 3 ∨ op = 4 then 2 else if op = 1 ∨ (5 ≤ op ∧ op ≤ 12) ∨ op = 16 then 1 else 0
def clong (op : Int) : Bool := decide (op = 1 ∨ (12 ≤ op ∧ op ≤ 16))
theorem op_cases (op : Int) : op = 0 ∨ op = 1 ∨ op = 2 ∨ op = 3 ∨ op = 4 ∨ op = 5 ∨ op = 6 ∨ op = 7 ∨ op = 8 ∨ op = 9 ∨ op = 10 ∨ op = 11 ∨ op = 12 ∨ op = 13 ∨ op = 14 ∨ op = 15 ∨ op = 16 ∨ (op < 0 ∨ 16 < op) := by omega
theorem shapes_no {op : Int} (h : op < 0 ∨ 16 < op) (a : Int) : code_shapes.f op a = some (0, 0, 0, 0, false, false) := by
  unfold code_shapes.f
  repeat rw [if_neg (by omega)]
theorem mayB_no {op : Int} (h : op < 0 ∨ 16 < op) (a : Int) : mayB op a = false := by
  unfold mayB
  rw [if_neg (by omega), if_neg (by omega), if_neg (by omega)]
  exact decide_eq_false (by omega)
theorem ge_and (a lo hi : Int) : (if a ≥ lo then decide (a ≤ hi) else false) = decide (lo ≤ a ∧ a ≤ hi) := by
  by_cases h : a ≥ lo
  · rw [if_pos h]
    have : lo ≤ a := h
    simp [this]
  · rw [if_neg h]
    have : ¬ lo ≤ a := h
    simp [this]
def slo (op : Int) : Int := if op = 1 then -32768 else 0
def shi (op : Int) : Int := if op = 1 then 32767 else if op = 12 ∨ op = 13 ∨ op = 16 then 7 else if op = 14 ∨ op = 15 then 255 else 0
theorem shapes_eq {op : Int} (h : 0 ≤ op ∧ op ≤ 16) (a : Int) : code_shapes.f op a = some (ctakes op a, cgives op, slo op, shi op, clong op, true) := by
  rcases op_cases op with rfl | rfl | rfl | rfl | rfl | rfl | rfl | rfl | rfl | rfl | rfl | rfl | rfl | rfl | rfl | rfl | rfl | h
  case inr.inr.inr.inr.inr.inr.inr.inr.inr.inr.inr.inr.inr.inr.inr.inr.inr => omega
  all_goals rfl
theorem mayB_yes {op : Int} (h : 0 ≤ op ∧ op ≤ 16) (a : Int) : mayB op a = decide (slo op ≤ a ∧ a ≤ shi op) := by
  unfold mayB slo shi
  by_cases h1 : op = 1
  · simp only [if_pos h1]
  · simp only [if_neg h1]
    by_cases h2 : op = 12 ∨ op = 13 ∨ op = 16
    · simp only [if_pos h2]
    · simp only [if_neg h2]
      by_cases h3 : op = 14 ∨ op = 15
      · simp only [if_pos h3]
      · simp only [if_neg h3]
        rw [Bool.eq_iff_iff, decide_eq_true_eq, decide_eq_true_eq]
        omega
/-- What the program's look at an instruction tells. -/
theorem cmay_eq (op a : Int) : ∃ lo hi, code_may.f op a = some (if 0 ≤ op ∧ op ≤ 16 then ctakes op a else 0, if 0 ≤ op ∧ op ≤ 16 then cgives op else 0, lo, hi, clong op, mayB op a) := by
  unfold code_may.f
  by_cases h : 0 ≤ op ∧ op ≤ 16
  · rw [shapes_eq h, Option.bind_some, if_pos h, if_pos h, mayB_yes h, ← ge_and]
    refine ⟨slo op, shi op, ?_⟩
    simp only [if_true]
    split <;> rfl
  · have hn : op < 0 ∨ 16 < op := by omega
    rw [shapes_no hn, Option.bind_some]
    refine ⟨0, 0, ?_⟩
    have hc : clong op = false := decide_eq_false (by omega)
    rw [mayB_no hn, hc, if_neg h, if_neg h]
    rfl
theorem within_eq (a lo hi : Int) : bureauref21_within.f a lo hi = some (decide (lo ≤ a ∧ a ≤ hi)) := by
  unfold bureauref21_within.f
  rw [← ge_and]
  split <;> rfl
theorem rmay_eq (k : Nat) (op a : Int) : bureauref21_May.f (k + 3) op a = some (mayB op a) := by
  unfold bureauref21_May.f mayB
  by_cases h1 : op = 1
  · rw [if_pos h1, if_pos h1, within_eq]; rfl
  · rw [if_neg h1, if_neg h1]
    by_cases h2 : op = 12 ∨ op = 13 ∨ op = 16
    · rw [if_pos h2]
      rcases h2 with rfl | rfl | rfl <;> simp [bureauref21_May.j0, within_eq]
    · rw [if_neg h2, if_neg (by omega), if_neg (by omega)]
      simp only [bureauref21_May.j0]
      rw [if_neg (by simp; omega)]
      by_cases h3 : op = 14 ∨ op = 15
      · rw [if_pos h3]
        rcases h3 with rfl | rfl <;> simp [bureauref21_May.j1, within_eq]
      · rw [if_neg h3, if_neg (by omega)]
        simp only [bureauref21_May.j1]
        rw [if_neg (by simp; omega), within_eq, Option.bind_some]
        by_cases h4 : 0 ≤ op ∧ op ≤ 16
        · rw [if_pos (by simpa using h4)]
          congr 1
          rw [Bool.eq_iff_iff]
          simp [h4]
        · rw [if_neg (by simpa using h4)]
          congr 1
          symm
          apply decide_eq_false
          omega
theorem alive_eq : bureaulaw21_alive.f 40 = some true := by decide +kernel
theorem takes_eq (op a : Int) : code_Takes.f op a = some (if mayB op a then ctakes op a else -1) := by
  obtain ⟨lo, hi, h⟩ := cmay_eq op a
  unfold code_Takes.f
  rw [h, Option.bind_some]
  simp only []
  by_cases hm : mayB op a = true
  · rw [if_pos hm, if_pos hm]
    congr 1
    by_cases h0 : 0 ≤ op ∧ op ≤ 16
    · rw [if_pos h0]
    · rw [mayB_no (by omega)] at hm
      cases hm
  · rw [if_neg hm, if_neg hm]
theorem gives_eq (op a : Int) : code_Gives.f op a = some (if mayB op a then cgives op else -1) := by
  obtain ⟨lo, hi, h⟩ := cmay_eq op a
  unfold code_Gives.f
  rw [h, Option.bind_some]
  simp only []
  by_cases hm : mayB op a = true
  · rw [if_pos hm, if_pos hm]
    congr 1
    by_cases h0 : 0 ≤ op ∧ op ≤ 16
    · rw [if_pos h0]
    · rw [mayB_no (by omega)] at hm
      cases hm
  · rw [if_neg hm, if_neg hm]
theorem rtakes_eq (k : Nat) (op a : Int) : bureauref21_Takes.f (k + 8) op a = some (if mayB op a then ctakes op a else -1) := by
  unfold bureauref21_Takes.f
  rw [rmay_eq (k + 5), Option.bind_some]
  by_cases hm : mayB op a = true
  · rw [if_pos hm, if_pos hm]
    rcases op_cases op with rfl | rfl | rfl | rfl | rfl | rfl | rfl | rfl | rfl | rfl | rfl | rfl | rfl | rfl | rfl | rfl | rfl | h
    case inr.inr.inr.inr.inr.inr.inr.inr.inr.inr.inr.inr.inr.inr.inr.inr.inr => rw [mayB_no h] at hm; cases hm
    case inr.inr.inr.inr.inr.inr.inr.inr.inr.inr.inr.inr.inr.inr.inr.inr.inl =>
      have h8 : a = 0 ∨ a = 1 ∨ a = 2 ∨ a = 3 ∨ a = 4 ∨ a = 5 ∨ a = 6 ∨ a = 7 := by
        simp [mayB] at hm
        omega
      rcases h8 with rfl | rfl | rfl | rfl | rfl | rfl | rfl | rfl <;> rfl
    all_goals rfl
  · rw [if_neg hm, if_neg hm]
theorem rgives_eq (k : Nat) (op a : Int) : bureauref21_Gives.f (k + 4) op a = some (if mayB op a then cgives op else -1) := by
  unfold bureauref21_Gives.f
  rw [rmay_eq (k + 1), Option.bind_some]
  by_cases hm : mayB op a = true
  · rw [if_pos hm, if_pos hm]
    rcases op_cases op with rfl | rfl | rfl | rfl | rfl | rfl | rfl | rfl | rfl | rfl | rfl | rfl | rfl | rfl | rfl | rfl | rfl | h
    case inr.inr.inr.inr.inr.inr.inr.inr.inr.inr.inr.inr.inr.inr.inr.inr.inr => rw [mayB_no h] at hm; cases hm
    all_goals rfl
  · rw [if_neg hm, if_neg hm]
theorem CodeAsks : bureaulaw21_CodeAsks.Pure := by
  intro op a _ _
  refine ⟨40, ?_⟩
  unfold bureaulaw21_CodeAsks.f
  rw [alive_eq, Option.bind_some, if_pos rfl, takes_eq, Option.bind_some, rtakes_eq 32, Option.bind_some, if_pos rfl, gives_eq, Option.bind_some, rgives_eq 36, Option.bind_some]
  simp

end Go.Proofs.Ytlpiknclbgogbaa.Pure
