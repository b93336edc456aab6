/- What was read, and goes on behind it, goes to no object but one that the first one is below, and the level, too: for every question, object and way. -/
import Derived.Test.YtngfmhbhdpeedaaXGateDownx3
import Derived.Test.YtngfmhbhdpeedaaExt01
import Derived.Test.YtngfmhbhdpeedaaBits
set_option linter.unusedVariables false
set_option linter.unusedSimpArgs false
namespace Go.Proofs.Ytngfmhbhdpeedaa.Pure
open Go.RowKit Go.Proofs.Ytngfmhbhdpeedaa.XGateDown Go.Proofs.YtngfmhbhdpeedaaW.PrintWords Go.Proofs.YtngfmhbhdpeedaaW.PrintMore Go.Proofs.Ytngfmhbhdpeedaa.Ext Go.Proofs.Ytngfmhbhdpeedaa.Bits

/-- Refused for its token, or not; let by the labels, or not. -/
def fin (bad ok : Bool) : Int := if bad then 9 else if ok then 0 else 8
def capBad (u : Bool) (r h : Int) : Bool := !u && (decide (h < 0) || decide (h > 15) || (bits .andNot .i64 r h != 0))
/-- What Decide answers. -/
def D (u m : Bool) (lv cl da ob r h : Int) : Int :=
  if r = 16 then (if u then (if m then 13 else 0) else 13)
  else if r = 1 then fin (capBad u r h) (bits .andNot .u64 ob cl == 0)
  else if r = 2 ∨ r = 4 then fin (capBad u r h) (bits .andNot .u64 (bits .or .u64 lv da) ob == 0)
  else if r = 8 then fin (capBad u r h) (bits .andNot .u64 lv ob == 0)
  else 2
theorem j2_eq (k : Nat) (ok bad : Bool) : gate_Decide.j2 (k + 1) ok bad = some (fin bad ok) := by
  cases bad <;> cases ok <;> rfl
theorem j1_eq (k : Nat) (ok u m : Bool) (lv cl da ob r h : Int) : gate_Decide.j1 (k + 2) ok u m lv cl da ob r h = some (fin (capBad u r h) ok) := by
  simp only [gate_Decide.j1]
  cases u
  · rw [if_neg (by simp)]
    by_cases h1 : h < 0
    · rw [if_pos h1, j2_eq]; simp [capBad, h1]
    · rw [if_neg h1]
      by_cases h2 : h > 15
      · rw [if_pos h2, j2_eq]; simp [capBad, h2]
      · rw [if_neg h2, j2_eq]; simp [capBad, h1, h2]
  · rw [if_pos rfl, j2_eq]; simp [capBad]
theorem Decide_eq (k : Nat) (u m : Bool) (lv cl da ob r h : Int) : gate_Decide.f (k + 3) u m lv cl da ob r h = some (D u m lv cl da ob r h) := by
  unfold gate_Decide.f D
  by_cases h16 : r = 16
  · rw [if_pos h16, if_pos h16]
    cases u <;> cases m <;> rfl
  · rw [if_neg h16, if_neg h16]
    by_cases h1 : r = 1
    · rw [if_pos h1, if_pos h1]
      unfold label_Below.f
      rw [Option.bind_some, j1_eq]
    · rw [if_neg h1, if_neg h1]
      by_cases h2 : r = 2
      · rw [if_pos h2, if_pos (Or.inl h2)]
        simp only [gate_Decide.j0]
        rw [if_pos (by simp [h2])]
        unfold label_Join.f label_Below.f
        rw [Option.bind_some, Option.bind_some, j1_eq]
      · rw [if_neg h2]
        by_cases h4 : r = 4
        · rw [if_pos (Or.inr h4)]
          simp only [gate_Decide.j0]
          rw [if_pos (by simp [h4])]
          unfold label_Join.f label_Below.f
          rw [Option.bind_some, Option.bind_some, j1_eq]
        · rw [if_neg (by omega)]
          simp only [gate_Decide.j0]
          rw [if_neg (by simp [h4])]
          by_cases h8 : r = 8
          · rw [if_pos h8, if_pos h8]
            unfold label_Below.f
            rw [Option.bind_some, j1_eq]
          · rw [if_neg h8, if_neg h8]
theorem Taint_eq (k : Nat) (u m : Bool) (lv cl da ob r h : Int) : gate_Taint.f (k + 4) u m lv cl da ob r h = some (bits .or .u64 (bits .or .u64 (bits .or .u64 0 lv) da) ob) := by
  unfold gate_Taint.f label_JoinAll.f
  simp [label_JoinAll.l0, wrap64, rd]
theorem alive_eq (k : Nat) : bureaulaw20_alive.f (k + 4) = some true := by
  unfold bureaulaw20_alive.f
  rw [Decide_eq (k + 1), Option.bind_some, if_pos (by decide +kernel), Taint_eq, Option.bind_some, if_pos (by decide +kernel), Decide_eq (k + 1), Option.bind_some]
  decide +kernel
theorem fin_zero {bad ok : Bool} (h : fin bad ok = 0) : bad = false ∧ ok = true := by
  cases bad <;> cases ok <;> simp_all [fin]
theorem D_read {u m : Bool} {lv cl da ob h : Int} (hz : D u m lv cl da ob 1 h = 0) : (bits .andNot .u64 ob cl == 0) = true := by
  unfold D at hz
  rw [if_neg (by omega), if_pos rfl] at hz
  exact (fin_zero hz).2
theorem D_write {u m : Bool} {lv cl da ob r h : Int} (hr : r = 2 ∨ r = 4) (hz : D u m lv cl da ob r h = 0) : (bits .andNot .u64 (bits .or .u64 lv da) ob == 0) = true := by
  unfold D at hz
  rw [if_neg (by omega), if_neg (by omega), if_pos hr] at hz
  exact (fin_zero hz).2
theorem down_j0 {u m : Bool} {lv cl da ob h tt r : Int} (hl : U lv) (hc : U cl) (hd : U da) (ho : U ob) (ht : U tt) (hread : (bits .andNot .u64 ob cl == 0) = true) (hr : r = 2 ∨ r = 4) :
    bureaulaw20_GateDown.j0 10 tt u m lv cl da ob 1 h u m lv cl (bits .or .u64 (bits .or .u64 (bits .or .u64 0 lv) da) ob) tt r 15 = some true := by
  simp only [bureaulaw20_GateDown.j0]
  unfold bureaulaw20_theirs.f
  rw [Option.bind_some]
  simp only []
  rw [Decide_eq 6, Option.bind_some]
  by_cases hz : D u m lv cl (bits .or .u64 (bits .or .u64 (bits .or .u64 0 lv) da) ob) tt r 15 = 0
  · rw [if_pos hz]
    have hw := D_write hr hz
    rw [or_zero_left hl, andNot_zero (u_or hl (u_or (u_or hl hd) ho)) ht, le_or hl (u_or (u_or hl hd) ho), le_or (u_or hl hd) ho, le_or hl hd] at hw
    obtain ⟨h1, ⟨_, h2⟩, h3⟩ := hw
    rw [bureauref01_Below.of ho ht, Option.bind_some, if_pos ((andNot_zero ho ht).2 h3), bureauref01_Below.of hl ht, Option.bind_some, if_pos ((andNot_zero hl ht).2 h1), bureauref01_Below.of hd ht, Option.bind_some, if_pos ((andNot_zero hd ht).2 h2), bureauref01_Below.of ho hc, Option.bind_some, hread]
  · rw [if_neg hz]
theorem GateDown : bureaulaw20_GateDown.Pure := by
  intro u m lv cl da ob r h tt send hl hc hd ho _ _ ht
  have hl := U.of_wf hl
  have hc := U.of_wf hc
  have hd := U.of_wf hd
  have ho := U.of_wf ho
  have ht := U.of_wf ht
  refine ⟨10, ?_⟩
  unfold bureaulaw20_GateDown.f
  rw [alive_eq 6, Option.bind_some, if_pos rfl]
  unfold bureaulaw20_theirs.f
  rw [Option.bind_some]
  simp only []
  rw [Decide_eq 7, Option.bind_some]
  by_cases hz : D u m lv cl da ob 1 h = 0
  · rw [if_pos hz, Option.bind_some]
    simp only []
    rw [Taint_eq 6, Option.bind_some]
    have hread := D_read hz
    cases send
    · rw [if_neg (by simp)]
      exact down_j0 hl hc hd ho ht hread (.inl rfl)
    · rw [if_pos rfl]
      exact down_j0 hl hc hd ho ht hread (.inr rfl)
  · rw [if_neg hz]

end Go.Proofs.Ytngfmhbhdpeedaa.Pure
