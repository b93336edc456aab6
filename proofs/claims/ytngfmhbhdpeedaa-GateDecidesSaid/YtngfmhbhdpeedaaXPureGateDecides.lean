/- Whether anybody may do anything, and the label of what is read, are told as the document says: for every question that can be asked. -/
import Derived.Test.YtngfmhbhdpeedaaXGateDecidesx5
import Derived.Test.YtngfmhbhdpeedaaExt01
import Derived.Test.YtngfmhbhdpeedaaBits
set_option linter.unusedVariables false
set_option linter.unusedSimpArgs false
namespace Go.Proofs.Ytngfmhbhdpeedaa.Pure
open Go.RowKit Go.Proofs.Ytngfmhbhdpeedaa.XGateDecides Go.Proofs.YtngfmhbhdpeedaaW.PrintWords Go.Proofs.YtngfmhbhdpeedaaW.PrintMore Go.Proofs.Ytngfmhbhdpeedaa.Ext Go.Proofs.Ytngfmhbhdpeedaa.Bits

/-- Refused for its token, or not; let by the labels, or not. -/
def fin (bad ok : Bool) : Int := if bad then 9 else if ok then 0 else 8
def capBad (u : Bool) (r h : Int) : Bool := !u && (decide (h < 0) || decide (h > 15) || (bits .andNot .i64 r h != 0))
/-- What Decide answers. -/
def D (u m : Bool) (lv cl da ob r h : Int) : Int :=
  if r = 16 then (if u then (if m then 13 else 0) else 13)
  else if r = 1 then fin (capBad u r h) (bits .andNot .u64 ob cl == 0)
  else if r = 2 ∨ r = 4 then fin (capBad u r h) (bits .andNot .u64 (bits .or .u64 lv da) ob == 0)
  else if r = 8 then fin (capBad u r h) (bits .andNot .u64 lv ob == 0)
  else 2
theorem j2_eq (k : Nat) (ok bad : Bool) : gate_Decide.j2 (k + 1) ok bad = some (fin bad ok) := by
  cases bad <;> cases ok <;> rfl
theorem j1_eq (k : Nat) (ok u m : Bool) (lv cl da ob r h : Int) : gate_Decide.j1 (k + 2) ok u m lv cl da ob r h = some (fin (capBad u r h) ok) := by
  simp only [gate_Decide.j1]
  cases u
  · rw [if_neg (by simp)]
    by_cases h1 : h < 0
    · rw [if_pos h1, j2_eq]; simp [capBad, h1]
    · rw [if_neg h1]
      by_cases h2 : h > 15
      · rw [if_pos h2, j2_eq]; simp [capBad, h2]
      · rw [if_neg h2, j2_eq]; simp [capBad, h1, h2]
  · rw [if_pos rfl, j2_eq]; simp [capBad]
theorem Decide_eq (k : Nat) (u m : Bool) (lv cl da ob r h : Int) : gate_Decide.f (k + 3) u m lv cl da ob r h = some (D u m lv cl da ob r h) := by
  unfold gate_Decide.f D
  by_cases h16 : r = 16
  · rw [if_pos h16, if_pos h16]
    cases u <;> cases m <;> rfl
  · rw [if_neg h16, if_neg h16]
    by_cases h1 : r = 1
    · rw [if_pos h1, if_pos h1]
      unfold label_Below.f
      rw [Option.bind_some, j1_eq]
    · rw [if_neg h1, if_neg h1]
      by_cases h2 : r = 2
      · rw [if_pos h2, if_pos (Or.inl h2)]
        simp only [gate_Decide.j0]
        rw [if_pos (by simp [h2])]
        unfold label_Join.f label_Below.f
        rw [Option.bind_some, Option.bind_some, j1_eq]
      · rw [if_neg h2]
        by_cases h4 : r = 4
        · rw [if_pos (Or.inr h4)]
          simp only [gate_Decide.j0]
          rw [if_pos (by simp [h4])]
          unfold label_Join.f label_Below.f
          rw [Option.bind_some, Option.bind_some, j1_eq]
        · rw [if_neg (by omega)]
          simp only [gate_Decide.j0]
          rw [if_neg (by simp [h4])]
          by_cases h8 : r = 8
          · rw [if_pos h8, if_pos h8]
            unfold label_Below.f
            rw [Option.bind_some, j1_eq]
          · rw [if_neg h8, if_neg h8]
theorem Taint_eq (k : Nat) (u m : Bool) (lv cl da ob r h : Int) : gate_Taint.f (k + 4) u m lv cl da ob r h = some (bits .or .u64 (bits .or .u64 (bits .or .u64 0 lv) da) ob) := by
  unfold gate_Taint.f label_JoinAll.f
  simp [label_JoinAll.l0, wrap64, rd]
theorem alive_eq (k : Nat) : bureaulaw20_alive.f (k + 4) = some true := by
  unfold bureaulaw20_alive.f
  rw [Decide_eq (k + 1), Option.bind_some, if_pos (by decide +kernel), Taint_eq, Option.bind_some, if_pos (by decide +kernel), Decide_eq (k + 1), Option.bind_some]
  decide +kernel
theorem flows_eq {u m : Bool} {lv cl da ob r h : Int} (hl : U lv) (hc : U cl) (hd : U da) (ho : U ob) :
    bureauref20_flows.f u m lv cl da ob r h = some (if r = 1 then bits .andNot .u64 ob cl == 0 else if r = 8 then bits .andNot .u64 lv ob == 0 else bits .andNot .u64 (bits .or .u64 lv da) ob == 0) := by
  unfold bureauref20_flows.f
  by_cases h1 : r = 1
  · rw [if_pos h1, if_pos h1, bureauref01_Below.of ho hc]; rfl
  · rw [if_neg h1, if_neg h1]
    by_cases h8 : r = 8
    · rw [if_pos h8, if_pos h8, bureauref01_Below.of hl ho]; rfl
    · rw [if_neg h8, if_neg h8, bureauref01_Below.of hl ho, bureauref01_Below.of hd ho, Option.bind_some, Option.bind_some]
      have e : (bits .andNot .u64 (bits .or .u64 lv da) ob == 0) = ((bits .andNot .u64 lv ob == 0) && (bits .andNot .u64 da ob == 0)) := by
        rw [Bool.eq_iff_iff, Bool.and_eq_true, andNot_zero (u_or hl hd) ho, andNot_zero hl ho, andNot_zero hd ho, le_or hl hd]
      rw [e]
      cases (bits .andNot .u64 lv ob == 0) <;> simp
theorem within_eq : ∀ h : Fin 16, bureauref17_Within.f 9 1 (h.val : Int) = some (bits .andNot .i64 1 (h.val : Int) == 0) ∧ bureauref17_Within.f 9 2 (h.val : Int) = some (bits .andNot .i64 2 (h.val : Int) == 0) ∧ bureauref17_Within.f 9 4 (h.val : Int) = some (bits .andNot .i64 4 (h.val : Int) == 0) ∧ bureauref17_Within.f 9 8 (h.val : Int) = some (bits .andNot .i64 8 (h.val : Int) == 0) := by decide +kernel
theorem rj1_eq (k : Nat) {bad u m : Bool} {lv cl da ob r h : Int} (hl : U lv) (hc : U cl) (hd : U da) (ho : U ob) :
    bureauref20_Decide.j1 (k + 1) bad u m lv cl da ob r h = some (fin bad (if r = 1 then bits .andNot .u64 ob cl == 0 else if r = 8 then bits .andNot .u64 lv ob == 0 else bits .andNot .u64 (bits .or .u64 lv da) ob == 0)) := by
  simp only [bureauref20_Decide.j1]
  cases bad
  · rw [if_neg (by simp), flows_eq hl hc hd ho, Option.bind_some]
    unfold fin
    generalize (if r = 1 then bits .andNot .u64 ob cl == 0 else if r = 8 then bits .andNot .u64 lv ob == 0 else bits .andNot .u64 (bits .or .u64 lv da) ob == 0) = b
    cases b <;> rfl
  · rw [if_pos rfl]; rfl
theorem rj0_eq {u m : Bool} {lv cl da ob r h : Int} (hl : U lv) (hc : U cl) (hd : U da) (ho : U ob) (hr : r = 1 ∨ r = 2 ∨ r = 4 ∨ r = 8) :
    bureauref20_Decide.j0 10 u m lv cl da ob r h = some (fin (capBad u r h) (if r = 1 then bits .andNot .u64 ob cl == 0 else if r = 8 then bits .andNot .u64 lv ob == 0 else bits .andNot .u64 (bits .or .u64 lv da) ob == 0)) := by
  simp only [bureauref20_Decide.j0]
  cases u
  · rw [if_neg (by simp)]
    by_cases h1 : h < 0
    · rw [if_pos h1, rj1_eq 8 hl hc hd ho]; simp [capBad, h1]
    · rw [if_neg h1]
      by_cases h2 : h > 15
      · rw [if_pos h2, rj1_eq 8 hl hc hd ho]; simp [capBad, h2]
      · rw [if_neg h2]
        have hw : bureauref17_Within.f 9 r h = some (bits .andNot .i64 r h == 0) := by
          obtain ⟨n, rfl⟩ := Int.eq_ofNat_of_zero_le (show 0 ≤ h by omega)
          have hn : n < 16 := by omega
          have hh := within_eq ⟨n, hn⟩
          rcases hr with rfl | rfl | rfl | rfl
          · exact hh.1
          · exact hh.2.1
          · exact hh.2.2.1
          · exact hh.2.2.2
        rw [hw, Option.bind_some, rj1_eq 8 hl hc hd ho]
        have e : (!(bits .andNot .i64 r h == 0)) = capBad false r h := by
          simp [capBad, h1, h2, bne]
        rw [e]
  · rw [if_pos rfl, rj1_eq 8 hl hc hd ho]; simp [capBad]
theorem rDecide_eq {u m : Bool} {lv cl da ob r h : Int} (hl : U lv) (hc : U cl) (hd : U da) (ho : U ob) :
    bureauref20_Decide.f 10 u m lv cl da ob r h = some (D u m lv cl da ob r h) := by
  unfold bureauref20_Decide.f D
  by_cases h16 : r = 16
  · rw [if_pos h16, if_pos h16]
    cases u <;> cases m <;> rfl
  · rw [if_neg h16, if_neg h16]
    by_cases h1 : r = 1
    · rw [if_pos h1, if_pos h1, rj0_eq hl hc hd ho (.inl h1), if_pos h1]
    · rw [if_neg h1, if_neg h1]
      by_cases h2 : r = 2
      · rw [if_pos h2, if_pos (Or.inl h2), rj0_eq hl hc hd ho (.inr (.inl h2)), if_neg h1, if_neg (by omega)]
      · rw [if_neg h2]
        by_cases h4 : r = 4
        · rw [if_pos h4, if_pos (Or.inr h4), rj0_eq hl hc hd ho (.inr (.inr (.inl h4))), if_neg h1, if_neg (by omega)]
        · rw [if_neg h4, if_neg (show ¬ (r = 2 ∨ r = 4) by omega)]
          by_cases h8 : r = 8
          · rw [if_pos h8, if_pos h8, rj0_eq hl hc hd ho (.inr (.inr (.inr h8))), if_neg h1, if_pos h8]
          · rw [if_neg h8, if_neg h8]
theorem rTaint_eq {u m : Bool} {lv cl da ob r h : Int} (hl : U lv) (hd : U da) (ho : U ob) : bureauref20_Taint.f u m lv cl da ob r h = some (bits .or .u64 (bits .or .u64 (bits .or .u64 0 lv) da) ob) := by
  unfold bureauref20_Taint.f
  rw [bureauref01_Join.of hd ho, Option.bind_some, bureauref01_Join.of hl (u_or hd ho), Option.bind_some, or_zero_left hl, or_assoc hl hd ho]
theorem GateDecides : bureaulaw20_GateDecides.Pure := by
  intro u m lv cl da ob r h hl hc hd ho _ _
  have hl := U.of_wf hl
  have hc := U.of_wf hc
  have hd := U.of_wf hd
  have ho := U.of_wf ho
  refine ⟨10, ?_⟩
  unfold bureaulaw20_GateDecides.f
  rw [alive_eq 6, Option.bind_some, if_pos rfl]
  unfold bureaulaw20_theirs.f
  rw [Option.bind_some]
  simp only []
  rw [Decide_eq 7, Option.bind_some, rDecide_eq hl hc hd ho, Option.bind_some, if_pos rfl, Option.bind_some]
  simp only []
  rw [Taint_eq 6, Option.bind_some, rTaint_eq hl hd ho, Option.bind_some]
  simp

end Go.Proofs.Ytngfmhbhdpeedaa.Pure
