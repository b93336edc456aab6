/- What may be done may be done at a lower level, with lower data, by one who may read higher, and with more rights: for every question and every change of it that is asked. -/
import Derived.Test.YtngfmhbhdpeedaaXGateLowerx4
import Derived.Test.YtngfmhbhdpeedaaExt01
import Derived.Test.YtngfmhbhdpeedaaBits
set_option linter.unusedVariables false
set_option linter.unusedSimpArgs false
namespace Go.Proofs.Ytngfmhbhdpeedaa.Pure
open Go.RowKit Go.Proofs.Ytngfmhbhdpeedaa.XGateLower Go.Proofs.YtngfmhbhdpeedaaW.PrintWords Go.Proofs.YtngfmhbhdpeedaaW.PrintMore Go.Proofs.Ytngfmhbhdpeedaa.Ext Go.Proofs.Ytngfmhbhdpeedaa.Bits

/-- Refused for its token, or not; let by the labels, or not. -/
def fin (bad ok : Bool) : Int := if bad then 9 else if ok then 0 else 8
def capBad (u : Bool) (r h : Int) : Bool := !u && (decide (h < 0) || decide (h > 15) || (bits .andNot .i64 r h != 0))
/-- What Decide answers. -/
def D (u m : Bool) (lv cl da ob r h : Int) : Int :=
  if r = 16 then (if u then (if m then 13 else 0) else 13)
  else if r = 1 then fin (capBad u r h) (bits .andNot .u64 ob cl == 0)
  else if r = 2 ∨ r = 4 then fin (capBad u r h) (bits .andNot .u64 (bits .or .u64 lv da) ob == 0)
  else if r = 8 then fin (capBad u r h) (bits .andNot .u64 lv ob == 0)
  else 2
theorem j2_eq (k : Nat) (ok bad : Bool) : gate_Decide.j2 (k + 1) ok bad = some (fin bad ok) := by
  cases bad <;> cases ok <;> rfl
theorem j1_eq (k : Nat) (ok u m : Bool) (lv cl da ob r h : Int) : gate_Decide.j1 (k + 2) ok u m lv cl da ob r h = some (fin (capBad u r h) ok) := by
  simp only [gate_Decide.j1]
  cases u
  · rw [if_neg (by simp)]
    by_cases h1 : h < 0
    · rw [if_pos h1, j2_eq]; simp [capBad, h1]
    · rw [if_neg h1]
      by_cases h2 : h > 15
      · rw [if_pos h2, j2_eq]; simp [capBad, h2]
      · rw [if_neg h2, j2_eq]; simp [capBad, h1, h2]
  · rw [if_pos rfl, j2_eq]; simp [capBad]
theorem Decide_eq (k : Nat) (u m : Bool) (lv cl da ob r h : Int) : gate_Decide.f (k + 3) u m lv cl da ob r h = some (D u m lv cl da ob r h) := by
  unfold gate_Decide.f D
  by_cases h16 : r = 16
  · rw [if_pos h16, if_pos h16]
    cases u <;> cases m <;> rfl
  · rw [if_neg h16, if_neg h16]
    by_cases h1 : r = 1
    · rw [if_pos h1, if_pos h1]
      unfold label_Below.f
      rw [Option.bind_some, j1_eq]
    · rw [if_neg h1, if_neg h1]
      by_cases h2 : r = 2
      · rw [if_pos h2, if_pos (Or.inl h2)]
        simp only [gate_Decide.j0]
        rw [if_pos (by simp [h2])]
        unfold label_Join.f label_Below.f
        rw [Option.bind_some, Option.bind_some, j1_eq]
      · rw [if_neg h2]
        by_cases h4 : r = 4
        · rw [if_pos (Or.inr h4)]
          simp only [gate_Decide.j0]
          rw [if_pos (by simp [h4])]
          unfold label_Join.f label_Below.f
          rw [Option.bind_some, Option.bind_some, j1_eq]
        · rw [if_neg (by omega)]
          simp only [gate_Decide.j0]
          rw [if_neg (by simp [h4])]
          by_cases h8 : r = 8
          · rw [if_pos h8, if_pos h8]
            unfold label_Below.f
            rw [Option.bind_some, j1_eq]
          · rw [if_neg h8, if_neg h8]
theorem Taint_eq (k : Nat) (u m : Bool) (lv cl da ob r h : Int) : gate_Taint.f (k + 4) u m lv cl da ob r h = some (bits .or .u64 (bits .or .u64 (bits .or .u64 0 lv) da) ob) := by
  unfold gate_Taint.f label_JoinAll.f
  simp [label_JoinAll.l0, wrap64, rd]
theorem alive_eq (k : Nat) : bureaulaw20_alive.f (k + 4) = some true := by
  unfold bureaulaw20_alive.f
  rw [Decide_eq (k + 1), Option.bind_some, if_pos (by decide +kernel), Taint_eq, Option.bind_some, if_pos (by decide +kernel), Decide_eq (k + 1), Option.bind_some]
  decide +kernel
theorem fin_zero {bad ok : Bool} (h : fin bad ok = 0) : bad = false ∧ ok = true := by
  cases bad <;> cases ok <;> simp_all [fin]
theorem fin_of {bad ok : Bool} (h : bad = false) (k : ok = true) : fin bad ok = 0 := by
  rw [h, k]; rfl
/-- More rights leave no token bad that was good. -/
theorem rights (h x : Fin 16) : ((bits .andNot .i64 1 (h.val : Int) == 0) = true → (bits .andNot .i64 1 (bits .or .i64 (h.val : Int) (x.val : Int)) == 0) = true) ∧ ((bits .andNot .i64 2 (h.val : Int) == 0) = true → (bits .andNot .i64 2 (bits .or .i64 (h.val : Int) (x.val : Int)) == 0) = true) ∧ ((bits .andNot .i64 4 (h.val : Int) == 0) = true → (bits .andNot .i64 4 (bits .or .i64 (h.val : Int) (x.val : Int)) == 0) = true) ∧ ((bits .andNot .i64 8 (h.val : Int) == 0) = true → (bits .andNot .i64 8 (bits .or .i64 (h.val : Int) (x.val : Int)) == 0) = true) ∧ 0 ≤ bits .or .i64 (h.val : Int) (x.val : Int) ∧ bits .or .i64 (h.val : Int) (x.val : Int) ≤ 15 := by
  revert h x
  decide +kernel
theorem capBad_more {u : Bool} {r h x : Int} (hr : r = 1 ∨ r = 2 ∨ r = 4 ∨ r = 8) (hx0 : 0 ≤ x) (hx : x < 16) (hh0 : 0 ≤ h) (hh : h ≤ 15) (hb : capBad u r h = false) : capBad u r (bits .or .i64 h x) = false := by
  cases u
  · simp only [capBad, Bool.not_false, Bool.true_and, Bool.or_eq_false_iff, decide_eq_false_iff_not] at hb ⊢
    obtain ⟨a, rfl⟩ := Int.eq_ofNat_of_zero_le hh0
    obtain ⟨b, rfl⟩ := Int.eq_ofNat_of_zero_le hx0
    obtain ⟨h1, h2, h3, h4, h5, h6⟩ := rights ⟨a, by omega⟩ ⟨b, by omega⟩
    simp only [] at h1 h2 h3 h4 h5 h6
    refine ⟨⟨by omega, by omega⟩, ?_⟩
    have hz := hb.2
    simp only [bne_eq_false_iff_eq] at hz ⊢
    simp only [beq_iff_eq] at h1 h2 h3 h4
    rcases hr with rfl | rfl | rfl | rfl
    · exact h1 hz
    · exact h2 hz
    · exact h3 hz
    · exact h4 hz
  · rfl
theorem D_lower {u m : Bool} {lv cl da ob lv' cl' da' r h h' : Int} (hl : U lv) (hc : U cl) (hd : U da) (ho : U ob) (hl' : U lv') (hc' : U cl') (hd' : U da')
    (h1 : Le lv' lv) (h2 : Le cl cl') (h3 : Le da' da) (hcap : (r = 1 ∨ r = 2 ∨ r = 4 ∨ r = 8) → capBad u r h = false → capBad u r h' = false)
    (hz : D u m lv cl da ob r h = 0) : D u m lv' cl' da' ob r h' = 0 := by
  unfold D at hz ⊢
  by_cases h16 : r = 16
  · rw [if_pos h16] at hz ⊢
    exact hz
  · rw [if_neg h16] at hz ⊢
    by_cases r1 : r = 1
    · rw [if_pos r1] at hz ⊢
      obtain ⟨hb, hk⟩ := fin_zero hz
      exact fin_of (hcap (.inl r1) hb) ((andNot_zero ho hc').2 (Le.trans ((andNot_zero ho hc).1 hk) h2))
    · rw [if_neg r1] at hz ⊢
      by_cases r2 : r = 2 ∨ r = 4
      · rw [if_pos r2] at hz ⊢
        obtain ⟨hb, hk⟩ := fin_zero hz
        refine fin_of (hcap (by omega) hb) ?_
        rw [andNot_zero (u_or hl hd) ho, le_or hl hd] at hk
        rw [andNot_zero (u_or hl' hd') ho, le_or hl' hd']
        exact ⟨Le.trans h1 hk.1, Le.trans h3 hk.2⟩
      · rw [if_neg r2] at hz ⊢
        by_cases r8 : r = 8
        · rw [if_pos r8] at hz ⊢
          obtain ⟨hb, hk⟩ := fin_zero hz
          refine fin_of (hcap (by omega) hb) ?_
          rw [andNot_zero hl ho] at hk
          rw [andNot_zero hl' ho]
          exact Le.trans h1 hk
        · rw [if_neg r8] at hz
          cases hz
theorem lower_j1 {u m : Bool} {lv cl da ob lv' cl' da' r h h' : Int} (hl : U lv) (hc : U cl) (hd : U da) (ho : U ob) (hl' : U lv') (hc' : U cl') (hd' : U da')
    (h1 : Le lv' lv) (h2 : Le cl cl') (h3 : Le da' da) (hcap : (r = 1 ∨ r = 2 ∨ r = 4 ∨ r = 8) → capBad u r h = false → capBad u r h' = false) :
    bureaulaw20_GateLower.j1 9 u m lv cl da ob r h u m lv' cl' da' ob r h' = some true := by
  simp only [bureaulaw20_GateLower.j1]
  unfold bureaulaw20_theirs.f
  rw [Option.bind_some]
  simp only []
  rw [Decide_eq 5, Option.bind_some]
  by_cases hz : D u m lv cl da ob r h = 0
  · rw [if_pos hz, Option.bind_some]
    simp only []
    rw [Decide_eq 5, Option.bind_some, D_lower hl hc hd ho hl' hc' hd' h1 h2 h3 hcap hz]
    rfl
  · rw [if_neg hz]
theorem GateLower : bureaulaw20_GateLower.Pure := by
  intro u m lv cl da ob r h l0 l1 more hl hc hd ho _ _ h0 h1 hm
  have hl := U.of_wf hl
  have hc := U.of_wf hc
  have hd := U.of_wf hd
  have ho := U.of_wf ho
  have h0 := U.of_wf h0
  have h1 := U.of_wf h1
  have hm := bounds_u8 hm
  have hx : wrap64 (Int.tmod more 16) = more % 16 := by
    rw [Int.tmod_eq_emod_of_nonneg hm.1]
    unfold wrap64
    omega
  refine ⟨11, ?_⟩
  unfold bureaulaw20_GateLower.f
  rw [alive_eq 7, Option.bind_some, if_pos rfl]
  by_cases hh : h ≥ 0
  · rw [if_pos hh]
    simp only [bureaulaw20_GateLower.j0]
    by_cases hh2 : h ≤ 15
    · rw [if_pos (by simpa using hh2), hx]
      exact lower_j1 hl hc hd ho (u_and hl h0) (u_or hc h0) (u_and hd h1) (and_le hl h0) (le_orL hc h0) (and_le hd h1) (fun hr hb => capBad_more hr (by omega) (by omega) hh hh2 hb)
    · rw [if_neg (by simpa using hh2)]
      exact lower_j1 hl hc hd ho (u_and hl h0) (u_or hc h0) (u_and hd h1) (and_le hl h0) (le_orL hc h0) (and_le hd h1) (fun _ hb => hb)
  · rw [if_neg hh]
    simp only [bureaulaw20_GateLower.j0]
    rw [if_neg (by simp)]
    exact lower_j1 hl hc hd ho (u_and hl h0) (u_or hc h0) (u_and hd h1) (and_le hl h0) (le_orL hc h0) (and_le hd h1) (fun _ hb => hb)

end Go.Proofs.Ytngfmhbhdpeedaa.Pure
