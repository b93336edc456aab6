/- However many hands a text goes through, each of which reads and writes as the gate lets it: where it is then bears all of where it was, and of all who had it: for every label and every list of ways. -/
import Derived.Test.YtmbnambicnhdoaaXWholeChainsx4
import Derived.Test.YtmbnambicnhdoaaBits
import Derived.Test.YtmbnambicnhdoaaExt01
import Derived.OpenShut
set_option linter.unusedVariables false
set_option linter.unusedSimpArgs false
namespace Go.Proofs.Ytmbnambicnhdoaa.Pure
open Go.RowKit Go.Proofs.Ytmbnambicnhdoaa.XWholeChains Go.Proofs.YtmbnambicnhdoaaW.PrintWords Go.Proofs.YtmbnambicnhdoaaW.PrintMore Go.Proofs.Ytmbnambicnhdoaa.Bits Go.Proofs.Ytmbnambicnhdoaa.Ext

/-- Refused for its token, or not; let by the labels, or not. -/
def fin (bad ok : Bool) : Int := if bad then 9 else if ok then 0 else 8
def capBad (u : Bool) (r h : Int) : Bool := !u && (decide (h < 0) || decide (h > 15) || (bits .andNot .i64 r h != 0))
/-- What Decide answers. -/
def D (u m : Bool) (lv cl da ob r h : Int) : Int :=
  if r = 16 then (if u then (if m then 13 else 0) else 13)
  else if r = 1 then fin (capBad u r h) (bits .andNot .u64 ob cl == 0)
  else if r = 2 ∨ r = 4 then fin (capBad u r h) (bits .andNot .u64 (bits .or .u64 lv da) ob == 0)
  else if r = 8 then fin (capBad u r h) (bits .andNot .u64 lv ob == 0)
  else 2
theorem j2_eq (k : Nat) (ok bad : Bool) : gate_Decide.j2 (k + 1) ok bad = some (fin bad ok) := by
  cases bad <;> cases ok <;> rfl
theorem j1_eq (k : Nat) (ok u m : Bool) (lv cl da ob r h : Int) : gate_Decide.j1 (k + 2) ok u m lv cl da ob r h = some (fin (capBad u r h) ok) := by
  simp only [gate_Decide.j1]
  cases u
  · rw [if_neg (by simp)]
    by_cases h1 : h < 0
    · rw [if_pos h1, j2_eq]; simp [capBad, h1]
    · rw [if_neg h1]
      by_cases h2 : h > 15
      · rw [if_pos h2, j2_eq]; simp [capBad, h2]
      · rw [if_neg h2, j2_eq]; simp [capBad, h1, h2]
  · rw [if_pos rfl, j2_eq]; simp [capBad]
theorem Decide_eq (k : Nat) (u m : Bool) (lv cl da ob r h : Int) : gate_Decide.f (k + 3) u m lv cl da ob r h = some (D u m lv cl da ob r h) := by
  unfold gate_Decide.f D
  by_cases h16 : r = 16
  · rw [if_pos h16, if_pos h16]
    cases u <;> cases m <;> rfl
  · rw [if_neg h16, if_neg h16]
    by_cases h1 : r = 1
    · rw [if_pos h1, if_pos h1]
      unfold label_Below.f
      rw [Option.bind_some, j1_eq]
    · rw [if_neg h1, if_neg h1]
      by_cases h2 : r = 2
      · rw [if_pos h2, if_pos (Or.inl h2)]
        simp only [gate_Decide.j0]
        rw [if_pos (by simp [h2])]
        unfold label_Join.f label_Below.f
        rw [Option.bind_some, Option.bind_some, j1_eq]
      · rw [if_neg h2]
        by_cases h4 : r = 4
        · rw [if_pos (Or.inr h4)]
          simp only [gate_Decide.j0]
          rw [if_pos (by simp [h4])]
          unfold label_Join.f label_Below.f
          rw [Option.bind_some, Option.bind_some, j1_eq]
        · rw [if_neg (by omega)]
          simp only [gate_Decide.j0]
          rw [if_neg (by simp [h4])]
          by_cases h8 : r = 8
          · rw [if_pos h8, if_pos h8]
            unfold label_Below.f
            rw [Option.bind_some, j1_eq]
          · rw [if_neg h8, if_neg h8]
theorem Taint_eq (k : Nat) (u m : Bool) (lv cl da ob r h : Int) : gate_Taint.f (k + 4) u m lv cl da ob r h = some (bits .or .u64 (bits .or .u64 (bits .or .u64 0 lv) da) ob) := by
  unfold gate_Taint.f label_JoinAll.f
  simp [label_JoinAll.l0, wrap64, rd]
theorem fin_zero {bad ok : Bool} (h : fin bad ok = 0) : bad = false ∧ ok = true := by
  cases bad <;> cases ok <;> simp_all [fin]
theorem D_write {u m : Bool} {lv cl da ob r h : Int} (hr : r = 2 ∨ r = 4) (hz : D u m lv cl da ob r h = 0) : (bits .andNot .u64 (bits .or .u64 lv da) ob == 0) = true := by
  unfold D at hz
  rw [if_neg (by omega), if_neg (by omega), if_pos hr] at hz
  exact (fin_zero hz).2
theorem wrap_succ {i : Nat} (h : i < 4611686018427387904) : wrap64 ((i : Int) + 1) = ((i + 1 : Nat) : Int) := by
  unfold wrap64
  omega
theorem rd30 {xs : List S30} {i : Nat} (h : i < xs.length) : rd_T30 xs (i : Int) = xs[i] := by
  unfold rd_T30
  simp [List.getD, h]
theorem Decide_big {k : Nat} (h : 3 ≤ k) (u m : Bool) (lv cl da ob r x : Int) : gate_Decide.f k u m lv cl da ob r x = some (D u m lv cl da ob r x) := by
  obtain ⟨q, rfl⟩ : ∃ q, k = q + 3 := ⟨k - 3, by omega⟩
  exact Decide_eq q u m lv cl da ob r x
theorem Taint_big {k : Nat} (h : 4 ≤ k) (u m : Bool) (lv cl da ob r x : Int) : gate_Taint.f k u m lv cl da ob r x = some (bits .or .u64 (bits .or .u64 (bits .or .u64 0 lv) da) ob) := by
  obtain ⟨q, rfl⟩ : ∃ q, k = q + 4 := ⟨k - 4, by omega⟩
  exact Taint_eq q u m lv cl da ob r x
theorem u_zero : U 0 := ⟨by omega, by omega⟩
/-- One way: it is refused, or leads on to what bears all that was borne. -/
theorem chain_j3 {from_ : Int} {xs : List S30} {at_ had i lv cl ob : Int} {send : Bool} {r : Int} (hf : U from_) (hr : r = 2 ∨ r = 4) (hl : U lv) (ht : U ob) (ha : U at_) (hh : U had) (h1 : Le from_ at_) (h2 : Le had at_)
    {k : Nat} (hk : 4 ≤ k) (hno : bureautop_WholeChains.l0 k from_ xs at_ had (wrap64 (i + 1)) = some true) (hyes : ∀ had', U had' → Le from_ ob → Le had' ob → bureautop_WholeChains.l0 k from_ xs ob had' (wrap64 (i + 1)) = some true) :
    bureautop_WholeChains.j3 (k + 1) from_ xs at_ had i lv cl ob send false false lv cl (bits .or .u64 (bits .or .u64 (bits .or .u64 0 lv) 0) at_) ob r 15 = some true := by
  rw [bureautop_WholeChains.j3, Decide_big (by omega), Option.bind_some]
  by_cases hz : D false false lv cl (bits .or .u64 (bits .or .u64 (bits .or .u64 0 lv) 0) at_) ob r 15 = 0
  · have hw := D_write hr hz
    have hlo : U (bits .or .u64 lv 0) := u_or hl u_zero
    rw [or_zero_left hl, andNot_zero (u_or hl (u_or hlo ha)) ht, le_or hl (u_or hlo ha), le_or hlo ha] at hw
    obtain ⟨g1, _, g3⟩ := hw
    have f1 : Le from_ ob := Le.trans h1 g3
    have f2 : Le (bits .or .u64 had lv) ob := (le_or hh hl).2 ⟨Le.trans h2 g3, g1⟩
    rw [if_pos hz, bureauref01_Join.of hh hl, Option.bind_some, bureauref01_Below.of hf ht, Option.bind_some, if_pos ((andNot_zero hf ht).2 f1), bureauref01_Below.of (u_or hh hl) ht, Option.bind_some, if_pos ((andNot_zero (u_or hh hl) ht).2 f2)]
    exact hyes _ (u_or hh hl) f1 f2
  · rw [if_neg hz]
    exact hno
theorem chain_l0 {from_ : Int} {xs : List S30} (hf : U from_) (hx : ∀ x ∈ xs, U x.f0 ∧ U x.f1 ∧ U x.f2) : ∀ (m i : Nat) (at_ had : Int), i + m = 1000 → U at_ → U had → Le from_ at_ → Le had at_ → ∀ k, 4 * m + 20 ≤ k → bureautop_WholeChains.l0 k from_ xs at_ had (i : Int) = some true := by
  intro m
  induction m with
  | zero =>
    intro i at_ had hi ha hh h1 h2 k hk
    obtain ⟨k, rfl⟩ : ∃ q, k = q + 2 := ⟨k - 2, by omega⟩
    have hj : bureautop_WholeChains.j2 (k + 1) from_ xs at_ had (i : Int) false = some true := by
      rw [bureautop_WholeChains.j2]
      rw [if_neg (by simp)]
    rw [bureautop_WholeChains.l0]
    rw [decide_eq_false (by omega : ¬ (i : Int) < 1000), hj]
    simp
  | succ m ih =>
    intro i at_ had hi ha hh h1 h2 k hk
    obtain ⟨k, rfl⟩ : ∃ q, k = q + 3 := ⟨k - 3, by omega⟩
    rw [bureautop_WholeChains.l0]
    by_cases hl : (i : Int) < (xs.length : Int)
    · have hlt : i < xs.length := by omega
      obtain ⟨u0, u1, u2⟩ := hx _ (List.getElem_mem hlt)
      have hno : ∀ q, 4 * m + 20 ≤ q → bureautop_WholeChains.l0 q from_ xs at_ had (wrap64 ((i : Int) + 1)) = some true := by
        intro q hq
        rw [wrap_succ (by omega)]
        exact ih (i + 1) at_ had (by omega) ha hh h1 h2 q hq
      have hyes : ∀ q, 4 * m + 20 ≤ q → ∀ had', U had' → Le from_ xs[i].f2 → Le had' xs[i].f2 → bureautop_WholeChains.l0 q from_ xs xs[i].f2 had' (wrap64 ((i : Int) + 1)) = some true := by
        intro q hq had' g1 g2 g3
        rw [wrap_succ (by omega)]
        exact ih (i + 1) _ had' (by omega) u2 g1 g2 g3 q hq
      rw [if_pos hl, decide_eq_true (by omega : (i : Int) < 1000), bureautop_WholeChains.j2]
      rw [if_pos rfl, if_pos (by omega), if_pos hl, rd30 hlt, Decide_big (by omega), Option.bind_some]
      by_cases hz : D false false xs[i].f0 xs[i].f1 0 at_ 1 15 = 0
      · rw [if_pos hz, Taint_big (by omega), Option.bind_some]
        by_cases hs : xs[i].f3 = true
        · rw [if_pos hs]
          exact chain_j3 hf (.inr rfl) u0 u2 ha hh h1 h2 (by omega) (hno k (by omega)) (hyes k (by omega))
        · rw [if_neg hs]
          exact chain_j3 hf (.inl rfl) u0 u2 ha hh h1 h2 (by omega) (hno k (by omega)) (hyes k (by omega))
      · rw [if_neg hz]
        exact hno (k + 1) (by omega)
    · rw [if_neg hl, bureautop_WholeChains.j2]
      rw [if_neg (by simp)]
theorem WholeChains : bureautop_WholeChains.Pure := by
  intro a l ha _ hl
  have ha := U.of_wf ha
  refine ⟨5000, ?_⟩
  unfold bureautop_WholeChains.f
  rw [Decide_big (by omega), Option.bind_some, if_pos (by decide +kernel), Decide_big (by omega), Option.bind_some]
  rw [show (D false false 0 0 1 0 2 15 != 8) = false by decide +kernel, bureautop_WholeChains.j0]
  rw [if_neg (by simp)]
  exact chain_l0 ha (fun x hx => ⟨U.of_wf (hl x hx).1, U.of_wf (hl x hx).2.1, U.of_wf (hl x hx).2.2⟩) 1000 0 a a (by omega) ha ha (Le.refl a) (Le.refl a) _ (by omega)

end Go.Proofs.Ytmbnambicnhdoaa.Pure
