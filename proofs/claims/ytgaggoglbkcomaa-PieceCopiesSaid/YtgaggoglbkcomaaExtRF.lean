/- runs: which lists are good: the printed functions in plain words. -/
import Derived.Test.YtgaggoglbkcomaaExtRE
import Derived.Test.YtgaggoglbkcomaaXRRx2
import Derived.Test.YtgaggoglbkcomaaXRRx3
import Derived.Test.YtgaggoglbkcomaaXRRx4
import Derived.Test.YtgaggoglbkcomaaXRRx0
import Derived.Test.YtgaggoglbkcomaaWMore
import Derived.WalkKit
import Derived.WalkMore
import Derived.Below
import Derived.KernelRfl
import Derived.LoopTactic
import Derived.Deep.RegionWith
import Derived.Deep.RegionHeld3
import Derived.IntWalk
import Derived.Deep.DeepCutAuto
import Derived.Deep.CutBlock
import Derived.BigQuiet
import Derived.Laws.RangeString
import Derived.Laws.RangeAny
import Derived.Laws.Rows
import Derived.Laws.Runes
import Derived.Lib.OthersKept
import Derived.OpenShut
set_option linter.unusedVariables false
set_option linter.unusedSimpArgs false
namespace Go.Proofs.Ytgaggoglbkcomaa.Ext
open Go.RowKit Go.Lib Go.Proofs.YtgaggoglbkcomaaW.PrintWords Go.Proofs.YtgaggoglbkcomaaW.PrintMore Go.Proofs.Ytgaggoglbkcomaa.XRR

/-! ### which lists are good -/
def totG : Int → List Rn → Int
  | n, [] => n
  | n, r :: l => if r.f1 > 4096 - n then 4097 else totG (n + max r.f1 0) l
def pkB : List Rn → Bool
  | [] => true
  | [r] => decide (1 ≤ r.f1)
  | r :: s :: l => decide (1 ≤ r.f1) && !(r.f0 == s.f0) && pkB (s :: l)
theorem pkB_iff : ∀ l : List Rn, pkB l = true ↔ pk l
  | [] => by simp [pkB, pk]
  | [r] => by simp [pkB, pk]
  | r :: s :: l => by
    have ih := pkB_iff (s :: l)
    simp only [pkB, pk, Bool.and_eq_true, decide_eq_true_eq, Bool.not_eq_true', beq_eq_false_iff_ne, ih, and_assoc, ne_eq]
def nB (l : List Rn) : Nat := (bytesR l).length
theorem nB_nil : nB [] = 0 := rfl
theorem nB_cons (r : Rn) (l : List Rn) : nB (r :: l) = r.f1.toNat + nB l := by unfold nB; rw [bytesR_cons, List.length_append, List.length_replicate]
theorem totG_ok : ∀ (l : List Rn) (n : Int), 0 ≤ n → n ≤ 4096 → (∀ r, r ∈ l → 0 ≤ r.f1) → totG n l = if n + nB l ≤ 4096 then n + nB l else 4097
  | [], n, h0, h1, _ => by rw [totG, nB_nil]; simp; omega
  | r :: l, n, h0, h1, hv => by
    have hr := hv r List.mem_cons_self
    unfold totG
    rw [nB_cons]
    by_cases c : r.f1 > 4096 - n
    · rw [if_pos c, if_neg (by omega)]
    · rw [if_neg c, totG_ok l (n + max r.f1 0) (by omega) (by omega) (fun s hs => hv s (List.mem_cons_of_mem _ hs))]
      have e : n + max r.f1 0 + (nB l : Int) = n + ((r.f1.toNat + nB l : Nat) : Int) := by omega
      rw [e]
def goodB (l : List Rn) : Bool := pkB l && decide (nB l ≤ 4096)
theorem goodB_iff (l : List Rn) : goodB l = true ↔ pk l ∧ nB l ≤ 4096 := by
  unfold goodB
  rw [Bool.and_eq_true, pkB_iff, decide_eq_true_eq]
theorem good_pk {l : List Rn} (h : goodB l = true) : pk l := ((goodB_iff l).1 h).1
theorem good_n {l : List Rn} (h : goodB l = true) : nB l ≤ 4096 := ((goodB_iff l).1 h).2
theorem good_tot {l : List Rn} (h : goodB l = true) : totG 0 l = nB l := by
  rw [totG_ok l 0 (by decide) (by decide) (fun r hr => by have := pk_mem (good_pk h) r hr; omega), if_pos (by have := good_n h; omega)]
  omega
theorem len_nB : ∀ {l : List Rn}, (∀ r, r ∈ l → 1 ≤ r.f1) → l.length ≤ nB l
  | [], _ => Nat.le_refl _
  | r :: l, h => by
    have := len_nB (l := l) (fun s hs => h s (List.mem_cons_of_mem _ hs))
    have hr := h r List.mem_cons_self
    rw [nB_cons, List.length_cons]
    omega
theorem val_nB : ∀ {l : List Rn}, ∀ r, r ∈ l → r.f1.toNat ≤ nB l
  | s :: l, r, h => by
    rw [nB_cons]
    rcases List.mem_cons.1 h with e | h
    · rw [e]; omega
    · have := val_nB r h; omega
theorem good_okL {l : List Rn} (h : goodB l = true) : okL l := by
  have hp := good_pk h
  have hn := good_n h
  refine ⟨fun r hr => ?_, ?_⟩
  · have h1 := pk_mem hp r hr
    have h2 := val_nB r hr
    omega
  · have := len_nB (pk_mem hp)
    omega
/-! The printed functions' values. -/
theorem lift {α : Type} {F : Nat → Option α} (h : ∀ k, LeO (F k) (F (k + 1))) {k k' : Nat} {r : α} (e : F k = some r) (hk : k ≤ k') : F k' = some r := by
  obtain ⟨d, rfl⟩ : ∃ d, k' = k + d := ⟨k' - k, by omega⟩
  clear hk
  induction d with
  | zero => exact e
  | succ d ih => exact h _ _ ih
theorem w64 (x : Int) (h : -9223372036854775808 ≤ x ∧ x ≤ 9223372036854775807) : wrap64 x = x := IntWalk.wrap64_in _ ⟨by omega, by omega⟩
theorem Total_l (l : List Rn) (hl : l.length ≤ 9000000000000000000) : ∀ (c j : Nat) (n : Int), j + c = l.length → 0 ≤ n → n ≤ 4096 → runs_Total.l0 (c + 1) n l l.length j = some (totG n (l.drop j)) := by
  intro c
  induction c with
  | zero =>
    intro j n hj h0 h1
    unfold runs_Total.l0
    rw [if_neg (by omega), List.drop_of_length_le (by omega)]
    rfl
  | succ c ih =>
    intro j n hj h0 h1
    have hjl : j < l.length := by omega
    have h2 : wrap64 ((j : Int) + 1) = ((j + 1 : Nat) : Int) := by rw [w64 _ (by omega)]; simp
    have h3 : wrap64 (4096 - n) = 4096 - n := w64 _ (by omega)
    unfold runs_Total.l0
    rw [if_pos (by omega), if_pos (by omega), if_pos (by omega), rd43 l j hjl, h2, h3, List.drop_eq_getElem_cons hjl]
    unfold totG
    generalize l[j] = r
    by_cases c1 : r.f1 > 4096 - n
    · rw [if_pos c1, if_pos c1]
    · rw [if_neg c1, if_neg c1]
      have h4 : wrap64 (n + mx r.f1 0) = n + max r.f1 0 := by
        have e : mx r.f1 0 = max r.f1 0 := by unfold mx; split <;> omega
        rw [e, w64 _ (by omega)]
      rw [h4]
      exact ih (j + 1) _ (by omega) (by omega) (by omega)
theorem Total_k (l : List Rn) (hl : l.length ≤ 9000000000000000000) (k : Nat) (hk : l.length + 1 ≤ k) : runs_Total.f k l = some (totG 0 l) := by
  refine lift (F := fun k => runs_Total.f k l) (fun k => runs_Total.mono _ k) (k := l.length + 1) ?_ hk
  unfold runs_Total.f
  have := Total_l l hl l.length 0 0 (by omega) (by decide) (by decide)
  simpa using this
def gF : Option Rn → List Rn → Bool
  | _, [] => true
  | p, r :: l => decide (1 ≤ r.f1) && (match p with | none => true | some q => !(q.f0 == r.f0)) && gF (some r) l
theorem gF_some : ∀ (l : List Rn) (p : Rn), 1 ≤ p.f1 → gF (some p) l = pkB (p :: l)
  | [], p, h => by simp [gF, pkB, h]
  | r :: l, p, h => by
    have h1 : decide (1 ≤ p.f1) = true := decide_eq_true h
    by_cases c : 1 ≤ r.f1
    · have ih := gF_some l r c
      simp only [gF, pkB, h1, Bool.true_and, ih]
      cases e : pkB (r :: l)
      · simp
      · rw [decide_eq_true c]; simp
    · have e : pkB (r :: l) = false := by
        cases l with
        | nil => simp [pkB, c]
        | cons s l => simp [pkB, c]
      simp only [gF, pkB, e, Bool.and_false, decide_eq_false c, Bool.false_and]
theorem gF_none (l : List Rn) : gF none l = pkB l := by
  cases l with
  | nil => rfl
  | cons r l =>
    by_cases c : 1 ≤ r.f1
    · rw [← gF_some l r c]
      simp [gF, c]
    · have e : pkB (r :: l) = false := by
        cases l with
        | nil => simp [pkB, c]
        | cons s l => simp [pkB, c]
      rw [e]
      simp [gF, c]
def prevO (l : List Rn) (j : Nat) : Option Rn := if j = 0 then none else l[j - 1]?
theorem Good_l (l : List Rn) (hl : l.length ≤ 8000000000000000000) : ∀ (c j : Nat), j + c = l.length → runs_Good.l0 (l.length + 2 + c) l l l.length j = some (gF (prevO l j) (l.drop j) && decide (totG 0 l ≤ 4096)) := by
  intro c
  induction c with
  | zero =>
    intro j hj
    unfold runs_Good.l0
    rw [if_neg (by omega), List.drop_of_length_le (by omega), Total_k l (by omega) _ (by omega)]
    simp [gF]
  | succ c ih =>
    intro j hj
    have hjl : j < l.length := by omega
    have h2 : wrap64 ((j : Int) + 1) = ((j + 1 : Nat) : Int) := by rw [w64 _ (by omega)]; simp
    have hp : prevO l (j + 1) = some l[j] := by unfold prevO; rw [if_neg (by omega), Nat.add_sub_cancel, List.getElem?_eq_getElem hjl]
    have ihj := ih (j + 1) (by omega)
    rw [hp] at ihj
    show runs_Good.l0 (l.length + 2 + c + 1) l l l.length j = _
    unfold runs_Good.l0
    rw [if_pos (by omega), if_pos (by omega), if_pos (by omega), rd43 l j hjl, h2, ihj, List.drop_eq_getElem_cons hjl]
    simp only [gF]
    by_cases c1 : l[j].f1 < 1
    · rw [if_pos c1, decide_eq_false (by omega : ¬ 1 ≤ l[j].f1)]
      simp
    · rw [if_neg c1, decide_eq_true (by omega : 1 ≤ l[j].f1), Bool.true_and]
      by_cases c2 : j = 0
      · have e : prevO l j = none := by unfold prevO; rw [if_pos c2]
        rw [if_neg (by omega), e]
        simp
      · have h3 : wrap64 ((j : Int) - 1) = ((j - 1 : Nat) : Int) := by rw [w64 _ (by omega)]; omega
        have e : prevO l j = some l[j - 1] := by unfold prevO; rw [if_neg c2, List.getElem?_eq_getElem (by omega)]
        rw [if_pos (by omega), h3, if_pos (by omega), if_pos (by omega), rd43 l (j - 1) (by omega), e]
        simp only
        by_cases c3 : l[j - 1].f0 = l[j].f0
        · rw [if_pos c3, beq_iff_eq.2 c3]; simp
        · rw [if_neg c3, beq_eq_false_iff_ne.2 c3]; simp
theorem Good_k (l : List Rn) (hl : l.length ≤ 8000000000000000000) (k : Nat) (hk : l.length + 2 + l.length ≤ k) : runs_Good.f k l = some (goodB l) := by
  refine lift (F := fun k => runs_Good.f k l) (fun k => runs_Good.mono _ k) (k := l.length + 2 + l.length) ?_ hk
  unfold runs_Good.f
  have h := Good_l l hl l.length 0 (by omega)
  rw [List.drop_zero, show prevO l 0 = none from rfl, gF_none] at h
  refine h.trans ?_
  unfold goodB
  cases e : pkB l
  · rfl
  · have hp := (pkB_iff l).1 e
    rw [totG_ok l 0 (by decide) (by decide) (fun r hr => by have := pk_mem hp r hr; omega)]
    by_cases c : nB l ≤ 4096
    · rw [if_pos (by omega), decide_eq_true c, decide_eq_true (by omega)]
    · rw [if_neg (by omega), decide_eq_false c]
      rfl
def withinB (l : List Rn) (f t : Int) : Bool := goodB l && decide (0 ≤ f) && decide (f ≤ t) && decide (t ≤ nB l)
theorem within_k (l : List Rn) (hl : l.length ≤ 8000000000000000000) (f t : Int) (k : Nat) (hk : l.length + 2 + l.length ≤ k) : runs_within.f k l f t = some (withinB l f t) := by
  unfold runs_within.f withinB
  rw [Good_k l hl k hk, Option.bind_some]
  cases e : goodB l
  · rfl
  · rw [if_pos rfl]
    by_cases c1 : f ≥ 0
    · rw [if_pos c1, decide_eq_true (by omega : 0 ≤ f)]
      by_cases c2 : f ≤ t
      · rw [if_pos c2, decide_eq_true c2, Total_k l (by omega) k (by omega), Option.bind_some, good_tot e]
        rfl
      · rw [if_neg c2, decide_eq_false c2]; rfl
    · rw [if_neg c1, decide_eq_false (by omega : ¬ 0 ≤ f)]; rfl

end Go.Proofs.Ytgaggoglbkcomaa.Ext
