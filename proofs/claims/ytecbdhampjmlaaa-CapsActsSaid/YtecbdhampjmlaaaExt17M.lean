/- caps: plain laws of what a token allows. -/
import Derived.Test.YtecbdhampjmlaaaExt17L
import Derived.Test.YtecbdhampjmlaaaWMore
import Derived.WalkKit
import Derived.WalkMore
import Derived.Below
import Derived.KernelRfl
import Derived.LoopTactic
import Derived.Deep.RegionWith
import Derived.Deep.RegionHeld3
import Derived.IntWalk
import Derived.Deep.DeepCutAuto
import Derived.Deep.CutBlock
import Derived.BigQuiet
import Derived.Laws.RangeString
import Derived.Laws.RangeAny
import Derived.Laws.Rows
import Derived.Laws.Runes
import Derived.Lib.OthersKept
import Derived.OpenShut
set_option linter.unusedVariables false
set_option linter.unusedSimpArgs false
namespace Go.Proofs.Ytecbdhampjmlaaa.Ext
open Go.RowKit Go.Lib Go.Proofs.YtecbdhampjmlaaaW.PrintWords Go.Proofs.YtecbdhampjmlaaaW.PrintMore

/-! ### a table whose tokens come from nothing -/
structure Rt (g : Int) (l : List Sl) : Prop where
  gen : ∀ i, 0 ≤ (atS l i).gen ∧ (atS l i).gen ≤ g
  ug : ∀ i, (atS l i).cap.ug = 0
  al : ∀ i, (atS l i).alive = true → 1 ≤ (atS l i).gen
def tot : List Sl → Int
  | [] => 0
  | s :: l => s.gen + tot l
theorem tot_set : ∀ (l : List Sl) (i : Nat) (s : Sl), i < l.length → tot (l.set i s) = tot l - (atS l i).gen + s.gen := by
  intro l
  induction l with
  | nil => intro i s h; simp at h
  | cons t l ih =>
    intro i s h
    cases i with
    | zero => simp only [List.set_cons_zero, tot]; show _ = t.gen + tot l - t.gen + s.gen; omega
    | succ i =>
      simp only [List.set_cons_succ, tot]
      have := ih i s (by simpa using h)
      show _ = t.gen + tot l - (atS l i).gen + s.gen
      omega
theorem tot_le {g : Int} : ∀ (l : List Sl), (∀ i, 0 ≤ (atS l i).gen ∧ (atS l i).gen ≤ g) → 0 ≤ tot l ∧ tot l ≤ (l.length : Int) * g := by
  intro l
  induction l with
  | nil => intro _; simp [tot]
  | cons s l ih =>
    intro h
    have h0 : 0 ≤ s.gen ∧ s.gen ≤ g := h 0
    have h1 := ih (fun i => h (i + 1))
    simp only [tot, List.length_cons]
    rw [show ((l.length + 1 : Nat) : Int) * g = (l.length : Int) * g + g by rw [Int.natCast_add, Int.add_mul]; simp]
    omega
theorem tot_full {g : Int} : ∀ (l : List Sl), (∀ i, i < l.length → (atS l i).gen = g) → tot l = (l.length : Int) * g := by
  intro l
  induction l with
  | nil => intro _; simp [tot]
  | cons s l ih =>
    intro h
    have h0 : s.gen = g := h 0 (by simp)
    have h1 := ih (fun i hi => h (i + 1) (by simpa using hi))
    simp only [tot, List.length_cons]
    rw [show ((l.length + 1 : Nat) : Int) * g = (l.length : Int) * g + g by rw [Int.natCast_add, Int.add_mul]; simp]
    omega
theorem tot_rep (n : Nat) : tot (List.replicate n sl0) = 0 := by
  induction n with
  | zero => rfl
  | succ n ih => rw [List.replicate_succ, tot, ih]; rfl
/-- What Mint answers here. -/
theorem mint_rt {g : Int} {l : List Sl} (h : Rt g l) (rg : Int) (hrg : 1 ≤ rg ∧ rg ≤ 15) :
    (∃ i : Nat, i < l.length ∧ mintZ g l 1 rg 0 = (l.set i ⟨(atS l i).gen + 1, true, ⟨1, rg, 0, 0, 0⟩⟩, (i : Int), (atS l i).gen + 1, 0) ∧ (atS l i).alive = false ∧ (atS l i).gen < g) ∨
    (mintZ g l 1 rg 0 = (l, 0, 0, 4) ∧ ∀ i, i < l.length → (atS l i).alive = true ∨ (atS l i).gen = g) := by
  unfold mintZ giveZ
  rw [if_neg (by omega)]
  cases e : l.findIdx? (freeS g) with
  | some i =>
    left
    rw [List.findIdx?_eq_some_iff_getElem] at e
    obtain ⟨hi, hf, _⟩ := e
    rw [← atS_lt hi] at hf
    unfold freeS at hf
    rw [Bool.and_eq_true, decide_eq_true_eq, Bool.not_eq_true'] at hf
    exact ⟨i, hi, rfl, hf.1, hf.2⟩
  | none =>
    right
    refine ⟨rfl, fun i hi => ?_⟩
    rw [List.findIdx?_eq_none_iff] at e
    have := e _ (List.getElem_mem hi)
    rw [← atS_lt hi] at this
    unfold freeS at this
    rw [Bool.and_eq_false_iff, decide_eq_false_iff_not, Bool.not_eq_false'] at this
    rcases this with h1 | h1
    · exact .inl h1
    · exact .inr (by have := h.gen i; omega)
theorem Rt.give {g : Int} {l : List Sl} (h : Rt g l) {i : Nat} (hi : i < l.length) (hg : (atS l i).gen < g) (c : Cp) (hc : c.ug = 0) : Rt g (l.set i ⟨(atS l i).gen + 1, true, c⟩) := by
  refine ⟨fun j => ?_, fun j => ?_, fun j => ?_⟩
  · rw [atS_set]; split
    · have := h.gen i; simp only; omega
    · exact h.gen j
  · rw [atS_set]; split
    · exact hc
    · exact h.ug j
  · rw [atS_set]; split
    · intro _; have := h.gen i; simp only; omega
    · exact h.al j
theorem Rt.kill {g : Int} {l : List Sl} (h : Rt g l) (i : Nat) : Rt g (l.set i (killS (atS l i))) := by
  refine ⟨fun j => ?_, fun j => ?_, fun j => ?_⟩
  · rw [atS_set]; split
    · exact h.gen i
    · exact h.gen j
  · rw [atS_set]; split
    · exact h.ug i
    · exact h.ug j
  · rw [atS_set]; split
    · intro e; cases e
    · exact h.al j
theorem revoke_rt {g : Int} {l : List Sl} (h : Rt g l) {i : Nat} (ha : (atS l i).alive = true) :
    revokeZ l (i : Int) (atS l i).gen = (l.set i (killS (atS l i)), 1, 0) := by
  have hi := atS_alive_lt ha
  have he : findE l (i : Int) (atS l i).gen = 0 := by
    unfold findE
    rw [if_neg (by omega), Int.toNat_natCast, if_pos ⟨ha, rfl⟩]
  have r := revS_ok (lives l) l i ha (Nat.le_refl _)
  have hd : ∀ j, Desc l i j → j = i := by
    intro j hj
    induction hj with
    | base => rfl
    | @step p j hp c ih =>
      exfalso
      have h1 := c.2.2
      rw [h.ug j] at h1
      subst ih
      have := h.al p ha
      omega
  have hl : (revS (lives l) l i).1 = l.set i (killS (atS l i)) := by
    apply ext_atS (by rw [r.less.len, List.length_set])
    intro j _
    have hg := r.less.gen j
    have hc := r.less.cap j
    rw [atS_set]
    by_cases e : i = j ∧ i < l.length
    · rw [if_pos e]
      obtain ⟨rfl, _⟩ := e
      have hs := r.self
      generalize atS (revS (lives l) l i).1 i = s at *
      cases s
      simp only at hg hc hs
      rw [hg, hc, hs]
      rfl
    · rw [if_neg e]
      have hal : (atS (revS (lives l) l i).1 j).alive = (atS l j).alive := by
        cases e2 : (atS l j).alive
        · cases e3 : (atS (revS (lives l) l i).1 j).alive
          · rfl
          · have := r.less.dead j e3; rw [e2] at this; cases this
        · cases e3 : (atS (revS (lives l) l i).1 j).alive
          · exact absurd ⟨(hd j (r.only j e2 e3)).symm, hi⟩ e
          · rfl
      generalize atS (revS (lives l) l i).1 j = s at *
      generalize atS l j = t at *
      cases s; cases t
      simp only at hg hc hal
      rw [hg, hc, hal]
  have hn := r.num
  have hs := lives_set ha
  unfold revokeZ
  rw [if_neg (fun x => x he), Int.toNat_natCast]
  rw [hl] at hn ⊢
  have : (revS (lives l) l i).2 = 1 := by omega
  rw [this]
theorem tot_kill (l : List Sl) (i : Nat) (hi : i < l.length) : tot (l.set i (killS (atS l i))) = tot l := by
  rw [tot_set _ _ _ hi]
  show tot l - (atS l i).gen + (atS l i).gen = tot l
  omega
/-! ### the tokens that are alive -/
theorem liveFrom_mem : ∀ (l : List Sl) (i : Nat) (x : Lv), x ∈ liveFrom i l → ∃ j, x.ks = ((i + j : Nat) : Int) ∧ (atS l j).alive = true ∧ x.kg = (atS l j).gen ∧ x.cap = (atS l j).cap := by
  intro l
  induction l with
  | nil => intro i x h; cases h
  | cons s l ih =>
    intro i x h
    unfold liveFrom at h
    have rec_ : x ∈ liveFrom (i + 1) l → ∃ j, x.ks = ((i + j : Nat) : Int) ∧ (atS (s :: l) j).alive = true ∧ x.kg = (atS (s :: l) j).gen ∧ x.cap = (atS (s :: l) j).cap := fun h => by
      obtain ⟨j, h1, h2, h3, h4⟩ := ih (i + 1) x h
      exact ⟨j + 1, by rw [h1]; congr 1; omega, h2, h3, h4⟩
    by_cases c : s.alive = true
    · rw [if_pos c] at h
      rcases List.mem_cons.1 h with e | e
      · subst e
        exact ⟨0, rfl, c, rfl, rfl⟩
      · exact rec_ e
    · rw [if_neg c] at h
      exact rec_ h
theorem liveFrom_len (l : List Sl) (i : Nat) : (liveFrom i l).length = lives l := by
  induction l generalizing i with
  | nil => rfl
  | cons s l ih =>
    unfold liveFrom lives
    rw [List.countP_cons]
    by_cases c : s.alive = true
    · rw [if_pos c, List.length_cons, ih, if_pos c]; rfl
    · rw [if_neg c, ih, if_neg c]; rfl
/-- The list of the alive ones, in the order of their slots: the rest from one on is what is alive at later slots. -/
theorem liveFrom_pair (l : List Sl) (i : Nat) : (liveFrom i l).Pairwise (fun a b => a.ks < b.ks) := by
  induction l generalizing i with
  | nil => exact List.Pairwise.nil
  | cons s l ih =>
    unfold liveFrom
    split
    · refine List.Pairwise.cons (fun b hb => ?_) (ih (i + 1))
      obtain ⟨j, h1, _⟩ := liveFrom_mem l (i + 1) b hb
      rw [h1]; simp only; omega
    · exact ih (i + 1)
theorem free_zero {g : Int} {l : List Sl} (h : ∀ i, i < l.length → (atS l i).gen = g) : freeZ g l = 0 := by
  unfold freeZ
  rw [List.countP_eq_zero]
  intro s hs hf
  obtain ⟨i, hi, rfl⟩ := List.getElem_of_mem hs
  have := h i hi
  rw [atS_lt hi] at this
  unfold freeS at hf
  rw [Bool.and_eq_true, decide_eq_true_eq] at hf
  omega
theorem liveFrom_has : ∀ (l : List Sl) (i j : Nat), (atS l j).alive = true → ∃ q, ∃ h : q < (liveFrom i l).length, (liveFrom i l)[q].ks = ((i + j : Nat) : Int) ∧ (liveFrom i l)[q].kg = (atS l j).gen := by
  intro l
  induction l with
  | nil => intro i j h; rw [atS_out (by simp)] at h; cases h
  | cons s l ih =>
    intro i j h
    cases j with
    | zero =>
      have hs : s.alive = true := h
      have e : liveFrom i (s :: l) = ⟨(i : Int), s.gen, s.cap⟩ :: liveFrom (i + 1) l := by rw [liveFrom, if_pos hs]
      rw [e]
      exact ⟨0, by simp, rfl, rfl⟩
    | succ j =>
      have hj : (atS l j).alive = true := h
      obtain ⟨q, hq, h1, h2⟩ := ih (i + 1) j hj
      by_cases c : s.alive = true
      · have e : liveFrom i (s :: l) = ⟨(i : Int), s.gen, s.cap⟩ :: liveFrom (i + 1) l := by rw [liveFrom, if_pos c]
        rw [e]
        exact ⟨q + 1, by simp; exact hq, by simp only [List.getElem_cons_succ]; rw [h1]; congr 1; omega, by simp only [List.getElem_cons_succ]; exact h2⟩
      · have e : liveFrom i (s :: l) = liveFrom (i + 1) l := by
          rw [liveFrom, if_neg c]
        rw [e]
        exact ⟨q, hq, by rw [h1]; congr 1; omega, h2⟩
/-- The alive ones that a list still has from a place on. -/
structure LI (l : List Sl) (xs : List Lv) (p : Nat) : Prop where
  fwd : ∀ q (h : q < xs.length), p ≤ q → ∃ i : Nat, xs[q].ks = (i : Int) ∧ (atS l i).alive = true ∧ (atS l i).gen = xs[q].kg
  bwd : ∀ j, (atS l j).alive = true → ∃ q, ∃ h : q < xs.length, p ≤ q ∧ xs[q].ks = (j : Int)
theorem LI.start (l : List Sl) : LI l (liveZ l) 0 := by
  refine ⟨fun q h _ => ?_, fun j h => ?_⟩
  · obtain ⟨j, h1, h2, h3, _⟩ := liveFrom_mem l 0 _ (List.getElem_mem h)
    exact ⟨j, by rw [h1]; simp, h2, h3.symm⟩
  · obtain ⟨q, hq, h1, _⟩ := liveFrom_has l 0 j h
    exact ⟨q, hq, Nat.zero_le _, by show (liveFrom 0 l)[q].ks = _; rw [h1]; simp⟩
theorem LI.step {l : List Sl} {xs : List Lv} {p i : Nat} (h : LI l xs p) (hs : xs.Pairwise (fun a b => a.ks < b.ks)) (hp : p < xs.length) (hi : xs[p].ks = (i : Int)) : LI (l.set i (killS (atS l i))) xs (p + 1) := by
  have hlt := List.pairwise_iff_getElem.1 hs
  refine ⟨fun q hq hpq => ?_, fun j hj => ?_⟩
  · obtain ⟨j, h1, h2, h3⟩ := h.fwd q hq (by omega)
    have := hlt p q hp hq (by omega)
    refine ⟨j, h1, ?_⟩
    rw [atS_set, if_neg (fun e => by have := e.1; omega)]
    exact ⟨h2, h3⟩
  · rw [atS_set] at hj
    by_cases e : i = j ∧ i < l.length
    · rw [if_pos e] at hj; cases hj
    · rw [if_neg e] at hj
      obtain ⟨q, hq, h1, h2⟩ := h.bwd j hj
      refine ⟨q, hq, ?_, h2⟩
      by_cases c : q = p
      · subst c
        exfalso
        exact e ⟨by omega, by rw [show i = j by omega]; exact atS_alive_lt hj⟩
      · omega
theorem LI.fin {l : List Sl} {xs : List Lv} {p : Nat} (h : LI l xs p) (hp : xs.length ≤ p) (j : Nat) : (atS l j).alive = false := by
  cases e : (atS l j).alive
  · rfl
  · obtain ⟨q, hq, h1, _⟩ := h.bwd j e
    omega
theorem lives_zero {l : List Sl} (h : ∀ j, (atS l j).alive = false) : lives l = 0 := by
  unfold lives
  rw [List.countP_eq_zero]
  intro s hs
  obtain ⟨i, hi, rfl⟩ := List.getElem_of_mem hs
  rw [← atS_lt hi, h i]
  decide
theorem liveZ_nil {l : List Sl} (h : ∀ j, (atS l j).alive = false) : liveZ l = [] := by
  have := liveFrom_len l 0
  rw [lives_zero h] at this
  exact List.eq_nil_of_length_eq_zero this
theorem dead_back {l : List Sl} {i : Nat} {s : Sl} (h : ∀ j, (atS l j).alive = false) (hi : i < l.length) : ∀ j, (atS ((l.set i s).set i (killS (atS (l.set i s) i))) j).alive = false := fun j => by
  rw [atS_set]
  split
  · rfl
  · rename_i e
    rw [atS_set]
    split
    · rename_i e2
      exact absurd ⟨e2.1, by rw [List.length_set]; exact e2.2⟩ e
    · exact h j
/-! ### what a token allows is within what that one allows from which it comes -/
structure Lss (l : List Sl) : Prop where
  gen : ∀ i, 0 ≤ (atS l i).gen ∧ ((atS l i).alive = true → 1 ≤ (atS l i).gen)
  rr : ∀ i, (atS l i).alive = true → 1 ≤ (atS l i).cap.rights ∧ (atS l i).cap.rights ≤ 15
  up : ∀ i, (atS l i).alive = true → ¬ ((atS l i).cap.us = 0 ∧ (atS l i).cap.ug = 0) → ∃ p : Nat, (atS l p).alive = true ∧ (atS l i).cap.us = (p : Int) ∧ (atS l i).cap.ug = (atS l p).gen ∧ (atS l p).cap.obj = (atS l i).cap.obj ∧ Go.bits .andNot .i64 (atS l i).cap.rights (atS l p).cap.rights = 0 ∧ Go.bits .and .i64 (atS l p).cap.rights 8 ≠ 0
theorem bits_all : ∀ r : Fin 16, ∀ s : Fin 16, Go.bits .andNot .i64 (Go.bits .or .i64 (r.val : Int) 8) (s.val : Int) = 0 → Go.bits .andNot .i64 (r.val : Int) (s.val : Int) = 0 ∧ Go.bits .and .i64 (s.val : Int) 8 ≠ 0 := by decide +kernel
theorem bits_share {r s : Int} (hr : 0 ≤ r ∧ r ≤ 15) (hs : 0 ≤ s ∧ s ≤ 15) (h : Go.bits .andNot .i64 (Go.bits .or .i64 r 8) s = 0) : Go.bits .andNot .i64 r s = 0 ∧ Go.bits .and .i64 s 8 ≠ 0 := by
  obtain ⟨a, rfl⟩ : ∃ a : Nat, r = (a : Int) := ⟨r.toNat, by omega⟩
  obtain ⟨b, rfl⟩ : ∃ b : Nat, s = (b : Int) := ⟨s.toNat, by omega⟩
  exact bits_all ⟨a, by omega⟩ ⟨b, by omega⟩ h
theorem lookZ_ok {l : List Sl} {ks kg who rights : Int} (h : (lookZ l ks kg who rights).2 = 0) : ∃ i : Nat, ks = (i : Int) ∧ (atS l i).alive = true ∧ (atS l i).gen = kg ∧ (lookZ l ks kg who rights).1 = (atS l i).cap ∧ Go.bits .andNot .i64 rights (atS l i).cap.rights = 0 := by
  unfold lookZ at h ⊢
  by_cases c1 : rights < 0 ∨ rights > 15
  · rw [if_pos c1] at h; cases h
  rw [if_neg c1] at h ⊢
  by_cases c2 : findE l ks kg ≠ 0
  · rw [if_pos c2] at h; exact absurd h c2
  rw [if_neg c2] at h ⊢
  obtain ⟨i, rfl, hi, ha, hg⟩ := findE_ok (Classical.not_not.1 c2)
  rw [Int.toNat_natCast] at h ⊢
  by_cases c3 : (atS l i).cap.owner ≠ who ∨ Go.bits .andNot .i64 rights (atS l i).cap.rights ≠ 0
  · rw [if_pos c3] at h; cases h
  rw [if_neg c3]
  exact ⟨i, rfl, ha, hg, rfl, Classical.byContradiction (fun x => c3 (.inr x))⟩
theorem giveZ_or (g : Int) (l : List Sl) (c : Cp) : (∃ i, i < l.length ∧ freeS g (atS l i) = true ∧ giveZ g l c = (l.set i ⟨(atS l i).gen + 1, true, c⟩, (i : Int), (atS l i).gen + 1, 0)) ∨ giveZ g l c = (l, 0, 0, 4) := by
  unfold giveZ
  cases e : l.findIdx? (freeS g) with
  | none => exact .inr rfl
  | some i =>
    rw [List.findIdx?_eq_some_iff_getElem] at e
    obtain ⟨hi, hf, _⟩ := e
    rw [← atS_lt hi] at hf
    exact .inl ⟨i, hi, hf, rfl⟩
theorem freeS_dead {g : Int} {s : Sl} (h : freeS g s = true) : s.alive = false ∧ s.gen < g := by
  unfold freeS at h
  rw [Bool.and_eq_true, Bool.not_eq_true', decide_eq_true_eq] at h
  exact h
theorem Lss.give {l : List Sl} (h : Lss l) (g : Int) (c : Cp) (hr : 1 ≤ c.rights ∧ c.rights ≤ 15) (hu : ¬ (c.us = 0 ∧ c.ug = 0) → ∃ p : Nat, (atS l p).alive = true ∧ c.us = (p : Int) ∧ c.ug = (atS l p).gen ∧ (atS l p).cap.obj = c.obj ∧ Go.bits .andNot .i64 c.rights (atS l p).cap.rights = 0 ∧ Go.bits .and .i64 (atS l p).cap.rights 8 ≠ 0) : Lss (giveZ g l c).1 := by
  rcases giveZ_or g l c with ⟨i, hi, hf, e⟩ | e
  · rw [e]
    have hd := (freeS_dead hf).1
    have hne : ∀ p, (atS l p).alive = true → ¬ (i = p ∧ i < l.length) := fun p hp x => by rw [← x.1, hd] at hp; cases hp
    refine ⟨fun j => ?_, fun j ha => ?_, fun j ha hn => ?_⟩
    · simp only
      rw [atS_set]
      split
      · have := (h.gen i).1; simp only; exact ⟨by omega, fun _ => by omega⟩
      · exact h.gen j
    · simp only at ha ⊢
      rw [atS_set] at ha ⊢
      split
      · exact hr
      · rename_i x; rw [if_neg x] at ha; exact h.rr j ha
    · simp only at ha hn ⊢
      rw [atS_set] at ha hn ⊢
      by_cases x : i = j ∧ i < l.length
      · rw [if_pos x] at hn ⊢
        obtain ⟨p, p1, p2, p3, p4, p5, p6⟩ := hu hn
        refine ⟨p, ?_⟩
        rw [atS_set, if_neg (hne p p1)]
        exact ⟨p1, p2, p3, p4, p5, p6⟩
      · rw [if_neg x] at ha hn ⊢
        obtain ⟨p, p1, p2, p3, p4, p5, p6⟩ := h.up j ha hn
        refine ⟨p, ?_⟩
        rw [atS_set, if_neg (hne p p1)]
        exact ⟨p1, p2, p3, p4, p5, p6⟩
  · rw [e]; exact h
theorem Lss.mint {l : List Sl} (h : Lss l) (g obj rights owner : Int) : Lss (mintZ g l obj rights owner).1 := by
  unfold mintZ
  by_cases c : obj < 0 ∨ owner < 0 ∨ rights < 1 ∨ rights > 15
  · rw [if_pos c]; exact h
  · rw [if_neg c]
    exact h.give g _ (by simp only; omega) (fun x => absurd ⟨rfl, rfl⟩ x)
theorem Lss.derive {l : List Sl} (h : Lss l) (g ks kg who rights owner : Int) : Lss (deriveZ g l ks kg who rights owner).1 := by
  unfold deriveZ
  by_cases c : owner < 0 ∨ rights < 1 ∨ rights > 15
  · rw [if_pos c]; exact h
  · rw [if_neg c]
    by_cases c2 : (lookZ l ks kg who (Go.bits .or .i64 rights 8)).2 ≠ 0
    · rw [if_pos c2]; exact h
    · rw [if_neg c2]
      obtain ⟨i, rfl, ha, hg, hc, hb⟩ := lookZ_ok (Classical.not_not.1 c2)
      rw [hc]
      have hrr := h.rr i ha
      have hs := bits_share (by omega) (by omega) hb
      exact h.give g _ (by simp only; omega) (fun _ => ⟨i, ha, rfl, hg.symm, rfl, hs.1, hs.2⟩)
theorem Lss.revoke {l : List Sl} (h : Lss l) (ks kg : Int) : Lss (revokeZ l ks kg).1 := by
  unfold revokeZ
  by_cases c : findE l ks kg ≠ 0
  · rw [if_pos c]; exact h
  · rw [if_neg c]
    obtain ⟨i, rfl, hi, ha, hg⟩ := findE_ok (Classical.not_not.1 c)
    rw [Int.toNat_natCast]
    have r := revS_ok (lives l) l i ha (Nat.le_refl _)
    generalize revS (lives l) l i = z at r
    obtain ⟨l', n⟩ := z
    simp only at r ⊢
    refine ⟨fun j => ?_, fun j hj => ?_, fun j hj hn => ?_⟩
    · rw [r.less.gen]; exact ⟨(h.gen j).1, fun x => (h.gen j).2 (r.less.dead j x)⟩
    · rw [r.less.cap]; exact h.rr j (r.less.dead j hj)
    · rw [r.less.cap] at hn ⊢
      have hj0 := r.less.dead j hj
      obtain ⟨p, p1, p2, p3, p4⟩ := h.up j hj0 hn
      refine ⟨p, ?_, ?_⟩
      · cases e : (atS l' p).alive
        · have := r.closed p j p1 e ⟨hj0, p2, p3⟩
          rw [hj] at this; cases this
        · rfl
      · rw [r.less.gen, r.less.cap]; exact ⟨p2, p3, p4⟩
theorem Lss.does {l : List Sl} (h : Lss l) (g : Int) (a : Ac) : Lss (doesZ g l a).1 := by
  unfold doesZ
  split
  · exact h.mint g _ _ _
  · split
    · exact h.derive g _ _ _ _ _
    · split
      · exact h.revoke _ _
      · exact h
theorem Lss.start (n : Nat) : Lss (List.replicate n sl0) := by
  refine ⟨fun i => ?_, fun i h => ?_, fun i h => ?_⟩
  · rw [atS_rep]; exact ⟨by decide, fun h => by cases h⟩
  · rw [atS_rep] at h; cases h
  · rw [atS_rep] at h; cases h
/-- The test of the law's inner loop. -/
def okB (x y : Lv) : Bool := (y.ks == x.cap.us && y.kg == x.cap.ug) && (y.cap.obj == x.cap.obj) && (Go.bits .andNot .i64 x.cap.rights y.cap.rights == 0) && (Go.bits .and .i64 y.cap.rights 8 != 0)
theorem Lss.live {l : List Sl} (h : Lss l) : (∀ x, x ∈ liveZ l → 1 ≤ x.cap.rights ∧ x.cap.rights ≤ 15) ∧ ∀ x, x ∈ liveZ l → ¬ (x.cap.us = 0 ∧ x.cap.ug = 0) → (liveZ l).any (okB x) = true := by
  refine ⟨fun x hx => ?_, fun x hx hn => ?_⟩
  · obtain ⟨j, h1, h2, h3, h4⟩ := liveFrom_mem l 0 x hx
    rw [h4]; exact h.rr j h2
  · obtain ⟨j, h1, h2, h3, h4⟩ := liveFrom_mem l 0 x hx
    rw [h4] at hn
    obtain ⟨p, p1, p2, p3, p4, p5, p6⟩ := h.up j h2 hn
    obtain ⟨q, hq, q1, q2⟩ := liveFrom_has l 0 p p1
    have hm : (liveFrom 0 l)[q] ∈ liveZ l := List.getElem_mem hq
    obtain ⟨j2, k1, k2, k3, k4⟩ := liveFrom_mem l 0 _ hm
    have hj2 : j2 = p := by rw [q1] at k1; omega
    subst hj2
    refine List.any_eq_true.2 ⟨_, hm, ?_⟩
    unfold okB
    rw [q1, q2, k4, h4, beq_iff_eq.2 (show ((0 + j2 : Nat) : Int) = (atS l j).cap.us by rw [p2]; simp), beq_iff_eq.2 p3.symm, beq_iff_eq.2 p4, beq_iff_eq.2 p5, bne_iff_ne.2 p6]
    rfl

end Go.Proofs.Ytecbdhampjmlaaa.Ext
