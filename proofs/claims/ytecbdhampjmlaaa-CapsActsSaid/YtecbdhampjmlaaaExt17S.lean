/- caps: the document's functions, on a list that simulates a table. -/
import Derived.Test.YtecbdhampjmlaaaExt17M
import Derived.Test.YtecbdhampjmlaaaXCapsActsx3
import Derived.Test.YtecbdhampjmlaaaXCapsActsx4
import Derived.Test.YtecbdhampjmlaaaXCapsActsx5
import Derived.Test.YtecbdhampjmlaaaXCapsActsx6
import Derived.Test.YtecbdhampjmlaaaXCapsActsx7
import Derived.Test.YtecbdhampjmlaaaWMore
import Derived.WalkKit
import Derived.WalkMore
import Derived.Below
import Derived.KernelRfl
import Derived.LoopTactic
import Derived.Deep.RegionWith
import Derived.Deep.RegionHeld3
import Derived.IntWalk
import Derived.Deep.DeepCutAuto
import Derived.Deep.CutBlock
import Derived.BigQuiet
import Derived.Laws.RangeString
import Derived.Laws.RangeAny
import Derived.Laws.Rows
import Derived.Laws.Runes
import Derived.Lib.OthersKept
import Derived.OpenShut
set_option linter.unusedVariables false
set_option linter.unusedSimpArgs false
namespace Go.Proofs.Ytecbdhampjmlaaa.Ext
open Go.RowKit Go.Lib Go.Proofs.YtecbdhampjmlaaaW.PrintWords Go.Proofs.YtecbdhampjmlaaaW.PrintMore Go.Proofs.Ytecbdhampjmlaaa.XCapsActs

/-! ### the document's table: a list of all tokens that were given -/
structure Gv where
  ks : Int
  kg : Int
  cap : Cp
  alive : Bool
def timesN (L : List Gv) (s : Int) : Nat := L.countP (fun g => g.ks == s)
def timesA (L : List Gv) (s : Int) : Bool := L.any (fun g => g.ks == s && g.alive)
theorem timesN_append (A B : List Gv) (s : Int) : timesN (A ++ B) s = timesN A s + timesN B s := List.countP_append
theorem timesN_one (g : Gv) (s : Int) : timesN [g] s = if g.ks = s then 1 else 0 := by
  unfold timesN
  by_cases h : g.ks = s <;> simp [h]
structure Sim (l : List Sl) (L : List Gv) : Prop where
  cnt : ∀ i, i < l.length → (atS l i).gen = (timesN L (i : Int) : Int)
  slot : ∀ g : Gv, g ∈ L → 0 ≤ g.ks ∧ g.ks < (l.length : Int)
  num : ∀ (p : Nat) (g : Gv), L[p]? = some g → g.kg = (timesN (L.take p) g.ks : Int) + 1
  alive : ∀ g : Gv, g ∈ L → g.alive = true → (atS l g.ks.toNat).alive = true ∧ (atS l g.ks.toNat).gen = g.kg ∧ (atS l g.ks.toNat).cap = g.cap
  live : ∀ i, (atS l i).alive = true → ∃ g : Gv, g ∈ L ∧ g.alive = true ∧ g.ks = (i : Int)
  up : ∀ (p : Nat) (g : Gv), L[p]? = some g → g.cap.ug ≠ 0 → ∃ (q : Nat) (h : Gv), q < p ∧ L[q]? = some h ∧ h.ks = g.cap.us ∧ h.kg = g.cap.ug
  upA : ∀ g : Gv, g ∈ L → g.alive = true → g.cap.ug ≠ 0 → ∃ h : Gv, h ∈ L ∧ h.alive = true ∧ h.ks = g.cap.us ∧ h.kg = g.cap.ug
  rights : ∀ g : Gv, g ∈ L → 1 ≤ g.cap.rights ∧ g.cap.rights ≤ 15
theorem Sim.kg {l : List Sl} {L : List Gv} (S : Sim l L) {g : Gv} (h : g ∈ L) : 1 ≤ g.kg := by
  obtain ⟨p, hp, e⟩ := List.getElem_of_mem h
  have := S.num p g (by rw [List.getElem?_eq_getElem hp, e])
  omega
theorem take_mono (L : List Gv) (s : Int) {p q : Nat} (g : Gv) (h : L[p]? = some g) (hs : g.ks = s) (hpq : p < q) : timesN (L.take p) s + 1 ≤ timesN (L.take q) s := by
  obtain ⟨d, rfl⟩ : ∃ d, q = p + 1 + d := ⟨q - (p + 1), by omega⟩
  have hp := (List.getElem?_eq_some_iff.1 h).1
  have e : L.take (p + 1) = L.take p ++ [g] := by
    rw [List.take_succ_eq_append_getElem hp, (List.getElem?_eq_some_iff.1 h).2]
  have h1 : timesN (L.take (p + 1)) s = timesN (L.take p) s + 1 := by rw [e, timesN_append, timesN_one, if_pos hs]
  have h2 : timesN (L.take (p + 1)) s ≤ timesN (L.take (p + 1 + d)) s := by
    have : (L.take (p + 1)).Sublist (L.take (p + 1 + d)) := by
      have := List.take_sublist (p + 1) (L.take (p + 1 + d))
      rwa [List.take_take, Nat.min_eq_left (by omega)] at this
    exact this.countP_le
  omega
theorem Sim.inj {l : List Sl} {L : List Gv} (S : Sim l L) {p q : Nat} {g h : Gv} (hg : L[p]? = some g) (hh : L[q]? = some h) (e1 : g.ks = h.ks) (e2 : g.kg = h.kg) : p = q := by
  have n1 := S.num p g hg
  have n2 := S.num q h hh
  by_cases c : p < q
  · have := take_mono L h.ks g hg e1 c
    rw [e1] at n1
    omega
  · by_cases c2 : q < p
    · have := take_mono L g.ks h hh e1.symm c2
      rw [← e1] at n2
      omega
    · omega
theorem Sim.eq {l : List Sl} {L : List Gv} (S : Sim l L) {g h : Gv} (hg : g ∈ L) (hh : h ∈ L) (e1 : g.ks = h.ks) (e2 : g.kg = h.kg) : g = h := by
  obtain ⟨p, hp, ep⟩ := List.getElem_of_mem hg
  obtain ⟨q, hq, eq⟩ := List.getElem_of_mem hh
  have g1 : L[p]? = some g := by rw [List.getElem?_eq_getElem hp, ep]
  have g2 : L[q]? = some h := by rw [List.getElem?_eq_getElem hq, eq]
  have := S.inj g1 g2 e1 e2
  subst this
  rw [g1] at g2
  exact Option.some.inj g2
theorem Sim.one {l : List Sl} {L : List Gv} (S : Sim l L) {g h : Gv} (hg : g ∈ L) (hh : h ∈ L) (ag : g.alive = true) (ah : h.alive = true) (e : g.ks = h.ks) : g = h := by
  have a := (S.alive g hg ag).2.1
  have b := (S.alive h hh ah).2.1
  rw [← e] at b
  exact S.eq hg hh e (a.symm.trans b)
theorem Sim.times {l : List Sl} {L : List Gv} (S : Sim l L) (i : Nat) : timesA L (i : Int) = (atS l i).alive := by
  cases e : (atS l i).alive
  · unfold timesA
    rw [List.any_eq_false]
    intro g hg hh
    rw [Bool.and_eq_true, beq_iff_eq] at hh
    have := (S.alive g hg hh.2).1
    rw [hh.1, Int.toNat_natCast, e] at this
    cases this
  · obtain ⟨g, h1, h2, h3⟩ := S.live i e
    unfold timesA
    exact List.any_eq_true.2 ⟨g, h1, by rw [h2, beq_iff_eq.2 h3]; rfl⟩
theorem Sim.free {l : List Sl} {L : List Gv} (S : Sim l L) (g : Int) (i : Nat) (hi : i < l.length) : freeS g (atS l i) = (!timesA L (i : Int) && decide ((timesN L (i : Int) : Int) < g)) := by
  unfold freeS
  rw [S.times, S.cnt i hi]
/-- A token that is given. -/
theorem Sim.give {l : List Sl} {L : List Gv} (S : Sim l L) {i : Nat} (hi : i < l.length) (hd : (atS l i).alive = false) (c : Cp) (hr : 1 ≤ c.rights ∧ c.rights ≤ 15) (hu : c.ug ≠ 0 → ∃ h, h ∈ L ∧ h.alive = true ∧ h.ks = c.us ∧ h.kg = c.ug) :
    Sim (l.set i ⟨(atS l i).gen + 1, true, c⟩) (L ++ [⟨(i : Int), (atS l i).gen + 1, c, true⟩]) := by
  have hc := S.cnt i hi
  have other : ∀ g, g ∈ L → g.alive = true → g.ks.toNat ≠ i := fun g hg ha e => by
    have := (S.alive g hg ha).1
    rw [e, hd] at this; cases this
  have inv : ∀ g, g ∈ L ++ [(⟨(i : Int), (atS l i).gen + 1, c, true⟩ : Gv)] → g ∈ L ∨ g = ⟨(i : Int), (atS l i).gen + 1, c, true⟩ := fun g hg => by
    rcases List.mem_append.1 hg with h | h
    · exact .inl h
    · exact .inr (List.mem_singleton.1 h)
  have invp : ∀ p g, (L ++ [(⟨(i : Int), (atS l i).gen + 1, c, true⟩ : Gv)])[p]? = some g → (L[p]? = some g ∧ p < L.length) ∨ (p = L.length ∧ g = ⟨(i : Int), (atS l i).gen + 1, c, true⟩) := fun p g h => by
    by_cases c1 : p < L.length
    · rw [List.getElem?_append_left c1] at h; exact .inl ⟨h, c1⟩
    · rw [List.getElem?_append_right (by omega)] at h
      have : p - L.length = 0 := by
        by_cases z : p - L.length = 0
        · exact z
        · rw [List.getElem?_eq_none (by simp; omega)] at h; cases h
      rw [this] at h
      exact .inr ⟨by omega, (Option.some.inj h).symm⟩
  refine ⟨fun k hk => ?_, fun g hg => ?_, fun p g h => ?_, fun g hg ha => ?_, fun k hk => ?_, fun p g h hne => ?_, fun g hg ha hne => ?_, fun g hg => ?_⟩
  · rw [List.length_set] at hk
    rw [atS_set, timesN_append, timesN_one]
    by_cases e : i = k
    · subst e
      rw [if_pos ⟨rfl, hi⟩, if_pos rfl]
      simp only
      omega
    · rw [if_neg (fun x => e x.1), if_neg (by simp; omega), S.cnt k hk]
      simp
  · rw [List.length_set]
    rcases inv g hg with h | rfl
    · exact S.slot g h
    · simp only; omega
  · rcases invp p g h with ⟨h1, h2⟩ | ⟨rfl, rfl⟩
    · rw [List.take_append_of_le_length (by omega)]
      exact S.num p g h1
    · rw [List.take_append_of_le_length (Nat.le_refl _), List.take_length]
      simp only
      omega
  · rcases inv g hg with h | rfl
    · have := other g h ha
      rw [atS_set, if_neg (fun x => this x.1.symm)]
      exact S.alive g h ha
    · simp only [Int.toNat_natCast]
      rw [atS_set, if_pos ⟨rfl, hi⟩]
      exact ⟨rfl, rfl, rfl⟩
  · rw [atS_set] at hk
    by_cases e : i = k ∧ i < l.length
    · exact ⟨_, List.mem_append_right _ (List.mem_singleton.2 rfl), rfl, by rw [e.1]⟩
    · rw [if_neg e] at hk
      obtain ⟨g, h1, h2, h3⟩ := S.live k hk
      exact ⟨g, List.mem_append_left _ h1, h2, h3⟩
  · rcases invp p g h with ⟨h1, h2⟩ | ⟨rfl, rfl⟩
    · obtain ⟨q, x, g1, g2, g3, g4⟩ := S.up p g h1 hne
      exact ⟨q, x, g1, by rw [List.getElem?_append_left (by omega)]; exact g2, g3, g4⟩
    · obtain ⟨x, g1, _, g3, g4⟩ := hu hne
      obtain ⟨q, hq, eq⟩ := List.getElem_of_mem g1
      exact ⟨q, x, hq, by rw [List.getElem?_append_left hq, List.getElem?_eq_getElem hq, eq], g3, g4⟩
  · rcases inv g hg with h | rfl
    · obtain ⟨x, g1, g2, g3, g4⟩ := S.upA g h ha hne
      exact ⟨x, List.mem_append_left _ g1, g2, g3, g4⟩
    · obtain ⟨x, g1, g2, g3, g4⟩ := hu hne
      exact ⟨x, List.mem_append_left _ g1, g2, g3, g4⟩
  · rcases inv g hg with h | rfl
    · exact S.rights g h
    · exact hr
/-- find. -/
theorem Sim.find {l : List Sl} {L : List Gv} (S : Sim l L) (ks kg : Int) (h0 : 0 ≤ ks) (h1 : ks < (l.length : Int)) :
    (findE l ks kg = 0 ↔ ∃ g, g ∈ L ∧ g.alive = true ∧ g.ks = ks ∧ g.kg = kg) ∧ (findE l ks kg = 0 ∨ findE l ks kg = 7) := by
  have e : findE l ks kg = if (atS l ks.toNat).alive = true ∧ (atS l ks.toNat).gen = kg then 0 else 7 := by
    unfold findE
    rw [if_neg (by omega)]
  rw [e]
  refine ⟨⟨fun h => ?_, fun ⟨g, g1, g2, g3, g4⟩ => ?_⟩, ?_⟩
  · by_cases c : (atS l ks.toNat).alive = true ∧ (atS l ks.toNat).gen = kg
    · obtain ⟨g, g1, g2, g3⟩ := S.live _ c.1
      have := (S.alive g g1 g2).2.1
      rw [g3, Int.toNat_natCast] at this
      exact ⟨g, g1, g2, by omega, by rw [← this]; exact c.2⟩
    · rw [if_neg c] at h; cases h
  · have := S.alive g g1 g2
    rw [g3] at this
    rw [if_pos ⟨this.1, this.2.1.trans g4⟩]
  · split
    · exact .inl rfl
    · exact .inr rfl
/-! ### Revoke -/
def isUp (gone : List (Int × Int)) (x : Gv) : Bool := gone.any (fun t => x.cap.us == t.1 && x.cap.ug == t.2)
def rvk (ks kg : Int) : List Gv → List (Int × Int) → List Gv × Int
  | [], _ => ([], 0)
  | x :: L, gone => if (x.ks == ks && x.kg == kg || isUp gone x) = true then ({ x with alive := false } :: (rvk ks kg L (gone ++ [(x.ks, x.kg)])).1, (if x.alive = true then 1 else 0) + (rvk ks kg L (gone ++ [(x.ks, x.kg)])).2) else (x :: (rvk ks kg L gone).1, (rvk ks kg L gone).2)
inductive DA (L : List Gv) (ks kg : Int) : Int → Int → Prop
  | base : DA L ks kg ks kg
  | step {g : Gv} : g ∈ L → DA L ks kg g.cap.us g.cap.ug → DA L ks kg g.ks g.kg
theorem rvk_ok {l : List Sl} {L : List Gv} (S : Sim l L) (ks kg : Int) (hk : 1 ≤ kg) : ∀ (B A : List Gv) (gone : List (Int × Int)), L = A ++ B →
    (∀ t : Int × Int, t ∈ gone ↔ t = (ks, kg) ∨ ∃ x : Gv, x ∈ A ∧ t = (x.ks, x.kg) ∧ DA L ks kg x.ks x.kg) →
    (rvk ks kg B gone).1.length = B.length ∧ ∀ (p : Nat) (x : Gv), B[p]? = some x → (DA L ks kg x.ks x.kg → (rvk ks kg B gone).1[p]? = some { x with alive := false }) ∧ (¬ DA L ks kg x.ks x.kg → (rvk ks kg B gone).1[p]? = some x) := by
  intro B
  induction B with
  | nil => intro A gone _ _; exact ⟨rfl, fun p x h => by simp at h⟩
  | cons y B ih =>
    intro A gone hL hg
    have hy : y ∈ L := by rw [hL]; exact List.mem_append_right _ List.mem_cons_self
    have hpos : L[A.length]? = some y := by rw [hL, List.getElem?_append_right (Nat.le_refl _), Nat.sub_self]; rfl
    have test : (y.ks == ks && y.kg == kg || isUp gone y) = true ↔ DA L ks kg y.ks y.kg := by
      rw [Bool.or_eq_true, Bool.and_eq_true, beq_iff_eq, beq_iff_eq]
      constructor
      · rintro (⟨h1, h2⟩ | h)
        · rw [h1, h2]; exact .base
        · obtain ⟨t, ht, he⟩ := List.any_eq_true.1 h
          rw [Bool.and_eq_true, beq_iff_eq, beq_iff_eq] at he
          refine .step hy ?_
          rw [he.1, he.2]
          rcases (hg t).1 ht with e | ⟨x, _, e, hd⟩
          · rw [e]; exact .base
          · rw [e]; exact hd
      · intro h
        generalize hks : y.ks = a at h
        generalize hkg : y.kg = b at h
        cases h with
        | base => exact .inl ⟨rfl, rfl⟩
        | @step g hgm hd =>
          have e : g = y := S.eq hgm hy hks.symm hkg.symm
          subst e
          right
          refine List.any_eq_true.2 ⟨(g.cap.us, g.cap.ug), (hg _).2 ?_, by simp⟩
          generalize hu : g.cap.us = u at hd
          generalize hv : g.cap.ug = v at hd
          cases hd with
          | base => exact .inl rfl
          | @step x hx hd2 =>
            right
            have hv0 : g.cap.ug ≠ 0 := by have := S.kg hx; omega
            obtain ⟨q, z, h1, h2, h3, h4⟩ := S.up A.length g hpos hv0
            have hzA : z ∈ A := by
              rw [hL, List.getElem?_append_left h1] at h2
              exact List.mem_of_getElem? h2
            have hzL : z ∈ L := by rw [hL]; exact List.mem_append_left _ hzA
            have e2 : z = x := S.eq hzL hx (h3.trans hu) (h4.trans hv)
            subst e2
            exact ⟨z, hzA, rfl, .step hx hd2⟩
    have hL2 : L = (A ++ [y]) ++ B := by rw [hL, List.append_assoc]; rfl
    unfold rvk
    by_cases c : (y.ks == ks && y.kg == kg || isUp gone y) = true
    · rw [if_pos c]
      have hd := test.1 c
      obtain ⟨i1, i2⟩ := ih (A ++ [y]) (gone ++ [(y.ks, y.kg)]) hL2 (fun t => by
        rw [List.mem_append, List.mem_singleton, hg t]
        constructor
        · rintro ((h | ⟨x, h1, h2, h3⟩) | h)
          · exact .inl h
          · exact .inr ⟨x, List.mem_append_left _ h1, h2, h3⟩
          · exact .inr ⟨y, List.mem_append_right _ (List.mem_singleton.2 rfl), h, hd⟩
        · rintro (h | ⟨x, h1, h2, h3⟩)
          · exact .inl (.inl h)
          · rcases List.mem_append.1 h1 with h1 | h1
            · exact .inl (.inr ⟨x, h1, h2, h3⟩)
            · rw [List.mem_singleton.1 h1] at h2; exact .inr h2)
      refine ⟨by simp only [List.length_cons, i1], fun p x hx => ?_⟩
      cases p with
      | zero =>
        obtain rfl : y = x := Option.some.inj hx
        exact ⟨fun _ => rfl, fun h => absurd hd h⟩
      | succ p => exact i2 p x hx
    · rw [if_neg c]
      have hd : ¬ DA L ks kg y.ks y.kg := fun h => c (test.2 h)
      obtain ⟨i1, i2⟩ := ih (A ++ [y]) gone hL2 (fun t => by
        rw [hg t]
        constructor
        · rintro (h | ⟨x, h1, h2, h3⟩)
          · exact .inl h
          · exact .inr ⟨x, List.mem_append_left _ h1, h2, h3⟩
        · rintro (h | ⟨x, h1, h2, h3⟩)
          · exact .inl h
          · rcases List.mem_append.1 h1 with h1 | h1
            · exact .inr ⟨x, h1, h2, h3⟩
            · rw [List.mem_singleton.1 h1] at h3; exact absurd h3 hd)
      refine ⟨by simp only [List.length_cons, i1], fun p x hx => ?_⟩
      cases p with
      | zero =>
        obtain rfl : y = x := Option.some.inj hx
        exact ⟨fun h => absurd h hd, fun _ => rfl⟩
      | succ p => exact i2 p x hx
def aliveN (L : List Gv) : Nat := L.countP (·.alive)
theorem rvk_num (ks kg : Int) : ∀ (B : List Gv) (gone : List (Int × Int)), (rvk ks kg B gone).2 = (aliveN B : Int) - (aliveN (rvk ks kg B gone).1 : Int) := by
  intro B
  induction B with
  | nil => intro gone; rfl
  | cons y B ih =>
    intro gone
    unfold rvk
    unfold aliveN at ih ⊢
    by_cases c : (y.ks == ks && y.kg == kg || isUp gone y) = true
    · rw [if_pos c]
      have := ih (gone ++ [(y.ks, y.kg)])
      simp only [List.countP_cons]
      rw [this]
      cases y.alive <;> simp <;> omega
    · rw [if_neg c]
      have := ih gone
      simp only [List.countP_cons]
      rw [this]
      omega
theorem count_slots (p : Gv → Bool) : ∀ (n : Nat) (L : List Gv), (∀ g, g ∈ L → p g = true → 0 ≤ g.ks ∧ g.ks < (n : Int)) → L.countP p = ((List.range n).map (fun s : Nat => L.countP (fun g => p g && g.ks == (s : Int)))).sum := by
  intro n
  induction n with
  | zero =>
    intro L h
    simp only [List.range_zero, List.map_nil, List.sum_nil]
    rw [List.countP_eq_zero]
    intro g hg hp
    have := h g hg hp
    omega
  | succ n ih =>
    intro L h
    rw [List.range_succ, List.map_append, List.sum_append, List.map_singleton, List.sum_singleton]
    have h1 := ih (L.filter (fun g => !(g.ks == (n : Int)))) (fun g hg hp => by
      obtain ⟨a, b⟩ := List.mem_filter.1 hg
      have := h g a hp
      have : g.ks ≠ (n : Int) := by simpa using b
      omega)
    have e1 : ∀ s : Nat, s ∈ List.range n → (L.filter (fun g => !(g.ks == (n : Int)))).countP (fun g => p g && g.ks == (s : Int)) = L.countP (fun g => p g && g.ks == (s : Int)) := fun s hs => by
      have hs := List.mem_range.1 hs
      rw [List.countP_filter]
      refine List.countP_congr (fun g _ => ?_)
      simp only [Bool.and_eq_true, beq_iff_eq, Bool.not_eq_true', beq_eq_false_iff_ne]
      constructor
      · rintro ⟨⟨a, b⟩, _⟩; exact ⟨a, b⟩
      · rintro ⟨a, b⟩; exact ⟨⟨a, b⟩, by omega⟩
    rw [List.map_congr_left e1] at h1
    rw [← h1]
    clear h1 e1 ih h
    induction L with
    | nil => rfl
    | cons x L ih =>
      rw [List.countP_cons, List.countP_cons, ih]
      by_cases c : x.ks = (n : Int)
      · rw [List.filter_cons_of_neg (by simp [c])]
        cases p x <;> simp [c] <;> omega
      · rw [List.filter_cons_of_pos (by simp [c]), List.countP_cons]
        cases p x <;> simp [c] <;> omega
theorem lives_sum (l : List Sl) : lives l = ((List.range l.length).map (fun s : Nat => if (atS l s).alive = true then 1 else 0)).sum := by
  induction l with
  | nil => rfl
  | cons s l ih =>
    rw [List.length_cons, List.range_succ_eq_map, List.map_cons, List.map_map, List.sum_cons]
    unfold lives at ih ⊢
    rw [List.countP_cons, ih, Nat.add_comm]
    rfl
theorem Sim.count {l : List Sl} {L : List Gv} (S : Sim l L) : lives l = aliveN L := by
  unfold aliveN
  rw [lives_sum, count_slots (fun g => g.alive) l.length L (fun g hg _ => S.slot g hg)]
  congr 1
  refine List.map_congr_left (fun s hs => ?_)
  have hs := List.mem_range.1 hs
  cases e : (atS l s).alive
  · rw [if_neg (by decide)]
    symm
    rw [List.countP_eq_zero]
    intro g hg hh
    rw [Bool.and_eq_true, beq_iff_eq] at hh
    have := (S.alive g hg hh.1).1
    rw [hh.2, Int.toNat_natCast, e] at this
    cases this
  · rw [if_pos rfl]
    obtain ⟨g, h1, h2, h3⟩ := S.live s e
    have key : ∀ M : List Gv, (∀ x, x ∈ M → x ∈ L) → (M.Pairwise (fun a b => a.ks = b.ks → a.kg ≠ b.kg)) → g ∈ M → M.countP (fun g => g.alive && g.ks == (s : Int)) = 1 := by
      intro M
      induction M with
      | nil => intro _ _ h; cases h
      | cons x M ih =>
        intro hm hp hgm
        rw [List.pairwise_cons] at hp
        rw [List.countP_cons]
        by_cases c : (x.alive && x.ks == (s : Int)) = true
        · have cc := c
          rw [Bool.and_eq_true, beq_iff_eq] at cc
          have ex : x = g := S.one (hm x List.mem_cons_self) h1 cc.1 h2 (cc.2.trans h3.symm)
          have z : M.countP (fun g => g.alive && g.ks == (s : Int)) = 0 := by
            rw [List.countP_eq_zero]
            intro y hy hh
            rw [Bool.and_eq_true, beq_iff_eq] at hh
            have ey : y = g := S.one (hm y (List.mem_cons_of_mem _ hy)) h1 hh.1 h2 (hh.2.trans h3.symm)
            exact hp.1 y hy (by rw [ex, ey]) (by rw [ex, ey])
          rw [z, c]
          rfl
        · rw [if_neg c, Nat.add_zero]
          rcases List.mem_cons.1 hgm with e2 | e2
          · subst e2
            exact absurd (by rw [h2, beq_iff_eq.2 h3]; rfl) c
          · exact ih (fun y hy => hm y (List.mem_cons_of_mem _ hy)) hp.2 e2
    symm
    refine key L (fun _ h => h) ?_ h1
    rw [List.pairwise_iff_getElem]
    intro i j hi hj hij e1 e2
    have := S.inj (p := i) (q := j) (List.getElem?_eq_getElem hi) (List.getElem?_eq_getElem hj) e1 e2
    omega
theorem Sim.revoke {l l' : List Sl} {L : List Gv} {n : Int} {i : Nat} (S : Sim l L) (hi : (atS l i).alive = true) (r : Rev l i l' n) :
    Sim l' (rvk (i : Int) (atS l i).gen L [((i : Int), (atS l i).gen)]).1 ∧ (rvk (i : Int) (atS l i).gen L [((i : Int), (atS l i).gen)]).2 = n := by
  obtain ⟨g0, h1, h2, h3⟩ := S.live i hi
  have hg0 := (S.alive g0 h1 h2).2.1
  rw [h3, Int.toNat_natCast] at hg0
  have hkg : 1 ≤ (atS l i).gen := by rw [hg0]; exact S.kg h1
  obtain ⟨len, ok⟩ := rvk_ok S (i : Int) (atS l i).gen hkg L [] [((i : Int), (atS l i).gen)] rfl (fun t => by simp)
  have num := rvk_num (i : Int) (atS l i).gen L [((i : Int), (atS l i).gen)]
  generalize rvk (i : Int) (atS l i).gen L [((i : Int), (atS l i).gen)] = W at len ok num ⊢
  obtain ⟨L', m⟩ := W
  simp only at len ok num ⊢
  -- who is dead
  have descDA : ∀ j, Desc l i j → (atS l j).alive = true ∧ ∀ g, g ∈ L → g.alive = true → g.ks = (j : Int) → DA L (i : Int) (atS l i).gen g.ks g.kg := by
    intro j h
    induction h with
    | base =>
      refine ⟨hi, fun g hg ha hk => ?_⟩
      have := (S.alive g hg ha).2.1
      rw [hk, Int.toNat_natCast] at this
      rw [hk, ← this]
      exact .base
    | @step p j _ c ih =>
      refine ⟨c.1, fun g hg ha hk => ?_⟩
      have hcap := (S.alive g hg ha).2.2
      rw [hk, Int.toNat_natCast] at hcap
      obtain ⟨x, x1, x2, x3⟩ := S.live p ih.1
      have hx := (S.alive x x1 x2).2.1
      rw [x3, Int.toNat_natCast] at hx
      refine .step hg ?_
      rw [← hcap, c.2.1, c.2.2, ← x3, hx]
      exact ih.2 x x1 x2 x3
  have daDesc : ∀ a b, DA L (i : Int) (atS l i).gen a b → 1 ≤ b ∧ ∀ g, g ∈ L → g.alive = true → g.ks = a → g.kg = b → Desc l i g.ks.toNat := by
    intro a b h
    induction h with
    | base => exact ⟨hkg, fun g hg _ e1 _ => by rw [e1, Int.toNat_natCast]; exact .base⟩
    | @step g hg _ ih =>
      refine ⟨S.kg hg, fun x hx ha e1 e2 => ?_⟩
      have e := S.eq hx hg e1 e2
      subst e
      obtain ⟨y, y1, y2, y3, y4⟩ := S.upA x hx ha (by omega)
      have hd := ih.2 y y1 y2 y3 y4
      have hy := S.alive y y1 y2
      have hxx := S.alive x hx ha
      have hy0 := S.slot y y1
      refine .step hd ⟨hxx.1, ?_, ?_⟩
      · rw [hxx.2.2, ← y3]; omega
      · rw [hxx.2.2, ← y4, hy.2.1]
  have dead : ∀ g, g ∈ L → g.alive = true → (DA L (i : Int) (atS l i).gen g.ks g.kg ↔ (atS l' g.ks.toNat).alive = false) := by
    intro g hg ha
    have hs := S.slot g hg
    have haa := (S.alive g hg ha).1
    rw [r.iff hi _ haa]
    constructor
    · intro h; exact (daDesc _ _ h).2 g hg ha rfl rfl
    · intro h; exact (descDA _ h).2 g hg ha (by omega)
  have back : ∀ (p : Nat) (x' : Gv), L'[p]? = some x' → ∃ x : Gv, L[p]? = some x ∧ x'.ks = x.ks ∧ x'.kg = x.kg ∧ x'.cap = x.cap ∧ (x'.alive = true → x' = x ∧ ¬ DA L (i : Int) (atS l i).gen x.ks x.kg) := by
    intro p x' h
    have hp : p < L.length := by have := (List.getElem?_eq_some_iff.1 h).1; omega
    have hx : L[p]? = some L[p] := List.getElem?_eq_getElem hp
    refine ⟨L[p], hx, ?_⟩
    obtain ⟨o1, o2⟩ := ok p _ hx
    by_cases c : DA L (i : Int) (atS l i).gen L[p].ks L[p].kg
    · rw [o1 c] at h
      have e := Option.some.inj h
      rw [← e]
      exact ⟨rfl, rfl, rfl, fun h => by cases h⟩
    · rw [o2 c] at h
      have e := Option.some.inj h
      rw [← e]
      exact ⟨rfl, rfl, rfl, fun _ => ⟨rfl, c⟩⟩
  have backm : ∀ x' : Gv, x' ∈ L' → ∃ x : Gv, x ∈ L ∧ x'.ks = x.ks ∧ x'.kg = x.kg ∧ x'.cap = x.cap ∧ (x'.alive = true → x' = x ∧ ¬ DA L (i : Int) (atS l i).gen x.ks x.kg) := fun x' h => by
    obtain ⟨p, hp, e⟩ := List.getElem_of_mem h
    obtain ⟨x, h1, h2⟩ := back p x' (by rw [List.getElem?_eq_getElem hp, e])
    exact ⟨x, List.mem_of_getElem? h1, h2⟩
  have forth : ∀ x : Gv, x ∈ L → ¬ DA L (i : Int) (atS l i).gen x.ks x.kg → x ∈ L' := fun x hx h => by
    obtain ⟨p, hp, e⟩ := List.getElem_of_mem hx
    exact List.mem_of_getElem? ((ok p x (by rw [List.getElem?_eq_getElem hp, e])).2 h)
  have times : ∀ p s, timesN (L'.take p) s = timesN (L.take p) s := by
    have gen : ∀ (A B : List Gv), A.length = B.length → (∀ (p : Nat) (x : Gv), A[p]? = some x → ∃ y : Gv, B[p]? = some y ∧ x.ks = y.ks) → ∀ s, timesN A s = timesN B s := by
      intro A
      induction A with
      | nil => intro B hB _ s; cases B with
        | nil => rfl
        | cons => simp at hB
      | cons a A ih =>
        intro B hB hk s
        cases B with
        | nil => simp at hB
        | cons b B =>
          obtain ⟨y, e1, e2⟩ := hk 0 a rfl
          obtain rfl : b = y := Option.some.inj e1
          have := ih B (by simpa using hB) (fun p x hx => hk (p + 1) x hx) s
          unfold timesN at this ⊢
          rw [List.countP_cons, List.countP_cons, this, e2]
    intro p s
    refine gen _ _ (by rw [List.length_take, List.length_take, len]) (fun q x hq => ?_) s
    rw [List.getElem?_take] at hq
    split at hq
    · rename_i hqp
      obtain ⟨y, y1, y2, _⟩ := back q x hq
      exact ⟨y, by rw [List.getElem?_take, if_pos hqp]; exact y1, y2⟩
    · cases hq
  have timesAll : ∀ s, timesN L' s = timesN L s := fun s => by
    have := times L.length s
    rwa [List.take_of_length_le (by omega), List.take_of_length_le (Nat.le_refl _)] at this
  have hlen := r.less.len
  have sim : Sim l' L' := by
    refine ⟨fun k hk => ?_, fun g hg => ?_, fun p g h => ?_, fun g hg ha => ?_, fun k hk => ?_, fun p g h hne => ?_, fun g hg ha hne => ?_, fun g hg => ?_⟩
    · rw [r.less.gen, timesAll]
      exact S.cnt k (by omega)
    · obtain ⟨x, x1, x2, _⟩ := backm g hg
      rw [x2, hlen]
      exact S.slot x x1
    · obtain ⟨x, x1, x2, x3, _⟩ := back p g h
      rw [x3, x2, times]
      exact S.num p x x1
    · obtain ⟨x, x1, x2, x3, x4, x5⟩ := backm g hg
      obtain ⟨e, hd⟩ := x5 ha
      subst e
      have := S.alive g x1 ha
      rw [r.less.gen, r.less.cap]
      refine ⟨?_, this.2⟩
      cases e : (atS l' g.ks.toNat).alive
      · exact absurd ((dead g x1 ha).2 e) hd
      · rfl
    · obtain ⟨g, g1, g2, g3⟩ := S.live k (r.less.dead k hk)
      refine ⟨g, forth g g1 (fun hd => ?_), g2, g3⟩
      have := (dead g g1 g2).1 hd
      rw [g3, Int.toNat_natCast, hk] at this
      cases this
    · obtain ⟨x, x1, x2, x3, x4, _⟩ := back p g h
      obtain ⟨q, y, q1, q2, q3, q4⟩ := S.up p x x1 (by rw [← x4]; exact hne)
      have hq : q < L'.length := by have := (List.getElem?_eq_some_iff.1 q2).1; omega
      obtain ⟨z, z1, z2, z3, _⟩ := back q L'[q] (List.getElem?_eq_getElem hq)
      rw [q2] at z1
      obtain rfl : y = z := Option.some.inj z1
      exact ⟨q, L'[q], q1, List.getElem?_eq_getElem hq, by rw [z2, q3, x4], by rw [z3, q4, x4]⟩
    · obtain ⟨x, x1, x2, x3, x4, x5⟩ := backm g hg
      obtain ⟨e, hd⟩ := x5 ha
      subst e
      obtain ⟨y, y1, y2, y3, y4⟩ := S.upA g x1 ha hne
      refine ⟨y, forth y y1 (fun h => hd (.step x1 (by rw [← y3, ← y4]; exact h))), y2, y3, y4⟩
    · obtain ⟨x, x1, x2, x3, x4, _⟩ := backm g hg
      rw [x4]
      exact S.rights x x1
  refine ⟨sim, ?_⟩
  rw [num, ← S.count, ← sim.count]
  exact r.num.symm
def cv (x : S59) : Gv := ⟨x.f0.f0, x.f0.f1, ⟨x.f1, x.f2, x.f3, x.f4.f0, x.f4.f1⟩, x.f5⟩
theorem lift {α : Type} {F : Nat → Option α} (h : ∀ k, LeO (F k) (F (k + 1))) {k k' : Nat} {r : α} (e : F k = some r) (hk : k ≤ k') : F k' = some r := by
  obtain ⟨d, rfl⟩ : ∃ d, k' = k + d := ⟨k' - k, by omega⟩
  clear hk
  induction d with
  | zero => exact e
  | succ d ih => exact h _ _ ih
theorem w64 (x : Int) (h : -9223372036854775808 ≤ x ∧ x ≤ 9223372036854775807) : wrap64 x = x := IntWalk.wrap64_in _ ⟨by omega, by omega⟩
theorem rd59 (L : List S59) (j : Nat) (h : j < L.length) : rd_T59 L (j : Int) = L[j] := by
  unfold rd_T59
  rw [Int.toNat_natCast, List.getD_eq_getElem?_getD, List.getElem?_eq_getElem h]
  rfl
theorem drop59 (L : List S59) (j : Nat) (h : j < L.length) : L.drop j = L[j] :: L.drop (j + 1) := List.drop_eq_getElem_cons h
theorem times_l (L : List S59) (a b s : Int) (hl : L.length ≤ 100000) : ∀ (c j n : Nat) (al : Bool), j + c = L.length → n ≤ j → bureauref17_times.l0 (c + 1) s n al j L a b = some (((n + timesN ((L.drop j).map cv) s : Nat) : Int), al || timesA ((L.drop j).map cv) s) := by
  intro c
  induction c with
  | zero =>
    intro j n al hj hn
    unfold bureauref17_times.l0
    rw [if_neg (by omega), List.drop_of_length_le (by omega)]
    simp [timesN, timesA]
  | succ c ih =>
    intro j n al hj hn
    have hjl : j < L.length := by omega
    unfold bureauref17_times.l0
    rw [if_pos (by omega), if_pos (by omega), rd59 L j hjl, drop59 L j hjl, List.map_cons]
    have h1 : wrap64 ((n : Int) + 1) = ((n + 1 : Nat) : Int) := by rw [w64 _ (by omega)]; simp
    have h2 : wrap64 ((j : Int) + 1) = ((j + 1 : Nat) : Int) := by rw [w64 _ (by omega)]; simp
    rw [h1, h2, ih (j + 1) (n + 1) true (by omega) (by omega), ih (j + 1) (n + 1) _ (by omega) (by omega), ih (j + 1) n al (by omega) (by omega)]
    generalize L[j] = x
    generalize (L.drop (j + 1)).map cv = M
    unfold timesN timesA
    rw [List.countP_cons, List.any_cons]
    by_cases e : x.f0.f0 = s
    · rw [if_pos e, show ((cv x).ks == s) = true from beq_iff_eq.2 e]
      clear h1 h2 ih
      have hc : ∀ q : Nat, ((n + 1 + q : Nat) : Int) = ((n + (q + 1) : Nat) : Int) := fun q => by omega
      simp only [cv, if_true]
      cases al
      · rw [if_neg (by decide)]
        refine congrArg some (Prod.ext (hc _) ?_)
        cases x.f5 <;> simp
      · rw [if_pos rfl]
        refine congrArg some (Prod.ext (hc _) ?_)
        simp
    · rw [if_neg e, show ((cv x).ks == s) = false from beq_eq_false_iff_ne.2 e]
      simp
theorem times_ok (L : List S59) (a b s : Int) (hl : L.length ≤ 100000) : bureauref17_times.f (L.length + 1) L a b s = some (((timesN (L.map cv) s : Nat) : Int), timesA (L.map cv) s) := by
  unfold bureauref17_times.f
  have := times_l L a b s hl L.length 0 0 false (by omega) (by omega)
  simpa using this
theorem times_k (L : List S59) (a b s : Int) (hl : L.length ≤ 100000) (k : Nat) (hk : L.length + 1 ≤ k) : bureauref17_times.f k L a b s = some (((timesN (L.map cv) s : Nat) : Int), timesA (L.map cv) s) :=
  lift (F := fun k => bureauref17_times.f k L a b s) (fun k => bureauref17_times.mono _ _ _ _ k) (times_ok L a b s hl) hk
theorem timesN_le (M : List Gv) (s : Int) : timesN M s ≤ M.length := List.countP_le_length
theorem free_l {l : List Sl} (L : List S59) (g : Int) (S : Sim l (L.map cv)) (hl : L.length ≤ 100000) (hn : l.length ≤ 64) : ∀ (c j : Nat), j + c = l.length → bureauref17_free.l0 (L.length + 2 + c) j L l.length g = some (match (l.drop j).findIdx? (freeS g) with | some i => ((j + i : Nat) : Int) | none => -1) := by
  intro c
  induction c with
  | zero =>
    intro j hj
    unfold bureauref17_free.l0
    rw [if_neg (by omega), List.drop_of_length_le (by omega)]
    rfl
  | succ c ih =>
    intro j hj
    have hjl : j < l.length := by omega
    have hd : l.drop j = atS l j :: l.drop (j + 1) := by rw [List.drop_eq_getElem_cons hjl, atS_lt hjl]
    have h2 : wrap64 ((j : Int) + 1) = ((j + 1 : Nat) : Int) := by rw [w64 _ (by omega)]; simp
    show bureauref17_free.l0 (L.length + 2 + c + 1) j L l.length g = _
    unfold bureauref17_free.l0
    rw [if_pos (by omega), times_k L _ _ _ hl _ (by omega), Option.bind_some, h2, ih (j + 1) (by omega), hd, List.findIdx?_cons, S.free g j hjl]
    simp only
    cases timesA (L.map cv) (j : Int)
    · rw [if_neg (by decide)]
      by_cases c1 : ((timesN (L.map cv) (j : Int) : Nat) : Int) < g
      · rw [if_pos c1, decide_eq_true c1]
        simp
      · rw [if_neg c1, decide_eq_false c1]
        clear h2 ih
        cases (l.drop (j + 1)).findIdx? (freeS g) with
        | none => rfl
        | some q => exact congrArg some (show ((j + 1 + q : Nat) : Int) = ((j + (q + 1) : Nat) : Int) by omega)
    · rw [if_pos rfl]
      clear h2 ih
      cases (l.drop (j + 1)).findIdx? (freeS g) with
      | none => rfl
      | some q => exact congrArg some (show ((j + 1 + q : Nat) : Int) = ((j + (q + 1) : Nat) : Int) by omega)
theorem free_k {l : List Sl} (L : List S59) (g : Int) (S : Sim l (L.map cv)) (hl : L.length ≤ 100000) (hn : l.length ≤ 64) (k : Nat) (hk : L.length + 66 ≤ k) : bureauref17_free.f k L l.length g = some (match l.findIdx? (freeS g) with | some i => (i : Int) | none => -1) := by
  refine lift (F := fun k => bureauref17_free.f k L l.length g) (fun k => bureauref17_free.mono _ _ _ k) (k := L.length + 2 + l.length) ?_ (by omega)
  unfold bureauref17_free.f
  have := free_l L g S hl hn l.length 0 (by omega)
  simpa using this
theorem give_l (L : List S59) (a b : Int) (x0 x1 x2 x3 x4 x5 x6 : Int) (x7 : Bool) (hl : L.length ≤ 100000) : ∀ (c j : Nat), j + c = L.length → bureauref17_give.l0 (c + 1) (L.take j) j L a b x0 x1 x2 x3 x4 x5 x6 x7 = some (L ++ [⟨⟨x0, x1⟩, x2, x3, x4, ⟨x5, x6⟩, x7⟩], a, b, x0, x1, 0) := by
  intro c
  induction c with
  | zero =>
    intro j hj
    unfold bureauref17_give.l0
    rw [if_neg (by omega), if_pos (by rw [List.length_take]; omega), List.take_of_length_le (by omega)]
  | succ c ih =>
    intro j hj
    have hjl : j < L.length := by omega
    unfold bureauref17_give.l0
    have h2 : wrap64 ((j : Int) + 1) = ((j + 1 : Nat) : Int) := by rw [w64 _ (by omega)]; simp
    rw [if_pos (by omega), if_pos (by omega), if_pos (by rw [List.length_take]; omega), rd59 L j hjl, h2]
    have e : L.take j ++ [(⟨⟨L[j].f0.f0, L[j].f0.f1⟩, L[j].f1, L[j].f2, L[j].f3, ⟨L[j].f4.f0, L[j].f4.f1⟩, L[j].f5⟩ : S59)] = L.take (j + 1) := by
      rw [List.take_add_one, List.getElem?_eq_getElem hjl]
      rfl
    rw [e]
    exact ih (j + 1) (by omega)
/-- give, of the document. -/
theorem give_doc {l : List Sl} (L : List S59) (g : Int) (S : Sim l (L.map cv)) (hl : L.length ≤ 1000) (hn : l.length ≤ 64) (c : Cp) (hr : 1 ≤ c.rights ∧ c.rights ≤ 15) (hu : c.ug ≠ 0 → ∃ h : Gv, h ∈ L.map cv ∧ h.alive = true ∧ h.ks = c.us ∧ h.kg = c.ug) (b : Bool) (y0 y1 : Int) (k : Nat) (hk : L.length + 70 ≤ k) :
    ∃ L' : List S59, bureauref17_give.f k L l.length g y0 y1 c.obj c.rights c.owner c.us c.ug b = some (L', (l.length : Int), g, (giveZ g l c).2.1, (giveZ g l c).2.2.1, (giveZ g l c).2.2.2) ∧ Sim (giveZ g l c).1 (L'.map cv) ∧ L'.length ≤ L.length + 1 := by
  unfold bureauref17_give.f giveZ
  rw [free_k L g S (by omega) hn k (by omega), Option.bind_some]
  cases e : l.findIdx? (freeS g) with
  | none => exact ⟨L, by simp, S, by omega⟩
  | some i =>
    rw [List.findIdx?_eq_some_iff_getElem] at e
    obtain ⟨hi, hf, _⟩ := e
    rw [← atS_lt hi] at hf
    have hd := (freeS_dead hf).1
    have hc := S.cnt i hi
    have hle := timesN_le (L.map cv) (i : Int)
    rw [List.length_map] at hle
    simp only
    rw [if_neg (by omega), times_k L _ _ _ (by omega) k (by omega), Option.bind_some]
    simp only
    have h1 : wrap64 (((timesN (L.map cv) (i : Int) : Nat) : Int) + 1) = (atS l i).gen + 1 := by rw [w64 _ (by omega), hc]
    rw [h1]
    have hg := give_l L (l.length : Int) g (i : Int) ((atS l i).gen + 1) c.obj c.rights c.owner c.us c.ug true (by omega) L.length 0 (by omega)
    rw [List.take_zero] at hg
    refine ⟨_, lift (F := fun k => bureauref17_give.l0 k ([] : List S59) 0 L (l.length : Int) g (i : Int) ((atS l i).gen + 1) c.obj c.rights c.owner c.us c.ug true) (fun k => bureauref17_give.mono_l k _ _ _ _ _ _ _ _ _ _ _ _ _) hg (by omega), ?_, by simp⟩
    rw [List.map_append]
    exact S.give hi hd c hr hu
theorem mint_doc {l : List Sl} (L : List S59) (g : Int) (S : Sim l (L.map cv)) (hl : L.length ≤ 1000) (hn : l.length ≤ 64) (obj rights owner : Int) :
    ∃ (k : Nat) (L' : List S59), bureauref17_Mint.f k L l.length g obj rights owner = some (L', (l.length : Int), g, (mintZ g l obj rights owner).2.1, (mintZ g l obj rights owner).2.2.1, (mintZ g l obj rights owner).2.2.2) ∧ Sim (mintZ g l obj rights owner).1 (L'.map cv) ∧ L'.length ≤ L.length + 1 := by
  refine ⟨L.length + 100, ?_⟩
  unfold bureauref17_Mint.f mintZ
  by_cases c1 : obj < 0
  · rw [if_pos c1, if_pos (.inl c1)]; exact ⟨L, rfl, S, by omega⟩
  by_cases c2 : owner < 0
  · rw [if_neg c1, if_pos c2, if_pos (.inr (.inl c2))]; exact ⟨L, rfl, S, by omega⟩
  by_cases c3 : rights < 1
  · rw [if_neg c1, if_neg c2, if_pos c3, if_pos (.inr (.inr (.inl c3)))]; exact ⟨L, rfl, S, by omega⟩
  by_cases c4 : rights > 15
  · rw [if_neg c1, if_neg c2, if_neg c3, if_pos c4, if_pos (.inr (.inr (.inr c4)))]; exact ⟨L, rfl, S, by omega⟩
  rw [if_neg c1, if_neg c2, if_neg c3, if_neg c4, if_neg (by omega)]
  obtain ⟨L', h1, h2, h3⟩ := give_doc L g S hl hn ⟨obj, rights, owner, 0, 0⟩ (by simp only; omega) (fun h => absurd rfl h) false 0 0 (L.length + 100) (by omega)
  exact ⟨L', by rw [h1]; rfl, h2, h3⟩
theorem find_l (L : List S59) (a b ks kg : Int) (hl : L.length ≤ 100000) : ∀ (c j : Nat), j + c = L.length → bureauref17_find.l0 (c + 1) j L a b ks kg = (some (match (L.drop j).find? (fun x => (x.f0.f0 == ks && x.f0.f1 == kg) && x.f5) with | some x => (x.f0.f0, x.f0.f1, x.f1, x.f2, x.f3, x.f4.f0, x.f4.f1, x.f5, 0) | none => (0, 0, 0, 0, 0, 0, 0, false, 7)) : Option (Int × Int × Int × Int × Int × Int × Int × Bool × Int)) := by
  intro c
  induction c with
  | zero =>
    intro j hj
    unfold bureauref17_find.l0
    rw [if_neg (by omega), List.drop_of_length_le (by omega)]
    rfl
  | succ c ih =>
    intro j hj
    have hjl : j < L.length := by omega
    unfold bureauref17_find.l0
    have h2 : wrap64 ((j : Int) + 1) = ((j + 1 : Nat) : Int) := by rw [w64 _ (by omega)]; simp
    rw [if_pos (by omega), if_pos (by omega), rd59 L j hjl, h2, ih (j + 1) (by omega), drop59 L j hjl, List.find?_cons]
    generalize L[j] = x
    cases (x.f0.f0 == ks && x.f0.f1 == kg)
    · simp
    · cases hx : x.f5
      · simp
      · simp [hx]
theorem find_k (L : List S59) (a b ks kg : Int) (hl : L.length ≤ 100000) (k : Nat) (hk : L.length + 2 ≤ k) : bureauref17_find.f k L a b ks kg = (some (if ks < 0 ∨ ks ≥ a then (0, 0, 0, 0, 0, 0, 0, false, 6) else match L.find? (fun x => (x.f0.f0 == ks && x.f0.f1 == kg) && x.f5) with | some x => (x.f0.f0, x.f0.f1, x.f1, x.f2, x.f3, x.f4.f0, x.f4.f1, x.f5, 0) | none => (0, 0, 0, 0, 0, 0, 0, false, 7)) : Option (Int × Int × Int × Int × Int × Int × Int × Bool × Int)) := by
  obtain ⟨k, rfl⟩ : ∃ d, k = d + 1 := ⟨k - 1, by omega⟩
  unfold bureauref17_find.f
  by_cases c1 : ks < 0
  · rw [if_pos c1, if_pos (.inl c1)]; rfl
  rw [if_neg c1]
  by_cases c2 : ks ≥ a
  · rw [decide_eq_true c2, if_pos (.inr c2)]; rfl
  have c12 : ¬ (ks < 0 ∨ ks ≥ a) := fun h => h.elim c1 c2
  rw [decide_eq_false c2, if_neg c12]
  simp only [bureauref17_find.j0, Bool.false_eq_true, if_false]
  have := find_l L a b ks kg hl L.length 0 (by omega)
  rw [List.drop_zero] at this
  exact lift (F := fun k => bureauref17_find.l0 k 0 L a b ks kg) (fun k => (bureauref17_find.mono_l k).2 _ _ _ _ _ _) this (by omega)
/-- find, of the document. -/
theorem find_doc {l : List Sl} (L : List S59) (g : Int) (S : Sim l (L.map cv)) (hl : L.length ≤ 1000) (ks kg : Int) (k : Nat) (hk : L.length + 2 ≤ k) :
    bureauref17_find.f k L l.length g ks kg = some (if findE l ks kg ≠ 0 then (0, 0, 0, 0, 0, 0, 0, false, findE l ks kg) else (ks, kg, (atS l ks.toNat).cap.obj, (atS l ks.toNat).cap.rights, (atS l ks.toNat).cap.owner, (atS l ks.toNat).cap.us, (atS l ks.toNat).cap.ug, true, 0)) := by
  rw [find_k L _ _ _ _ (by omega) k hk]
  by_cases c : ks < 0 ∨ ks ≥ (l.length : Int)
  · rw [if_pos c]
    have : findE l ks kg = 6 := by unfold findE; rw [if_pos c]
    rw [this, if_pos (by decide)]
  · rw [if_neg c]
    have hf := S.find ks kg (by omega) (by omega)
    cases e : L.find? (fun x => (x.f0.f0 == ks && x.f0.f1 == kg) && x.f5) with
    | none =>
      have h7 : findE l ks kg = 7 := by
        rcases hf.2 with h0 | h0
        · obtain ⟨y, y1, y2, y3, y4⟩ := hf.1.1 h0
          obtain ⟨x, hx, rfl⟩ := List.mem_map.1 y1
          have := List.find?_eq_none.1 e x hx
          exact absurd (by rw [show x.f0.f0 = ks from y3, show x.f0.f1 = kg from y4, show x.f5 = true from y2]; simp) this
        · exact h0
      rw [h7]
      rfl
    | some x =>
      have hx := List.find?_some e
      have hm : cv x ∈ L.map cv := List.mem_map_of_mem (List.mem_of_find?_eq_some e)
      rw [Bool.and_eq_true, Bool.and_eq_true, beq_iff_eq, beq_iff_eq] at hx
      obtain ⟨⟨x1, x2⟩, x3⟩ := hx
      have h0 : findE l ks kg = 0 := hf.1.2 ⟨cv x, hm, x3, x1, x2⟩
      have ha := S.alive (cv x) hm x3
      have hc := ha.2.2
      rw [show (cv x).ks = ks from x1] at hc
      rw [h0, if_neg (by decide), hc, ← x1, ← x2]
      simp only
      rw [x3]
      rfl
theorem within_all : ∀ r : Fin 16, ∀ s : Fin 16, bureauref17_Within.f 6 (r.val : Int) (s.val : Int) = some (decide (Go.bits .andNot .i64 (r.val : Int) (s.val : Int) = 0)) := by decide +kernel
theorem both_all : ∀ r : Fin 16, bureauref17_both.f 6 (r.val : Int) 8 = some (Go.bits .or .i64 (r.val : Int) 8) ∧ 0 ≤ Go.bits .or .i64 (r.val : Int) 8 ∧ Go.bits .or .i64 (r.val : Int) 8 ≤ 15 := by decide +kernel
theorem within_k {r s : Int} (hr : 0 ≤ r ∧ r ≤ 15) (hs : 0 ≤ s ∧ s ≤ 15) (k : Nat) (hk : 6 ≤ k) : bureauref17_Within.f k r s = some (decide (Go.bits .andNot .i64 r s = 0)) := by
  obtain ⟨a, rfl⟩ : ∃ a : Nat, r = (a : Int) := ⟨r.toNat, by omega⟩
  obtain ⟨b, rfl⟩ : ∃ b : Nat, s = (b : Int) := ⟨s.toNat, by omega⟩
  exact lift (F := fun k => bureauref17_Within.f k (a : Int) (b : Int)) (fun k => bureauref17_Within.mono _ _ k) (within_all ⟨a, by omega⟩ ⟨b, by omega⟩) hk
theorem both_k {r : Int} (hr : 0 ≤ r ∧ r ≤ 15) (k : Nat) (hk : 6 ≤ k) : bureauref17_both.f k r 8 = some (Go.bits .or .i64 r 8) ∧ 0 ≤ Go.bits .or .i64 r 8 ∧ Go.bits .or .i64 r 8 ≤ 15 := by
  obtain ⟨a, rfl⟩ : ∃ a : Nat, r = (a : Int) := ⟨r.toNat, by omega⟩
  have h := both_all ⟨a, by omega⟩
  exact ⟨lift (F := fun k => bureauref17_both.f k (a : Int) 8) (fun k => bureauref17_both.mono _ _ k) h.1 hk, h.2⟩
/-- Look, of the document. -/
theorem look_doc {l : List Sl} (L : List S59) (g : Int) (S : Sim l (L.map cv)) (hl : L.length ≤ 1000) (ks kg who rights : Int) (k : Nat) (hk : L.length + 10 ≤ k) :
    ∃ (a1 a2 : Int) (b : Bool), bureauref17_Look.f k L l.length g ks kg who rights = some (a1, a2, (lookZ l ks kg who rights).1.obj, (lookZ l ks kg who rights).1.rights, (lookZ l ks kg who rights).1.owner, (lookZ l ks kg who rights).1.us, (lookZ l ks kg who rights).1.ug, b, (lookZ l ks kg who rights).2) := by
  obtain ⟨k, rfl⟩ : ∃ d, k = d + 1 := ⟨k - 1, by omega⟩
  unfold bureauref17_Look.f lookZ
  by_cases c1 : rights < 0
  · rw [if_pos c1, if_pos (.inl c1)]; exact ⟨0, 0, false, rfl⟩
  rw [if_neg c1]
  by_cases c2 : rights > 15
  · rw [decide_eq_true c2, if_pos (.inr c2)]; exact ⟨0, 0, false, rfl⟩
  have c12 : ¬ (rights < 0 ∨ rights > 15) := fun h => h.elim c1 c2
  rw [decide_eq_false c2, if_neg c12]
  simp only [bureauref17_Look.j0, Bool.false_eq_true, if_false]
  rw [find_doc L g S hl ks kg k (by omega), Option.bind_some]
  by_cases c3 : findE l ks kg ≠ 0
  · rw [if_pos c3, if_pos c3]
    simp only
    rw [if_neg c3]
    exact ⟨0, 0, false, rfl⟩
  · rw [if_neg c3, if_neg c3]
    simp only [if_true]
    obtain ⟨i, rfl, hi, ha, hg⟩ := findE_ok (Classical.not_not.1 c3)
    rw [Int.toNat_natCast]
    obtain ⟨x, x1, x2, x3⟩ := S.live i ha
    have hcap := (S.alive x x1 x2).2.2
    rw [x3, Int.toNat_natCast] at hcap
    have hrr := S.rights x x1
    rw [← hcap] at hrr
    by_cases c4 : (atS l i).cap.owner = who
    · rw [if_pos c4, within_k (by omega) (by omega) k (by omega), Option.bind_some]
      by_cases c5 : Go.bits .andNot .i64 rights (atS l i).cap.rights = 0
      · rw [decide_eq_true c5, if_pos rfl, if_neg (by rintro (h | h) <;> contradiction)]
        exact ⟨_, _, _, rfl⟩
      · rw [decide_eq_false c5, if_neg (by decide), if_pos (.inr c5)]
        exact ⟨0, 0, false, rfl⟩
    · rw [if_neg c4, if_pos (.inl c4)]
      exact ⟨0, 0, false, rfl⟩
theorem derive_doc {l : List Sl} (L : List S59) (g : Int) (S : Sim l (L.map cv)) (hl : L.length ≤ 1000) (hn : l.length ≤ 64) (ks kg who rights owner : Int) :
    ∃ (k : Nat) (L' : List S59), bureauref17_Derive.f k L l.length g ks kg who rights owner = some (L', (l.length : Int), g, (deriveZ g l ks kg who rights owner).2.1, (deriveZ g l ks kg who rights owner).2.2.1, (deriveZ g l ks kg who rights owner).2.2.2) ∧ Sim (deriveZ g l ks kg who rights owner).1 (L'.map cv) ∧ L'.length ≤ L.length + 1 := by
  refine ⟨L.length + 100 + 1, ?_⟩
  unfold bureauref17_Derive.f deriveZ
  by_cases c1 : owner < 0
  · rw [if_pos c1, if_pos (.inl c1)]; exact ⟨L, rfl, S, by omega⟩
  rw [if_neg c1]
  by_cases c2 : rights < 1
  · rw [if_pos c2, if_pos (.inr (.inl c2))]; exact ⟨L, rfl, S, by omega⟩
  rw [if_neg c2]
  by_cases c3 : rights > 15
  · rw [decide_eq_true c3, if_pos (.inr (.inr c3))]; exact ⟨L, rfl, S, by omega⟩
  have c123 : ¬ (owner < 0 ∨ rights < 1 ∨ rights > 15) := fun h => h.elim c1 (fun h => h.elim c2 c3)
  rw [decide_eq_false c3, if_neg c123]
  simp only [bureauref17_Derive.j0, Bool.false_eq_true, if_false]
  have hb := both_k (r := rights) (by omega) (L.length + 100) (by omega)
  rw [hb.1, Option.bind_some]
  obtain ⟨a1, a2, b, hlk⟩ := look_doc L g S hl ks kg who (Go.bits .or .i64 rights 8) (L.length + 100) (by omega)
  rw [hlk, Option.bind_some]
  simp only
  by_cases c4 : (lookZ l ks kg who (Go.bits .or .i64 rights 8)).2 ≠ 0
  · rw [if_neg c4, if_pos c4]; exact ⟨L, rfl, S, by omega⟩
  · have c5 := Classical.not_not.1 c4
    rw [if_neg c4, c5, if_pos rfl]
    obtain ⟨i, rfl, ha, hg, hc, hbb⟩ := lookZ_ok c5
    obtain ⟨x, x1, x2, x3⟩ := S.live i ha
    have hx := S.alive x x1 x2
    rw [x3, Int.toNat_natCast] at hx
    obtain ⟨L', h1, h2, h3⟩ := give_doc L g S hl hn ⟨(lookZ l (i : Int) kg who (Go.bits .or .i64 rights 8)).1.obj, rights, owner, (i : Int), kg⟩ (by simp only; omega) (fun _ => ⟨x, x1, x2, x3, hx.2.1.symm.trans hg⟩) false 0 0 (L.length + 100) (by omega)
    simp only at h1
    rw [h1]
    exact ⟨L', rfl, h2, h3⟩
theorem Free_l {l : List Sl} (L : List S59) (g : Int) (S : Sim l (L.map cv)) (hl : L.length ≤ 100000) (hn : l.length ≤ 64) : ∀ (c j n : Nat), j + c = l.length → n ≤ j → bureauref17_Free.l0 (L.length + 2 + c) n j L l.length g = some ((n + (l.drop j).countP (freeS g) : Nat) : Int) := by
  intro c
  induction c with
  | zero =>
    intro j n hj hnj
    unfold bureauref17_Free.l0
    rw [if_neg (by omega), List.drop_of_length_le (by omega)]
    rfl
  | succ c ih =>
    intro j n hj hnj
    have hjl : j < l.length := by omega
    have hd : l.drop j = atS l j :: l.drop (j + 1) := by rw [List.drop_eq_getElem_cons hjl, atS_lt hjl]
    have h2 : wrap64 ((j : Int) + 1) = ((j + 1 : Nat) : Int) := by rw [w64 _ (by omega)]; simp
    have h3 : wrap64 ((n : Int) + 1) = ((n + 1 : Nat) : Int) := by rw [w64 _ (by omega)]; simp
    show bureauref17_Free.l0 (L.length + 2 + c + 1) n j L l.length g = _
    unfold bureauref17_Free.l0
    rw [if_pos (by omega), times_k L _ _ _ hl _ (by omega), Option.bind_some, h2, h3, ih (j + 1) n (by omega) (by omega), ih (j + 1) (n + 1) (by omega) (by omega), hd, List.countP_cons, S.free g j hjl]
    simp only
    clear h2 h3 ih
    cases timesA (L.map cv) (j : Int)
    · rw [if_neg (by decide)]
      by_cases c1 : ((timesN (L.map cv) (j : Int) : Nat) : Int) < g
      · rw [if_pos c1, decide_eq_true c1]
        exact congrArg some (show ((n + 1 + (l.drop (j + 1)).countP (freeS g) : Nat) : Int) = ((n + ((l.drop (j + 1)).countP (freeS g) + 1) : Nat) : Int) by omega)
      · rw [if_neg c1, decide_eq_false c1]
        rfl
    · rw [if_pos rfl]
      rfl
theorem free_doc {l : List Sl} (L : List S59) (g : Int) (S : Sim l (L.map cv)) (hl : L.length ≤ 1000) (hn : l.length ≤ 64) : ∃ k, bureauref17_Free.f k L l.length g = some (freeZ g l : Int) := by
  refine ⟨L.length + 2 + l.length, ?_⟩
  unfold bureauref17_Free.f
  have := Free_l L g S (by omega) hn l.length 0 0 (by omega) (by omega)
  simpa [freeZ] using this
def fl (L : List S59) (s : Int) : List S59 := L.filter (fun x => x.f5 && x.f0.f0 == s)
theorem Live_l1 (L : List S59) (a b s : Int) (F : Nat) (hl : L.length ≤ 100000) : ∀ (d j : Nat) (acc : List S59), j + d = L.length → acc.length + d ≤ 10000000 → bureauref17_Live.l1 (d + 1 + F) acc s j L a b = bureauref17_Live.l0 (d + F - d) (acc ++ fl (L.drop j) s) (wrap64 (s + 1)) L a b := by
  intro d
  induction d with
  | zero =>
    intro j acc hj ha
    rw [show 0 + 1 + F = F + 1 by omega]
    unfold bureauref17_Live.l1
    rw [if_neg (by omega), List.drop_of_length_le (by omega), show 0 + F - 0 = F by omega]
    simp [fl]
  | succ d ih =>
    intro j acc hj ha
    have hjl : j < L.length := by omega
    have h2 : wrap64 ((j : Int) + 1) = ((j + 1 : Nat) : Int) := by rw [w64 _ (by omega)]; simp
    rw [show d + 1 + 1 + F = (d + 1 + F) + 1 by omega]
    unfold bureauref17_Live.l1
    rw [if_pos (by omega), if_pos (by omega), if_pos (show acc.length < 2199023255552 by omega), rd59 L j hjl, h2, ih (j + 1) _ (by omega) (by rw [List.length_append]; simp; omega), ih (j + 1) acc (by omega) (by omega), drop59 L j hjl, show d + 1 + F - (d + 1) = d + F - d by omega]
    unfold fl
    rw [List.filter_cons]
    generalize L[j] = x
    clear h2 ih
    cases hx : x.f5
    · simp
    · by_cases e : x.f0.f0 = s
      · rw [if_pos rfl, if_pos e, show (x.f0.f0 == s) = true from beq_iff_eq.2 e, List.append_assoc]
        have : (⟨⟨x.f0.f0, x.f0.f1⟩, x.f1, x.f2, x.f3, ⟨x.f4.f0, x.f4.f1⟩, true⟩ : S59) = x := by rw [← hx]
        rw [this]
        rfl
      · rw [if_pos rfl, if_neg e, show (x.f0.f0 == s) = false from beq_eq_false_iff_ne.2 e]
        rfl
def FF (N : Nat) : Nat → Nat
  | 0 => 1
  | c + 1 => N + 1 + FF N c + 1
theorem fl_len (L : List S59) (s : Int) : (fl L s).length ≤ L.length := List.length_filter_le _ _
theorem Live_l0 (L : List S59) (b : Int) (n : Nat) (hl : L.length ≤ 1000) (hn : n ≤ 64) : ∀ (c s : Nat) (acc : List S59), s + c = n → acc.length ≤ 1000 * s → bureauref17_Live.l0 (FF L.length c) acc s L n b = some (acc ++ (List.range' s c).flatMap (fun i : Nat => fl L (i : Int))) := by
  intro c
  induction c with
  | zero =>
    intro s acc hs ha
    show bureauref17_Live.l0 (0 + 1) acc s L n b = _
    unfold bureauref17_Live.l0
    rw [if_neg (by omega)]
    simp
  | succ c ih =>
    intro s acc hs ha
    show bureauref17_Live.l0 (L.length + 1 + FF L.length c + 1) acc s L n b = _
    unfold bureauref17_Live.l0
    have h2 : wrap64 ((s : Int) + 1) = ((s + 1 : Nat) : Int) := by rw [w64 _ (by omega)]; simp
    have hf := fl_len L (s : Int)
    have h1 := Live_l1 L n b s (FF L.length c) (by omega) L.length 0 acc (by omega) (by omega)
    rw [List.drop_zero, h2, show L.length + FF L.length c - L.length = FF L.length c by omega, ih (s + 1) _ (by omega) (by rw [List.length_append]; omega)] at h1
    rw [if_pos (by omega)]
    refine h1.trans ?_
    rw [List.range'_succ, List.flatMap_cons, List.append_assoc]
theorem cv_inj {x y : S59} (h : cv x = cv y) : x = y := by
  obtain ⟨⟨a, b⟩, c, d, e, ⟨f, g⟩, i⟩ := x
  obtain ⟨⟨a', b'⟩, c', d', e', ⟨f', g'⟩, i'⟩ := y
  simp only [cv, Gv.mk.injEq, Cp.mk.injEq] at h
  obtain ⟨rfl, rfl, ⟨rfl, rfl, rfl, rfl, rfl⟩, rfl⟩ := h
  rfl
theorem fl_dead {l : List Sl} {L : List S59} (S : Sim l (L.map cv)) {s : Nat} (h : (atS l s).alive = false) : fl L (s : Int) = [] := by
  unfold fl
  rw [List.filter_eq_nil_iff]
  intro x hx hh
  rw [Bool.and_eq_true, beq_iff_eq] at hh
  have := (S.alive (cv x) (List.mem_map_of_mem hx) hh.1).1
  rw [show (cv x).ks = (s : Int) from hh.2, Int.toNat_natCast, h] at this
  cases this
theorem fl_alive {l : List Sl} {L : List S59} (S : Sim l (L.map cv)) {s : Nat} (h : (atS l s).alive = true) : ∃ x : S59, fl L (s : Int) = [x] ∧ x.f0.f0 = (s : Int) ∧ x.f0.f1 = (atS l s).gen ∧ (cv x).cap = (atS l s).cap := by
  have hp : L.Pairwise (fun a b => ¬ (a.f0.f0 = b.f0.f0 ∧ a.f0.f1 = b.f0.f1)) := by
    rw [List.pairwise_iff_getElem]
    intro i j hi hj hij e
    have := S.inj (p := i) (q := j) (g := cv L[i]) (h := cv L[j]) (by rw [List.getElem?_map, List.getElem?_eq_getElem hi]; rfl) (by rw [List.getElem?_map, List.getElem?_eq_getElem hj]; rfl) e.1 e.2
    omega
  have hq : (fl L (s : Int)).Pairwise (fun a b => ¬ (a.f0.f0 = b.f0.f0 ∧ a.f0.f1 = b.f0.f1)) := hp.filter _
  have hmem : ∀ x, x ∈ fl L (s : Int) → x ∈ L ∧ x.f5 = true ∧ x.f0.f0 = (s : Int) := fun x hx => by
    obtain ⟨a, b⟩ := List.mem_filter.1 hx
    rw [Bool.and_eq_true, beq_iff_eq] at b
    exact ⟨a, b⟩
  obtain ⟨y, y1, y2, y3⟩ := S.live s h
  obtain ⟨x, hx, rfl⟩ := List.mem_map.1 y1
  have hxm : x ∈ fl L (s : Int) := List.mem_filter.2 ⟨hx, by rw [show x.f5 = true from y2, show x.f0.f0 = (s : Int) from y3]; simp⟩
  have hone : ∀ z, z ∈ fl L (s : Int) → z = x := fun z hz => by
    obtain ⟨z1, z2, z3⟩ := hmem z hz
    exact cv_inj (S.one (List.mem_map_of_mem z1) y1 z2 y2 (z3.trans y3.symm))
  have ha := S.alive (cv x) y1 y2
  rw [y3, Int.toNat_natCast] at ha
  refine ⟨x, ?_, y3, ha.2.1.symm, ha.2.2.symm⟩
  generalize fl L (s : Int) = M at hq hxm hone
  match M, hq, hxm, hone with
  | [], _, h, _ => cases h
  | [z], _, _, h => rw [h z List.mem_cons_self]
  | z :: u :: M, hq, _, h =>
    have e1 := h z List.mem_cons_self
    have e2 := h u (List.mem_cons_of_mem _ List.mem_cons_self)
    rw [List.pairwise_cons] at hq
    exact absurd ⟨by rw [e1, e2], by rw [e1, e2]⟩ (hq.1 u List.mem_cons_self)
def t39 (x : S59) : S39 := ⟨x.f0, ⟨x.f1, x.f2, x.f3, x.f4⟩⟩
theorem liveFrom_cons (i : Nat) (s : Sl) (l : List Sl) : liveFrom i (s :: l) = if s.alive = true then ⟨(i : Int), s.gen, s.cap⟩ :: liveFrom (i + 1) l else liveFrom (i + 1) l := rfl
theorem live_map {l : List Sl} {L : List S59} (S : Sim l (L.map cv)) : ∀ (c s : Nat), s + c = l.length → ((List.range' s c).flatMap (fun i : Nat => fl L (i : Int))).map t39 = (liveFrom s (l.drop s)).map s39 := by
  intro c
  induction c with
  | zero =>
    intro s hs
    rw [List.drop_of_length_le (by omega)]
    rfl
  | succ c ih =>
    intro s hs
    have hsl : s < l.length := by omega
    rw [List.range'_succ, List.flatMap_cons, List.map_append, ih (s + 1) (by omega), drop_atS l s hsl, liveFrom_cons]
    cases e : (atS l s).alive
    · rw [fl_dead S e, if_neg (by decide)]
      rfl
    · obtain ⟨x, h1, h2, h3, h4⟩ := fl_alive S e
      rw [h1, if_pos rfl, List.map_cons, ← h2, ← h3, ← h4]
      rfl
theorem same_l (N : List S59) (hl : N.length ≤ 100000) : ∀ (c j : Nat), j + c = N.length → bureaulaw17_same.l0 (c + 1) (N.map t39) N (N.length : Int) j = some true := by
  intro c
  induction c with
  | zero =>
    intro j hj
    unfold bureaulaw17_same.l0
    rw [if_neg (by omega)]
  | succ c ih =>
    intro j hj
    have hjl : j < N.length := by omega
    have h2 : wrap64 ((j : Int) + 1) = ((j + 1 : Nat) : Int) := by rw [w64 _ (by omega)]; simp
    have e1 : rd_T39 (N.map t39) (j : Int) = t39 N[j] := by
      unfold rd_T39
      rw [Int.toNat_natCast, List.getD_eq_getElem?_getD, List.getElem?_map, List.getElem?_eq_getElem hjl]
      rfl
    unfold bureaulaw17_same.l0
    rw [if_pos (by omega), if_pos (by omega), if_pos (by rw [List.length_map]; omega), if_pos (by omega), rd59 N j hjl, e1, h2, ih (j + 1) (by omega)]
    simp [t39]
theorem live_doc {l : List Sl} (L : List S59) (g : Int) (S : Sim l (L.map cv)) (hl : L.length ≤ 1000) (hn : l.length ≤ 64) : ∃ (k k2 : Nat) (N : List S59), bureauref17_Live.f k L l.length g = some N ∧ bureaulaw17_same.f k2 ((liveZ l).map s39) N = some true := by
  have hm := live_map S l.length 0 (by omega)
  rw [List.drop_zero] at hm
  refine ⟨FF L.length l.length, ((List.range' 0 l.length).flatMap (fun i : Nat => fl L (i : Int))).length + 1, (List.range' 0 l.length).flatMap (fun i : Nat => fl L (i : Int)), ?_, ?_⟩
  · unfold bureauref17_Live.f
    exact Live_l0 L g l.length hl hn l.length 0 [] (by omega) (by simp)
  · unfold liveZ
    rw [← hm]
    unfold bureaulaw17_same.f
    rw [List.length_map, if_pos rfl]
    refine same_l _ ?_ _ 0 (by omega)
    have := congrArg List.length hm
    rw [List.length_map, List.length_map] at this
    have h2 := liveFrom_len l 0
    have h3 := lives_len l
    omega
/-- Revoke, of the document, in plain words. -/
def revD (l : List Sl) (L : List Gv) (ks kg : Int) : List Gv × Int × Int :=
  if findE l ks kg ≠ 0 then (L, 0, findE l ks kg) else ((rvk ks kg L [(ks, kg)]).1, (rvk ks kg L [(ks, kg)]).2, 0)
theorem revoke_doc {l : List Sl} (L : List Gv) (S : Sim l L) (ks kg : Int) : (revD l L ks kg).2 = (revokeZ l ks kg).2 ∧ Sim (revokeZ l ks kg).1 (revD l L ks kg).1 := by
  unfold revD revokeZ
  by_cases c : findE l ks kg ≠ 0
  · rw [if_pos c, if_pos c]; exact ⟨rfl, S⟩
  · rw [if_neg c, if_neg c]
    obtain ⟨i, rfl, hi, ha, rfl⟩ := findE_ok (Classical.not_not.1 c)
    rw [Int.toNat_natCast]
    have h := S.revoke ha (revS_ok (lives l) l i ha (Nat.le_refl _))
    exact ⟨by simp only; rw [h.2], h.1⟩

end Go.Proofs.Ytecbdhampjmlaaa.Ext
