/- caps: the table in memory; good, free, some, by their walks. -/
import Derived.Test.YtecbdhampjmlaaaProg
import Derived.Test.YtecbdhampjmlaaaWMore
import Derived.WalkKit
import Derived.WalkMore
import Derived.Below
import Derived.KernelRfl
import Derived.LoopTactic
import Derived.Deep.RegionWith
import Derived.Deep.RegionHeld3
import Derived.IntWalk
import Derived.Deep.DeepCutAuto
import Derived.Deep.CutBlock
import Derived.BigQuiet
import Derived.Laws.RangeString
import Derived.Laws.RangeAny
import Derived.Laws.Rows
import Derived.Laws.Runes
import Derived.Lib.OthersKept
import Derived.OpenShut
set_option linter.unusedVariables false
set_option linter.unusedSimpArgs false
namespace Go.Proofs.Ytecbdhampjmlaaa.Ext
open Go.RowKit Go.Lib Go.Proofs.YtecbdhampjmlaaaW.PrintWords Go.Proofs.YtecbdhampjmlaaaW.PrintMore

/-! caps in plain Lean: a table, and what each of its methods makes of it. -/
structure Cp where
  obj : Int
  rights : Int
  owner : Int
  us : Int
  ug : Int
structure Sl where
  gen : Int
  alive : Bool
  cap : Cp
theorem Cp.ext' {a b : Cp} (h1 : a.obj = b.obj) (h2 : a.rights = b.rights) (h3 : a.owner = b.owner) (h4 : a.us = b.us) (h5 : a.ug = b.ug) : a = b := by
  cases a; cases b; simp_all
def sl0 : Sl := ⟨0, false, ⟨0, 0, 0, 0, 0⟩⟩
def freeS (g : Int) (s : Sl) : Bool := !s.alive && decide (s.gen < g)
def killS (s : Sl) : Sl := { s with alive := false }
def atS (l : List Sl) (i : Nat) : Sl := l.getD i sl0
/-- give: the table behind it, the token, the error. -/
def giveZ (g : Int) (l : List Sl) (c : Cp) : List Sl × Int × Int × Int :=
  match l.findIdx? (freeS g) with
  | some i => (l.set i ⟨(atS l i).gen + 1, true, c⟩, (i : Int), (atS l i).gen + 1, 0)
  | none => (l, 0, 0, 4)
def mintZ (g : Int) (l : List Sl) (obj rights owner : Int) : List Sl × Int × Int × Int :=
  if obj < 0 ∨ owner < 0 ∨ rights < 1 ∨ rights > 15 then (l, 0, 0, 2) else giveZ g l ⟨obj, rights, owner, 0, 0⟩
def findE (l : List Sl) (ks kg : Int) : Int :=
  if ks < 0 ∨ ks ≥ (l.length : Int) then 6 else if (atS l ks.toNat).alive = true ∧ (atS l ks.toNat).gen = kg then 0 else 7
def lookZ (l : List Sl) (ks kg who rights : Int) : Cp × Int :=
  if rights < 0 ∨ rights > 15 then (⟨0, 0, 0, 0, 0⟩, 2)
  else if findE l ks kg ≠ 0 then (⟨0, 0, 0, 0, 0⟩, findE l ks kg)
  else if (atS l ks.toNat).cap.owner ≠ who ∨ Go.bits .andNot .i64 rights (atS l ks.toNat).cap.rights ≠ 0 then (⟨0, 0, 0, 0, 0⟩, 9)
  else ((atS l ks.toNat).cap, 0)
def deriveZ (g : Int) (l : List Sl) (ks kg who rights owner : Int) : List Sl × Int × Int × Int :=
  if owner < 0 ∨ rights < 1 ∨ rights > 15 then (l, 0, 0, 2)
  else if (lookZ l ks kg who (Go.bits .or .i64 rights 8)).2 ≠ 0 then (l, 0, 0, (lookZ l ks kg who (Go.bits .or .i64 rights 8)).2)
  else giveZ g l ⟨(lookZ l ks kg who (Go.bits .or .i64 rights 8)).1.obj, rights, owner, ks, kg⟩
/-- Revoke's loop over the slots. -/
def revL (R : List Sl → Nat → List Sl × Int) (ks kg : Int) : Nat → Nat → List Sl → Int → List Sl × Int
  | 0, _, l, n => (l, n)
  | c + 1, j, l, n => if (atS l j).alive = true ∧ (atS l j).cap.us = ks ∧ (atS l j).cap.ug = kg then revL R ks kg c (j + 1) (R l j).1 (n + (R l j).2) else revL R ks kg c (j + 1) l n
def revS : Nat → List Sl → Nat → List Sl × Int
  | 0, l, _ => (l, 0)
  | f + 1, l, i => revL (revS f) (i : Int) (atS l i).gen l.length 0 (l.set i (killS (atS l i))) 1
def lives (l : List Sl) : Nat := l.countP (·.alive)
def revokeZ (l : List Sl) (ks kg : Int) : List Sl × Int × Int :=
  if findE l ks kg ≠ 0 then (l, 0, findE l ks kg) else ((revS (lives l) l ks.toNat).1, (revS (lives l) l ks.toNat).2, 0)
structure Lv where
  ks : Int
  kg : Int
  cap : Cp
def liveFrom : Nat → List Sl → List Lv
  | _, [] => []
  | i, s :: l => if s.alive = true then ⟨(i : Int), s.gen, s.cap⟩ :: liveFrom (i + 1) l else liveFrom (i + 1) l
def liveZ (l : List Sl) : List Lv := liveFrom 0 l
def freeZ (g : Int) (l : List Sl) : Nat := l.countP (freeS g)
/-! ### the laws of a killing -/
theorem atS_lt {l : List Sl} {i : Nat} (h : i < l.length) : atS l i = l[i] := by unfold atS; rw [List.getD_eq_getElem?_getD, List.getElem?_eq_getElem h]; rfl
theorem atS_out {l : List Sl} {i : Nat} (h : l.length ≤ i) : atS l i = sl0 := by unfold atS; rw [List.getD_eq_getElem?_getD, List.getElem?_eq_none h]; rfl
theorem atS_alive_lt {l : List Sl} {i : Nat} (h : (atS l i).alive = true) : i < l.length := by
  by_cases c : i < l.length
  · exact c
  · rw [atS_out (by omega)] at h; cases h
theorem atS_set (l : List Sl) (i j : Nat) (s : Sl) : atS (l.set i s) j = if i = j ∧ i < l.length then s else atS l j := by
  unfold atS
  rw [List.getD_eq_getElem?_getD, List.getD_eq_getElem?_getD, List.getElem?_set]
  by_cases c : i = j
  · subst c
    by_cases h : i < l.length
    · rw [if_pos rfl, if_pos h, if_pos ⟨rfl, h⟩]; rfl
    · rw [if_pos rfl, if_neg h, if_neg (fun x => h x.2), List.getElem?_eq_none (by omega)]
  · rw [if_neg c, if_neg (fun x => c x.1)]
theorem ext_atS {l l' : List Sl} (h : l.length = l'.length) (hk : ∀ i, i < l.length → atS l i = atS l' i) : l = l' := by
  apply List.ext_getElem h
  intro i h1 h2
  have := hk i h1
  rwa [atS_lt h1, atS_lt h2] at this
theorem lives_set {l : List Sl} {i : Nat} (h : (atS l i).alive = true) : lives (l.set i (killS (atS l i))) + 1 = lives l := by
  have hi := atS_alive_lt h
  unfold lives
  induction l generalizing i with
  | nil => simp at hi
  | cons s l ih =>
    cases i with
    | zero =>
      have : s.alive = true := h
      simp only [List.set_cons_zero, List.countP_cons]
      have e : (killS (atS (s :: l) 0)).alive = false := rfl
      rw [e, this]
      simp
    | succ i =>
      have h2 : (atS l i).alive = true := h
      have hi2 : i < l.length := by simpa using hi
      have := ih h2 hi2
      simp only [List.set_cons_succ, List.countP_cons]
      have e : atS (s :: l) (i + 1) = atS l i := rfl
      rw [e]
      omega
/-- What a killing leaves: the same slots, some of them dead. -/
structure Less (l l' : List Sl) : Prop where
  len : l'.length = l.length
  gen : ∀ i, (atS l' i).gen = (atS l i).gen
  cap : ∀ i, (atS l' i).cap = (atS l i).cap
  dead : ∀ i, (atS l' i).alive = true → (atS l i).alive = true
theorem Less.refl (l : List Sl) : Less l l := ⟨rfl, fun _ => rfl, fun _ => rfl, fun _ h => h⟩
theorem Less.trans {a b c : List Sl} (h : Less a b) (k : Less b c) : Less a c :=
  ⟨k.len.trans h.len, fun i => (k.gen i).trans (h.gen i), fun i => (k.cap i).trans (h.cap i), fun i e => h.dead i (k.dead i e)⟩
theorem Less.kill (l : List Sl) (i : Nat) : Less l (l.set i (killS (atS l i))) := by
  refine ⟨List.length_set, fun j => ?_, fun j => ?_, fun j e => ?_⟩
  · rw [atS_set]; split
    · rename_i h; rw [← h.1]; rfl
    · rfl
  · rw [atS_set]; split
    · rename_i h; rw [← h.1]; rfl
    · rfl
  · rw [atS_set] at e; split at e
    · cases e
    · exact e
/-- A slot's child: alive, and it comes from that slot's token. -/
def Child (l : List Sl) (p j : Nat) : Prop := (atS l j).alive = true ∧ (atS l j).cap.us = (p : Int) ∧ (atS l j).cap.ug = (atS l p).gen
inductive Desc (l : List Sl) (i : Nat) : Nat → Prop
  | base : Desc l i i
  | step {p j : Nat} : Desc l i p → Child l p j → Desc l i j
theorem Desc.trans {l : List Sl} {i j k : Nat} (h : Desc l i j) (g : Desc l j k) : Desc l i k := by
  induction g with
  | base => exact h
  | step _ c ih => exact .step ih c
/-- What Revoke makes of a table: just the descendants are dead behind it. -/
structure Rev (l : List Sl) (i : Nat) (l' : List Sl) (n : Int) : Prop where
  less : Less l l'
  self : (atS l' i).alive = false
  only : ∀ j, (atS l j).alive = true → (atS l' j).alive = false → Desc l i j
  closed : ∀ p j, (atS l p).alive = true → (atS l' p).alive = false → Child l p j → (atS l' j).alive = false
  num : n = (lives l : Int) - (lives l' : Int)
theorem lives_le {l l' : List Sl} (h : Less l l') : lives l' ≤ lives l := by
  have : ∀ (a b : List Sl), a.length = b.length → (∀ i, (atS b i).alive = true → (atS a i).alive = true) → lives b ≤ lives a := by
    intro a
    induction a with
    | nil => intro b hb _; cases b with
      | nil => exact Nat.le_refl _
      | cons => simp at hb
    | cons s a ih =>
      intro b hb hk
      cases b with
      | nil => simp at hb
      | cons t b =>
        have h1 := ih b (by simpa using hb) (fun i => hk (i + 1))
        have h2 : t.alive = true → s.alive = true := hk 0
        unfold lives at h1 ⊢
        rw [List.countP_cons, List.countP_cons]
        cases ht : t.alive
        · simp; omega
        · rw [h2 ht]; simp; omega
  exact this l l' h.len.symm h.dead
/-- The loop's invariant. -/
structure RevI (l0 l : List Sl) (i j : Nat) (n : Int) : Prop where
  less : Less l0 l
  self : (atS l i).alive = false
  only : ∀ j, (atS l0 j).alive = true → (atS l j).alive = false → Desc l0 i j
  closed : ∀ p q, p ≠ i → (atS l0 p).alive = true → (atS l p).alive = false → Child l0 p q → (atS l q).alive = false
  mine : ∀ q, q < j → Child l0 i q → (atS l q).alive = false
  num : n = (lives l0 : Int) - (lives l : Int)
theorem revL_ok (f : Nat) (R : List Sl → Nat → List Sl × Int) (l0 : List Sl) (i : Nat) (hi : (atS l0 i).alive = true)
    (hR : ∀ l j, (atS l j).alive = true → lives l ≤ f → Rev l j (R l j).1 (R l j).2) :
    ∀ (c j : Nat) (l : List Sl) (n : Int), j + c = l0.length → lives l ≤ f → RevI l0 l i j n → RevI l0 (revL R (i : Int) (atS l0 i).gen c j l n).1 i l0.length (revL R (i : Int) (atS l0 i).gen c j l n).2 := by
  intro c
  induction c with
  | zero =>
    intro j l n hj hf h
    obtain rfl : j = l0.length := by omega
    exact h
  | succ c ih =>
    intro j l n hj hf h
    unfold revL
    by_cases t : (atS l j).alive = true ∧ (atS l j).cap.us = (i : Int) ∧ (atS l j).cap.ug = (atS l0 i).gen
    · rw [if_pos t]
      have r := hR l j t.1 hf
      have hja := h.less.dead j t.1
      have hch : Child l0 i j := ⟨hja, by rw [← h.less.cap]; exact t.2.1, by rw [← h.less.cap]; exact t.2.2⟩
      have lift : ∀ q, Desc l j q → Desc l0 i q := by
        intro q hq
        induction hq with
        | base => exact .step .base hch
        | step _ c ih => exact .step ih ⟨h.less.dead _ c.1, by rw [← h.less.cap]; exact c.2.1, by rw [← h.less.cap, ← h.less.gen]; exact c.2.2⟩
      have up : ∀ p q, Child l0 p q → (atS l q).alive = true → Child l p q := fun p q c ha => ⟨ha, by rw [h.less.cap]; exact c.2.1, by rw [h.less.cap, h.less.gen]; exact c.2.2⟩
      refine ih (j + 1) _ _ (by omega) (Nat.le_trans (lives_le r.less) hf) ⟨h.less.trans r.less, ?_, fun q h1 h2 => ?_, fun p q hp h1 h2 hc => ?_, fun q hq hc => ?_, ?_⟩
      · cases e : (atS (R l j).1 i).alive
        · rfl
        · have := r.less.dead i e; rw [h.self] at this; cases this
      · cases e : (atS l q).alive
        · exact h.only q h1 e
        · exact lift q (r.only q e h2)
      · cases e : (atS l p).alive
        · have hq := h.closed p q hp h1 e hc
          cases e2 : (atS (R l j).1 q).alive
          · rfl
          · have := r.less.dead q e2; rw [hq] at this; cases this
        · cases e2 : (atS (R l j).1 q).alive
          · rfl
          · have ha := r.less.dead q e2
            have := r.closed p q e h2 (up p q hc ha)
            rw [this] at e2; cases e2
      · cases e2 : (atS (R l j).1 q).alive
        · rfl
        · have ha := r.less.dead q e2
          by_cases hqj : q < j
          · have := h.mine q hqj hc; rw [this] at ha; cases ha
          · obtain rfl : q = j := by omega
            have := r.self; rw [this] at e2; cases e2
      · have h1 := h.num
        have h2 := r.num
        omega
    · rw [if_neg t]
      refine ih (j + 1) l n (by omega) hf ⟨h.less, h.self, h.only, h.closed, fun q hq hc => ?_, h.num⟩
      by_cases hqj : q < j
      · exact h.mine q hqj hc
      · obtain rfl : q = j := by omega
        cases e : (atS l q).alive
        · rfl
        · exact absurd ⟨e, by rw [h.less.cap]; exact hc.2.1, by rw [h.less.cap]; exact hc.2.2⟩ t
theorem revS_ok : ∀ (f : Nat) (l : List Sl) (i : Nat), (atS l i).alive = true → lives l ≤ f → Rev l i (revS f l i).1 (revS f l i).2 := by
  intro f
  induction f with
  | zero =>
    intro l i h hf
    have := lives_set h
    omega
  | succ f ih =>
    intro l i h hf
    have hl := lives_set h
    have hi := atS_alive_lt h
    have I0 : RevI l (l.set i (killS (atS l i))) i 0 1 := by
      refine ⟨Less.kill l i, ?_, fun j h1 h2 => ?_, fun p q hp h1 h2 _ => ?_, fun q hq => by omega, by omega⟩
      · rw [atS_set, if_pos ⟨rfl, hi⟩]; rfl
      · rw [atS_set] at h2
        split at h2
        · rename_i e; rw [← e.1]; exact .base
        · rw [h1] at h2; cases h2
      · rw [atS_set, if_neg (fun e => hp e.1.symm)] at h2
        rw [h1] at h2; cases h2
    have r := revL_ok f (revS f) l i h (fun l j h1 h2 => ih l j h1 h2) l.length 0 (l.set i (killS (atS l i))) 1 (by omega) (by omega) I0
    unfold revS
    refine ⟨r.less, r.self, r.only, fun p j h1 h2 hc => ?_, r.num⟩
    by_cases hp : p = i
    · subst hp
      exact r.mine j (atS_alive_lt hc.1) hc
    · exact r.closed p j hp h1 h2 hc
theorem Rev.iff {l l' : List Sl} {i : Nat} {n : Int} (r : Rev l i l' n) (hi : (atS l i).alive = true) (j : Nat) (hj : (atS l j).alive = true) : (atS l' j).alive = false ↔ Desc l i j := by
  refine ⟨r.only j hj, fun h => ?_⟩
  have : ∀ j, Desc l i j → (atS l j).alive = true ∧ (atS l' j).alive = false := by
    intro j h
    induction h with
    | base => exact ⟨hi, r.self⟩
    | step _ c ih => exact ⟨c.1, r.closed _ _ ih.1 ih.2 c⟩
  exact (this j h).2
def csl (s : Sl) : List Value := [.int .i64 s.gen, .bool s.alive, .int .i64 s.cap.obj, .int .i64 s.cap.rights, .int .i64 s.cap.owner, .int .i64 s.cap.us, .int .i64 s.cap.ug]
def csls (l : List Sl) : List Value := l.flatMap csl
theorem csl_len (s : Sl) : (csl s).length = 7 := rfl
theorem csls_cons (s : Sl) (l : List Sl) : csls (s :: l) = csl s ++ csls l := rfl
theorem csls_len (l : List Sl) : (csls l).length = 7 * l.length := by
  induction l with
  | nil => rfl
  | cons s l ih => rw [csls_cons, List.length_append, ih, csl_len, List.length_cons]; omega
theorem csls_get : ∀ (l : List Sl) (i j : Nat), i < l.length → j < 7 → (csls l)[i * 7 + j]? = (csl (atS l i))[j]? := by
  intro l
  induction l with
  | nil => intro i j h; simp at h
  | cons s l ih =>
    intro i j hi hj
    rw [csls_cons]
    cases i with
    | zero =>
      rw [Nat.zero_mul, Nat.zero_add, List.getElem?_append_left (by rw [csl_len]; exact hj)]
      rfl
    | succ i =>
      rw [List.getElem?_append_right (by rw [csl_len]; omega), csl_len, show (i + 1) * 7 + j - 7 = i * 7 + j by omega]
      exact ih i j (by simpa using hi) hj
theorem csls_set : ∀ (l : List Sl) (i j : Nat) (v : Value) (s' : Sl), i < l.length → j < 7 → csl s' = (csl (atS l i)).set j v → (csls l).set (i * 7 + j) v = csls (l.set i s') := by
  intro l
  induction l with
  | nil => intro i j v s' h; simp at h
  | cons s l ih =>
    intro i j v s' hi hj h
    rw [csls_cons]
    cases i with
    | zero =>
      rw [Nat.zero_mul, Nat.zero_add, List.set_append_left _ _ (by rw [csl_len]; exact hj), List.set_cons_zero, csls_cons, h]
      rfl
    | succ i =>
      rw [List.set_append_right _ _ (by rw [csl_len]; omega), csl_len, show (i + 1) * 7 + j - 7 = i * 7 + j by omega, List.set_cons_succ, csls_cons, ih i j v s' (by simpa using hi) hj h]
structure TRow (w : World) (R B : Nat) (l : List Sl) (g : Int) : Prop where
  t : ∃ c, l.length ≤ c ∧ w.heap[R]? = some (.cells #[.slice (some ⟨B, 0, none⟩) l.length c, .int .i64 g] 70 (0, 0))
  b : ∃ rest, w.heap[B]? = some (.cells (csls l ++ rest).toArray 76 (0, 0))
  ne : R ≠ B
  n : 1 ≤ l.length ∧ l.length ≤ 64
  g : 1 ≤ g ∧ g ≤ 65535
  gens : ∀ i, 0 ≤ (atS l i).gen ∧ (atS l i).gen ≤ 65535
theorem TRow.kept {w w' : World} {R B : Nat} {l : List Sl} {g : Int} (h : TRow w R B l g) (hR : w'.heap[R]? = w.heap[R]?) (hB : w'.heap[B]? = w.heap[B]?) : TRow w' R B l g :=
  ⟨by rw [hR]; exact h.t, by rw [hB]; exact h.b, h.ne, h.n, h.g, h.gens⟩
theorem TRow.ltR {w : World} {R B : Nat} {l : List Sl} {g : Int} (h : TRow w R B l g) : R < w.heap.size := by
  obtain ⟨c, _, e⟩ := h.t
  exact (Array.getElem?_eq_some_iff.1 e).1
theorem TRow.ltB {w : World} {R B : Nat} {l : List Sl} {g : Int} (h : TRow w R B l g) : B < w.heap.size := by
  obtain ⟨rest, e⟩ := h.b
  exact (Array.getElem?_eq_some_iff.1 e).1
theorem TRow.below {w w' : World} {R B : Nat} {l : List Sl} {g : Int} (h : TRow w R B l g) (hb : Below w.heap.size w w') : TRow w' R B l g :=
  h.kept (hb.block R h.ltR) (hb.block B h.ltB)
theorem TRow.drewN {w : World} {R B : Nat} {l : List Sl} {g : Int} (h : TRow w R B l g) (n : Nat) : TRow (w.drewN n) R B l g := h.kept rfl rfl
theorem TRow.c0 {w : World} {R B : Nat} {l : List Sl} {g : Int} (h : TRow w R B l g) : ∃ c, l.length ≤ c ∧ w.cell? ⟨R, 0, none⟩ = some (.slice (some ⟨B, 0, none⟩) l.length c) := by
  obtain ⟨c, hc, e⟩ := h.t
  exact ⟨c, hc, by rw [cell_of_row w R _ _ _ _ e]; rfl⟩
theorem TRow.c1 {w : World} {R B : Nat} {l : List Sl} {g : Int} (h : TRow w R B l g) : w.cell? ⟨R, 1, none⟩ = some (.int .i64 g) := by
  obtain ⟨c, _, e⟩ := h.t
  rw [cell_of_row w R _ _ _ _ e]; rfl
theorem TRow.at_ {w : World} {R B : Nat} {l : List Sl} {g : Int} (h : TRow w R B l g) (i j : Nat) (hi : i < l.length) (hj : j < 7) : w.cell? ⟨B, i * 7 + j, none⟩ = (csl (atS l i))[j]? := by
  obtain ⟨rest, e⟩ := h.b
  rw [cell_of_row w B _ _ _ _ e, List.getElem?_toArray, List.getElem?_append_left (by rw [csls_len]; omega), csls_get l i j hi hj]
theorem TRow.frozen {w : World} {R B : Nat} {l : List Sl} {g : Int} (h : TRow w R B l g) (i : Nat) : w.frozen? ⟨B, i, none⟩ = false := by
  obtain ⟨rest, e⟩ := h.b
  exact frozen_of_row w B i _ _ e
set_option maxRecDepth 100000 in
set_option maxHeartbeats 2000000 in
theorem good_w (R B : Nat) (l : List Sl) (g : Int) (w : World) (h : TRow w R B l g) :
    Calls Try.prog 26 #[.pointer (some ⟨R, 0, none⟩)] w fun e w' => e = .returned (.bool true) ∧ w = w' := by
  have c1 := h.c1
  have cb : decide (0 < g) = true := decide_eq_true (by have := h.g; omega)
  clear h
  go_enter Try.func26, Try.ntmps26
  go_wp2
  go_ret
  exact ⟨rfl, rfl⟩
theorem bcell {W w1 : World} (hb : Below W.heap.size W w1) : (∀ b o, b < W.heap.size → w1.cell? ⟨b, o, none⟩ = W.cell? ⟨b, o, none⟩) ∧ (∀ b o, b < W.heap.size → w1.frozen? ⟨b, o, none⟩ = W.frozen? ⟨b, o, none⟩) :=
  ⟨fun b o h => hb.cell (p := ⟨b, o, none⟩) h, fun b o h => hb.frozen (p := ⟨b, o, none⟩) h⟩
theorem TRow.cs {w : World} {R B : Nat} {l : List Sl} {g : Int} (h : TRow w R B l g) {i : Nat} (hi : i < l.length) {gen obj rr owner us ug : Int} {alive : Bool} (hs : atS l i = ⟨gen, alive, ⟨obj, rr, owner, us, ug⟩⟩) :
    w.cell? ⟨B, i * 7, none⟩ = some (.int .i64 gen) ∧ w.cell? ⟨B, i * 7 + 1, none⟩ = some (.bool alive) ∧ w.cell? ⟨B, i * 7 + 2, none⟩ = some (.int .i64 obj) ∧ w.cell? ⟨B, i * 7 + 2 + 1, none⟩ = some (.int .i64 rr) ∧ w.cell? ⟨B, i * 7 + 2 + 2, none⟩ = some (.int .i64 owner) ∧ w.cell? ⟨B, i * 7 + 2 + 3, none⟩ = some (.int .i64 us) ∧ w.cell? ⟨B, i * 7 + 2 + 4, none⟩ = some (.int .i64 ug) :=
  ⟨(h.at_ i 0 hi (by decide)).trans (by rw [hs]; rfl), (h.at_ i 1 hi (by decide)).trans (by rw [hs]; rfl), (h.at_ i 2 hi (by decide)).trans (by rw [hs]; rfl), (h.at_ i 3 hi (by decide)).trans (by rw [hs]; rfl), (h.at_ i 4 hi (by decide)).trans (by rw [hs]; rfl), (h.at_ i 5 hi (by decide)).trans (by rw [hs]; rfl), (h.at_ i 6 hi (by decide)).trans (by rw [hs]; rfl)⟩
theorem slEx (s : Sl) : ∃ (gen : Int) (alive : Bool) (obj rr owner us ug : Int), s = ⟨gen, alive, ⟨obj, rr, owner, us, ug⟩⟩ := ⟨_, _, _, _, _, _, _, rfl⟩

end Go.Proofs.Ytecbdhampjmlaaa.Ext
