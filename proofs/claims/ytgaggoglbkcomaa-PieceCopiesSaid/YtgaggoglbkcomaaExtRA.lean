/- runs in plain Lean: lists of runs, their bytes, and what is laid one behind the other. -/
import Derived.Test.YtgaggoglbkcomaaXRRx0
import Derived.Test.YtgaggoglbkcomaaWMore
import Derived.WalkKit
import Derived.WalkMore
import Derived.Below
import Derived.KernelRfl
import Derived.LoopTactic
import Derived.Deep.RegionWith
import Derived.Deep.RegionHeld3
import Derived.IntWalk
import Derived.Deep.DeepCutAuto
import Derived.Deep.CutBlock
import Derived.BigQuiet
import Derived.Laws.RangeString
import Derived.Laws.RangeAny
import Derived.Laws.Rows
import Derived.Laws.Runes
import Derived.Lib.OthersKept
import Derived.OpenShut
set_option linter.unusedVariables false
set_option linter.unusedSimpArgs false
namespace Go.Proofs.Ytgaggoglbkcomaa.Ext
open Go.RowKit Go.Lib Go.Proofs.YtgaggoglbkcomaaW.PrintWords Go.Proofs.YtgaggoglbkcomaaW.PrintMore Go.Proofs.Ytgaggoglbkcomaa.XRR

abbrev Rn := S29
def bytesR (l : List Rn) : List Int := l.flatMap (fun r => List.replicate r.f1.toNat r.f0)
theorem bytesR_nil : bytesR [] = [] := rfl
theorem bytesR_cons (r : Rn) (l : List Rn) : bytesR (r :: l) = List.replicate r.f1.toNat r.f0 ++ bytesR l := rfl
theorem bytesR_append (a b : List Rn) : bytesR (a ++ b) = bytesR a ++ bytesR b := List.flatMap_append
/-- A list without empty runs, and without two of one label side by side. -/
def pk : List Rn → Prop
  | [] => True
  | [r] => 1 ≤ r.f1
  | r :: s :: l => 1 ≤ r.f1 ∧ r.f0 ≠ s.f0 ∧ pk (s :: l)
theorem pk_tail {r : Rn} {l : List Rn} (h : pk (r :: l)) : pk l := by
  cases l with
  | nil => trivial
  | cons s l => exact h.2.2
theorem pk_head {r : Rn} {l : List Rn} (h : pk (r :: l)) : 1 ≤ r.f1 := by
  cases l with
  | nil => exact h
  | cons s l => exact h.1
theorem pk_mem : ∀ {l : List Rn}, pk l → ∀ r, r ∈ l → 1 ≤ r.f1
  | [], _, r, h => by cases h
  | s :: l, hp, r, h => by
    rcases List.mem_cons.1 h with e | h
    · rw [e]; exact pk_head hp
    · exact pk_mem (pk_tail hp) r h
theorem rep_pos {n : Int} (h : 1 ≤ n) (x : Int) : List.replicate n.toNat x = x :: List.replicate (n - 1).toNat x := by
  obtain ⟨k, rfl⟩ : ∃ k : Nat, n = (k : Int) + 1 := ⟨(n - 1).toNat, by omega⟩
  rw [show ((k : Int) + 1).toNat = k + 1 by omega, List.replicate_succ, show ((k : Int) + 1 - 1).toNat = k by omega]
theorem bytes_head {r : Rn} {l : List Rn} (h : pk (r :: l)) : (bytesR (r :: l)).head? = some r.f0 := by
  rw [bytesR_cons, rep_pos (pk_head h)]
  rfl
theorem bytes_eq_nil {l : List Rn} (h : pk l) (e : bytesR l = []) : l = [] := by
  cases l with
  | nil => rfl
  | cons r l =>
    have := bytes_head h
    rw [e] at this
    cases this
/-- The leading bytes of one label. -/
theorem pk_first {r : Rn} {l : List Rn} (h : pk (r :: l)) : (bytesR (r :: l)).takeWhile (· == r.f0) = List.replicate r.f1.toNat r.f0 ∧ (bytesR (r :: l)).dropWhile (· == r.f0) = bytesR l := by
  have hl : (bytesR l).takeWhile (· == r.f0) = [] ∧ (bytesR l).dropWhile (· == r.f0) = bytesR l := by
    cases l with
    | nil => exact ⟨rfl, rfl⟩
    | cons s l =>
      have h2 := pk_tail h
      rw [bytesR_cons, rep_pos (pk_head h2)]
      have hne : (s.f0 == r.f0) = false := beq_eq_false_iff_ne.2 (fun e => h.2.1 e.symm)
      exact ⟨by rw [List.cons_append, List.takeWhile_cons, hne]; rfl, by rw [List.cons_append, List.dropWhile_cons, hne]; rfl⟩
  rw [bytesR_cons]
  generalize r.f1.toNat = n
  induction n with
  | zero => exact hl
  | succ n ih =>
    rw [List.replicate_succ, List.cons_append, List.takeWhile_cons, List.dropWhile_cons, show (r.f0 == r.f0) = true from beq_self_eq_true _]
    exact ⟨by rw [if_pos rfl, ih.1], by rw [if_pos rfl, ih.2]⟩
theorem pk_inj : ∀ {a b : List Rn}, pk a → pk b → bytesR a = bytesR b → a = b
  | [], b, _, hb, e => (bytes_eq_nil hb e.symm).symm
  | r :: a, [], ha, _, e => bytes_eq_nil ha e
  | r :: a, s :: b, ha, hb, e => by
    have h1 := bytes_head ha
    rw [e, bytes_head hb] at h1
    have hL : s.f0 = r.f0 := Option.some.inj h1
    have f1 := pk_first ha
    have f2 := pk_first hb
    rw [hL, ← e] at f2
    have hn := congrArg List.length (f1.1.symm.trans f2.1)
    rw [List.length_replicate, List.length_replicate] at hn
    have hr := pk_head ha
    have hs := pk_head hb
    have ih := pk_inj (pk_tail ha) (pk_tail hb) (f1.2.symm.trans f2.2)
    obtain ⟨r0, r1⟩ := r
    obtain ⟨s0, s1⟩ := s
    simp only at hL hn hr hs
    rw [ih, ← hL, show r1 = s1 by omega]
/-- gather's add. -/
def addR (out : List Rn) (r : Rn) : List Rn :=
  if r.f1 < 1 then out
  else match out.getLast? with
    | some x => if x.f0 = r.f0 then out.dropLast ++ [⟨x.f0, x.f1 + r.f1⟩] else out ++ [r]
    | none => out ++ [r]
theorem rep_add (a b : Int) (ha : 0 ≤ a) (hb : 0 ≤ b) (x : Int) : List.replicate (a + b).toNat x = List.replicate a.toNat x ++ List.replicate b.toNat x := by
  rw [show (a + b).toNat = a.toNat + b.toNat by omega, ← List.replicate_append_replicate]
theorem last_split {out : List Rn} {x : Rn} (h : out.getLast? = some x) : out = out.dropLast ++ [x] := by
  rw [List.getLast?_eq_some_iff] at h
  obtain ⟨ys, e⟩ := h
  rw [e, List.dropLast_concat]
theorem bytes_addR (out : List Rn) (r : Rn) (hp : pk out) : bytesR (addR out r) = bytesR out ++ List.replicate r.f1.toNat r.f0 := by
  unfold addR
  by_cases c : r.f1 < 1
  · rw [if_pos c, show r.f1.toNat = 0 by omega]
    simp
  · rw [if_neg c]
    have one : bytesR (out ++ [r]) = bytesR out ++ List.replicate r.f1.toNat r.f0 := by rw [bytesR_append]; simp [bytesR]
    cases e : out.getLast? with
    | none => exact one
    | some x =>
      simp only
      by_cases c2 : x.f0 = r.f0
      · rw [if_pos c2]
        have hx : 1 ≤ x.f1 := pk_mem hp x (List.mem_of_getLast? e)
        have hs := last_split e
        have h2 : bytesR out = bytesR out.dropLast ++ List.replicate x.f1.toNat x.f0 := by
          rw [hs, bytesR_append, List.dropLast_concat]
          simp [bytesR]
        rw [h2, bytesR_append, List.append_assoc, ← c2, ← rep_add x.f1 r.f1 (by omega) (by omega)]
        simp [bytesR]
      · rw [if_neg c2]; exact one
theorem pk_snoc : ∀ {l : List Rn} {r : Rn}, pk l → 1 ≤ r.f1 → (∀ x, l.getLast? = some x → x.f0 ≠ r.f0) → pk (l ++ [r])
  | [], r, _, h, _ => h
  | [s], r, hp, h, hl => ⟨hp, hl s rfl, h⟩
  | s :: t :: l, r, hp, h, hl => ⟨hp.1, hp.2.1, pk_snoc (l := t :: l) hp.2.2 h (fun x hx => hl x (by rw [List.getLast?_cons_cons]; exact hx))⟩
theorem pk_bump : ∀ {l : List Rn} {x y : Rn}, pk (l ++ [x]) → y.f0 = x.f0 → 1 ≤ y.f1 → pk (l ++ [y])
  | [], x, y, _, _, h => h
  | [s], x, y, hp, e, h => ⟨hp.1, by rw [e]; exact hp.2.1, h⟩
  | s :: t :: l, x, y, hp, e, h => ⟨hp.1, hp.2.1, pk_bump (l := t :: l) hp.2.2 e h⟩
theorem pk_addR (out : List Rn) (r : Rn) (hp : pk out) : pk (addR out r) := by
  unfold addR
  by_cases c : r.f1 < 1
  · rw [if_pos c]; exact hp
  · rw [if_neg c]
    cases e : out.getLast? with
    | none => exact pk_snoc hp (by omega) (fun x hx => by rw [e] at hx; cases hx)
    | some x =>
      simp only
      by_cases c2 : x.f0 = r.f0
      · rw [if_pos c2]
        have hx : 1 ≤ x.f1 := pk_mem hp x (List.mem_of_getLast? e)
        have hs := last_split e
        rw [hs] at hp
        exact pk_bump hp rfl (by simp only; omega)
      · rw [if_neg c2]
        exact pk_snoc hp (by omega) (fun y hy => by rw [e] at hy; cases hy; exact c2)
/-- some: the runs of the bytes from a place on, ahead of another one. -/
def someR (f t : Int) : Int → List Rn → List Rn → List Rn
  | _, [], out => out
  | at_, r :: l, out => someR f t (at_ + r.f1) l (addR out ⟨r.f0, min (at_ + r.f1) t - max at_ f⟩)
def cutB (xs : List Int) (a b : Int) : List Int := (xs.take b.toNat).drop a.toNat
theorem cutB_append (x y : List Int) (a b : Int) : cutB (x ++ y) a b = cutB x a b ++ cutB y (a - x.length) (b - x.length) := by
  unfold cutB
  rw [List.take_append, List.drop_append, List.length_take]
  congr 1
  rw [show (b - (x.length : Int)).toNat = b.toNat - x.length by omega]
  by_cases c : b.toNat ≤ x.length
  · rw [show b.toNat - x.length = 0 by omega]
    simp
  · rw [show (a - (x.length : Int)).toNat = a.toNat - min b.toNat x.length by omega]
theorem cutB_rep (n : Nat) (x a b : Int) : cutB (List.replicate n x) a b = List.replicate (min b.toNat n - a.toNat) x := by
  unfold cutB
  rw [List.take_replicate, List.drop_replicate]
theorem someR_ok (f t : Int) : ∀ (l : List Rn) (at_ : Int) (out : List Rn), (∀ r, r ∈ l → 0 ≤ r.f1) → pk out → pk (someR f t at_ l out) ∧ bytesR (someR f t at_ l out) = bytesR out ++ cutB (bytesR l) (f - at_) (t - at_) := by
  intro l
  induction l with
  | nil =>
    intro at_ out _ hp
    exact ⟨hp, by simp [someR, cutB, bytesR]⟩
  | cons r l ih =>
    intro at_ out hn hp
    have hr := hn r List.mem_cons_self
    obtain ⟨h1, h2⟩ := ih (at_ + r.f1) (addR out ⟨r.f0, min (at_ + r.f1) t - max at_ f⟩) (fun s hs => hn s (List.mem_cons_of_mem _ hs)) (pk_addR _ _ hp)
    refine ⟨h1, h2.trans ?_⟩
    rw [bytes_addR _ _ hp, bytesR_cons, cutB_append, cutB_rep, List.length_replicate, List.append_assoc]
    congr 1
    congr 1
    · simp only
      congr 1
      omega
    · rw [show f - at_ - ((r.f1.toNat : Nat) : Int) = f - (at_ + r.f1) by omega, show t - at_ - ((r.f1.toNat : Nat) : Int) = t - (at_ + r.f1) by omega]

end Go.Proofs.Ytgaggoglbkcomaa.Ext
