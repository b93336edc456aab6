/- caps: has, and the plain laws of CapsDead. -/
import Derived.Test.YtecbdhampjmlaaaExt17R
import Derived.Test.YtecbdhampjmlaaaXCapsDeadx0
import Derived.Test.YtecbdhampjmlaaaWMore
import Derived.WalkKit
import Derived.WalkMore
import Derived.Below
import Derived.KernelRfl
import Derived.LoopTactic
import Derived.Deep.RegionWith
import Derived.Deep.RegionHeld3
import Derived.IntWalk
import Derived.Deep.DeepCutAuto
import Derived.Deep.CutBlock
import Derived.BigQuiet
import Derived.Laws.RangeString
import Derived.Laws.RangeAny
import Derived.Laws.Rows
import Derived.Laws.Runes
import Derived.Lib.OthersKept
import Derived.OpenShut
set_option linter.unusedVariables false
set_option linter.unusedSimpArgs false
namespace Go.Proofs.Ytecbdhampjmlaaa.Ext
open Go.RowKit Go.Lib Go.Proofs.YtecbdhampjmlaaaW.PrintWords Go.Proofs.YtecbdhampjmlaaaW.PrintMore Go.Proofs.Ytecbdhampjmlaaa.XCapsDead

/-! ### tokens that were given, and that are dead -/
def hasB (l : List S28) (a b : Int) : Bool := l.any (fun x => x.f0 == a && x.f1 == b)
theorem hasB_yes {l : List S28} {a b : Int} (h : (⟨a, b⟩ : S28) ∈ l) : hasB l a b = true := List.any_eq_true.2 ⟨_, h, by simp⟩
theorem hasB_mem {l : List S28} {a b : Int} (h : hasB l a b = true) : (⟨a, b⟩ : S28) ∈ l := by
  obtain ⟨x, hx, e⟩ := List.any_eq_true.1 h
  rw [Bool.and_eq_true, beq_iff_eq, beq_iff_eq] at e
  obtain ⟨x0, x1⟩ := x
  obtain ⟨rfl, rfl⟩ := e
  exact hx
theorem hasB_no {l : List S28} {a b : Int} (h : (⟨a, b⟩ : S28) ∉ l) : hasB l a b = false := by
  cases e : hasB l a b
  · rfl
  · exact absurd (hasB_mem e) h
theorem hasB_take (l : List S28) (a b : Int) (q : Nat) (hq : q < l.length) : hasB (l.take (q + 1)) a b = (hasB (l.take q) a b || (l[q].f0 == a && l[q].f1 == b)) := by
  unfold hasB
  rw [List.take_add_one, List.any_append, List.getElem?_eq_getElem hq]
  simp
structure Jd (l : List Sl) (gs ds : List S28) : Prop where
  pos : ∀ i, 0 ≤ (atS l i).gen
  gen : ∀ k : S28, k ∈ gs → ∃ i : Nat, i < l.length ∧ k.f0 = (i : Int) ∧ k.f1 ≤ (atS l i).gen
  live : ∀ i : Nat, (atS l i).alive = true → (⟨(i : Int), (atS l i).gen⟩ : S28) ∈ gs
  dead : ∀ k : S28, k ∈ ds → ∃ i : Nat, i < l.length ∧ k.f0 = (i : Int) ∧ k.f1 ≤ (atS l i).gen ∧ ¬ ((atS l i).alive = true ∧ (atS l i).gen = k.f1)
theorem Jd.start (n : Nat) : Jd (List.replicate n sl0) [] [] :=
  ⟨fun i => (by rw [atS_rep]; decide), fun k h => (List.not_mem_nil h).elim, fun i h => (by rw [atS_rep] at h; cases h), fun k h => (List.not_mem_nil h).elim⟩
/-- What a call does to a table, and to the tokens. -/
def JdP (l l' : List Sl) (gs ds : List S28) (ts tg : Int) (tb : Bool) : Prop :=
  l'.length = l.length ∧ (tb = true → hasB gs ts tg = false ∧ Jd l' (gs ++ [⟨ts, tg⟩]) ds) ∧ (tb = false → Jd l' gs ds)
theorem Jd.give {l : List Sl} {gs ds : List S28} (h : Jd l gs ds) (g : Int) (c : Cp) : JdP l (giveZ g l c).1 gs ds (giveZ g l c).2.1 (giveZ g l c).2.2.1 ((giveZ g l c).2.2.2 == 0) := by
  rcases giveZ_or g l c with ⟨i, hi, hf, e⟩ | e
  · rw [e]
    have hd := (freeS_dead hf).1
    have hat : atS (l.set i ⟨(atS l i).gen + 1, true, c⟩) i = ⟨(atS l i).gen + 1, true, c⟩ := by rw [atS_set, if_pos ⟨rfl, hi⟩]
    refine ⟨List.length_set, fun _ => ⟨hasB_no (fun hm => ?_), ?_⟩, fun hh => (by cases hh)⟩
    · obtain ⟨j, hj, e1, e2⟩ := h.gen _ hm
      simp only at e1 e2
      obtain rfl : i = j := by omega
      omega
    · refine ⟨fun j => ?_, fun k hk => ?_, fun j hj => ?_, fun k hk => ?_⟩
      · simp only
        rw [atS_set]
        split
        · have := h.pos i; simp only; omega
        · exact h.pos j
      · rw [List.length_set]
        rcases List.mem_append.1 hk with hk | hk
        · obtain ⟨j, hj, e1, e2⟩ := h.gen k hk
          refine ⟨j, hj, e1, ?_⟩
          simp only
          rw [atS_set]
          split
          · rename_i x; rw [← x.1] at e2; simp only; omega
          · exact e2
        · rw [List.mem_singleton] at hk
          subst hk
          exact ⟨i, hi, rfl, by simp only; rw [hat]; exact Int.le_refl _⟩
      · simp only at hj ⊢
        rw [atS_set] at hj ⊢
        by_cases x : i = j ∧ i < l.length
        · rw [if_pos x, ← x.1]
          exact List.mem_append_right _ (List.mem_singleton.2 rfl)
        · rw [if_neg x] at hj ⊢
          exact List.mem_append_left _ (h.live j hj)
      · rw [List.length_set]
        obtain ⟨j, hj, e1, e2, e3⟩ := h.dead k hk
        refine ⟨j, hj, e1, ?_⟩
        simp only
        rw [atS_set]
        split
        · rename_i x; rw [← x.1] at e2; simp only; exact ⟨by omega, fun y => by omega⟩
        · exact ⟨e2, e3⟩
  · rw [e]; exact ⟨rfl, fun hh => (by cases hh), fun _ => h⟩
theorem Jd.less {l l' : List Sl} {gs ds : List S28} (h : Jd l gs ds) (r : Less l l') : Jd l' gs ds := by
  refine ⟨fun i => by rw [r.gen]; exact h.pos i, fun k hk => ?_, fun i hi => by rw [r.gen]; exact h.live i (r.dead i hi), fun k hk => ?_⟩
  · obtain ⟨j, hj, e1, e2⟩ := h.gen k hk
    exact ⟨j, by rw [r.len]; exact hj, e1, by rw [r.gen]; exact e2⟩
  · obtain ⟨j, hj, e1, e2, e3⟩ := h.dead k hk
    exact ⟨j, by rw [r.len]; exact hj, e1, by rw [r.gen]; exact e2, fun x => e3 ⟨r.dead j x.1, by rw [← r.gen]; exact x.2⟩⟩
theorem Jd.does {l : List Sl} {gs ds : List S28} (h : Jd l gs ds) (g : Int) (a : Ac) : JdP l (doesZ g l a).1 gs ds (doesZ g l a).2.1 (doesZ g l a).2.2.1 (doesZ g l a).2.2.2 := by
  have stay : ∀ e : Int, e ≠ 0 → JdP l l gs ds 0 0 (e == 0) := fun e he => ⟨rfl, fun hh => absurd (beq_iff_eq.1 hh) he, fun _ => h⟩
  unfold doesZ
  split
  · unfold mintZ
    split
    · exact stay 2 (by decide)
    · exact h.give g _
  · split
    · unfold deriveZ
      split
      · exact stay 2 (by decide)
      · split
        · rename_i c; exact stay _ c
        · exact h.give g _
    · split
      · unfold revokeZ
        by_cases c : findE l a.ks a.kg ≠ 0
        · rw [if_pos c]; exact ⟨rfl, fun hh => (by cases hh), fun _ => h⟩
        · rw [if_neg c]
          obtain ⟨i, e1, hi, ha, hg⟩ := findE_ok (Classical.not_not.1 c)
          have r := revS_ok (lives l) l a.ks.toNat (by rw [e1, Int.toNat_natCast]; exact ha) (Nat.le_refl _)
          exact ⟨r.less.len, fun hh => (by cases hh), fun _ => h.less r.less⟩
      · exact ⟨rfl, fun hh => (by cases hh), fun _ => h⟩
def tokL (x : Lv) : S28 := ⟨x.ks, x.kg⟩
theorem Jd.now {l : List Sl} {gs ds : List S28} (h : Jd l gs ds) : ∀ x, x ∈ liveZ l → hasB gs x.ks x.kg = true ∧ hasB ds x.ks x.kg = false := by
  intro x hx
  obtain ⟨j, h1, h2, h3, h4⟩ := liveFrom_mem l 0 x hx
  rw [Nat.zero_add] at h1
  rw [h1, h3]
  refine ⟨hasB_yes (h.live j h2), hasB_no (fun hm => ?_)⟩
  obtain ⟨i, hi, e1, e2, e3⟩ := h.dead _ hm
  simp only at e1 e2 e3
  obtain rfl : j = i := by omega
  exact e3 ⟨h2, rfl⟩
theorem now_no {l : List Sl} {a b : Int} (h : hasB ((liveZ l).map tokL) a b = false) (i : Nat) (e : a = (i : Int)) : ¬ ((atS l i).alive = true ∧ (atS l i).gen = b) := by
  rintro ⟨h1, h2⟩
  obtain ⟨q, hq, q1, q2⟩ := liveFrom_has l 0 i h1
  rw [Nat.zero_add] at q1
  have hm : tokL ((liveFrom 0 l)[q]) ∈ (liveZ l).map tokL := List.mem_map_of_mem (List.getElem_mem hq)
  have e2 : tokL ((liveFrom 0 l)[q]) = ⟨a, b⟩ := by unfold tokL; rw [q1, q2, e, h2]
  rw [e2] at hm
  rw [hasB_yes hm] at h
  cases h
theorem Jd.gone {l : List Sl} {gs ds : List S28} (h : Jd l gs ds) {k : S28} (hk : k ∈ gs) (hn : hasB ((liveZ l).map tokL) k.f0 k.f1 = false) : Jd l gs (ds ++ [k]) := by
  refine ⟨h.pos, h.gen, h.live, fun x hx => ?_⟩
  rcases List.mem_append.1 hx with hx | hx
  · exact h.dead x hx
  · rw [List.mem_singleton] at hx
    subst hx
    obtain ⟨i, hi, e1, e2⟩ := h.gen x hk
    exact ⟨i, hi, e1, e2, now_no hn i e1⟩
theorem now_find {l : List Sl} {a b : Int} (h : hasB ((liveZ l).map tokL) a b = false) : findE l a b = 6 ∨ findE l a b = 7 := by
  unfold findE
  split
  · exact .inl rfl
  · split
    · rename_i c x
      exact absurd x (now_no h a.toNat (by omega))
    · exact .inr rfl
theorem now_look {l : List Sl} {a b : Int} (h : hasB ((liveZ l).map tokL) a b = false) (who : Int) : lookZ l a b who 0 = (⟨0, 0, 0, 0, 0⟩, findE l a b) := by
  unfold lookZ
  rw [if_neg (by decide), if_pos (by rcases now_find h with e | e <;> rw [e] <;> decide)]
theorem now_revoke {l : List Sl} {a b : Int} (h : hasB ((liveZ l).map tokL) a b = false) : revokeZ l a b = (l, 0, findE l a b) := by
  unfold revokeZ
  rw [if_pos (by rcases now_find h with e | e <;> rw [e] <;> decide)]
theorem tk_get {w : World} {A : Option Addr} {n : Nat} {xs : List S28} (hn : n = xs.length) (h : Kd.C k28 w A n xs) (q : Nat) (hq : q < xs.length) : ∃ ad, A = some ad ∧ w.cell? (ad.add (q * 2)) = some (.int .i64 xs[q].f0) ∧ w.cell? ⟨(ad.add (q * 2)).block, (ad.add (q * 2)).off + 1, none⟩ = some (.int .i64 xs[q].f1) := by
  subst hn
  obtain ⟨ad, eA, hx0, hx1⟩ := at_T28 h (q : Int) (by omega) (by omega)
  have erd : rd_T28 xs (q : Int) = xs[q] := by
    unfold rd_T28
    rw [Int.toNat_natCast, List.getD_eq_getElem?_getD, List.getElem?_eq_getElem hq]
    rfl
  rw [erd, Int.toNat_natCast] at hx0 hx1
  exact ⟨ad, eA, hx0, hx1⟩
theorem getD_get {xs : List S28} {z : S28} (q : Nat) (hq : q < xs.length) : xs[q]?.getD z = xs[q] := by rw [List.getElem?_eq_getElem hq]; rfl
set_option maxRecDepth 100000 in
set_option maxHeartbeats 4000000 in
theorem has_w (A : Option Addr) (c : Nat) (xs : List S28) (a b : Int) (w : World) (hr : Kd.C k28 w A xs.length xs) (hc : xs.length ≤ c) (hl : xs.length ≤ 100000) :
    Calls Try.prog 11 #[.slice A xs.length c, .agg #[.int .i64 a, .int .i64 b]] w fun e w' => e = .returned (.bool (hasB xs a b)) ∧ Below w.heap.size w w' := by
  have HR := Aside0.mk hr
  clear hr
  go_enter Try.func11, Try.ntmps11
  go_wp2
  go_loopw [9] (fun ii wr => ∃ (q : Nat), ii = .int .i64 q ∧ q ≤ xs.length ∧ Aside0 (hasB (xs.take q) a b = false) ∧ Aside0 (Below w.heap.size w wr) ∧ Aside0 (wr.heap[w.heap.size]? = some (.cells #[.int .i64 a, .int .i64 b] 28 (0, 0)))) (fun ii _ => xs.length - (intOf ii).toNat)
  case atStart => exact ⟨0, rfl, Nat.zero_le _, ⟨rfl⟩, ⟨below_alloc (Below.refl _ _) _⟩, ⟨heap_alloc_new _ _⟩⟩
  case round =>
    obtain ⟨q, rfl, hq, HN, HBW, HX⟩ := hrel
    have hx := HX.out
    have hlt2 : w.heap.size < wr.heap.size := (Array.getElem?_eq_some_iff.1 hx).1
    obtain ⟨t0, t1, -, -⟩ := tok_lay hx
    clear hx
    by_cases hql : q < xs.length
    · obtain ⟨ad, eA, hx0, hx1⟩ := tk_get rfl (Kd.C_below HR.out HBW.out) q hql
      cases eA
      have ht := hasB_take xs a b q hql
      rw [HN.out, Bool.false_or] at ht
      have HM := Aside0.mk (List.getElem_mem hql)
      generalize xs[q] = y at hx0 hx1 ht HM
      obtain ⟨y0, y1⟩ := y
      simp only at hx0 hx1 ht
      by_cases e0 : y0 = a
      · by_cases e1 : y1 = b
        · have HY : Aside0 (hasB xs a b = true) := ⟨hasB_yes (by rw [← e0, ← e1]; exact HM.out)⟩
          clear ht
          go_wp2
          go_ret
          exact ⟨by rw [HY.out]; rfl, below_alloc HBW.out _⟩
        · have HT : Aside0 (hasB (xs.take (q + 1)) a b = false) := ⟨by rw [ht, beq_eq_false_iff_ne.2 e1, Bool.and_false]⟩
          clear ht
          go_wp2
          exact ⟨⟨q + 1, by go_num, by omega, HT, ⟨below_alloc HBW.out _⟩, ⟨by rw [Below.heap_alloc _ _ _ hlt2]; exact HX.out⟩⟩, by simp [intOf]; omega⟩
      · have HT : Aside0 (hasB (xs.take (q + 1)) a b = false) := ⟨by rw [ht, beq_eq_false_iff_ne.2 e0, Bool.false_and]⟩
        clear ht
        go_wp2
        exact ⟨⟨q + 1, by go_num, by omega, HT, ⟨below_alloc HBW.out _⟩, ⟨by rw [Below.heap_alloc _ _ _ hlt2]; exact HX.out⟩⟩, by simp [intOf]; omega⟩
    · have HY : Aside0 (hasB xs a b = false) := ⟨by have := HN.out; rwa [List.take_of_length_le (by omega)] at this⟩
      have hge : xs.length ≤ q := by omega
      go_wp2
      go_ret
      exact ⟨by rw [HY.out]; rfl, HBW.out⟩

end Go.Proofs.Ytecbdhampjmlaaa.Ext
