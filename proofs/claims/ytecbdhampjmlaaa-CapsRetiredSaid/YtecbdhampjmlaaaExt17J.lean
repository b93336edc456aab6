/- caps: CapsRetired, by its walk. -/
import Derived.Test.YtecbdhampjmlaaaExt17I
import Derived.Test.YtecbdhampjmlaaaXCapsActsx7
import Derived.Test.YtecbdhampjmlaaaWMore
import Derived.WalkKit
import Derived.WalkMore
import Derived.Below
import Derived.KernelRfl
import Derived.LoopTactic
import Derived.Deep.RegionWith
import Derived.Deep.RegionHeld3
import Derived.IntWalk
import Derived.Deep.DeepCutAuto
import Derived.Deep.CutBlock
import Derived.BigQuiet
import Derived.Laws.RangeString
import Derived.Laws.RangeAny
import Derived.Laws.Rows
import Derived.Laws.Runes
import Derived.Lib.OthersKept
import Derived.OpenShut
set_option linter.unusedVariables false
set_option linter.unusedSimpArgs false
namespace Go.Proofs.Ytecbdhampjmlaaa.Ext
open Go.RowKit Go.Lib Go.Proofs.YtecbdhampjmlaaaW.PrintWords Go.Proofs.YtecbdhampjmlaaaW.PrintMore Go.Proofs.Ytecbdhampjmlaaa.XCapsActs

/-! ### a table whose tokens come from nothing -/
structure Rt (g : Int) (l : List Sl) : Prop where
  gen : ∀ i, 0 ≤ (atS l i).gen ∧ (atS l i).gen ≤ g
  ug : ∀ i, (atS l i).cap.ug = 0
  al : ∀ i, (atS l i).alive = true → 1 ≤ (atS l i).gen
def tot : List Sl → Int
  | [] => 0
  | s :: l => s.gen + tot l
theorem tot_set : ∀ (l : List Sl) (i : Nat) (s : Sl), i < l.length → tot (l.set i s) = tot l - (atS l i).gen + s.gen := by
  intro l
  induction l with
  | nil => intro i s h; simp at h
  | cons t l ih =>
    intro i s h
    cases i with
    | zero => simp only [List.set_cons_zero, tot]; show _ = t.gen + tot l - t.gen + s.gen; omega
    | succ i =>
      simp only [List.set_cons_succ, tot]
      have := ih i s (by simpa using h)
      show _ = t.gen + tot l - (atS l i).gen + s.gen
      omega
theorem tot_le {g : Int} : ∀ (l : List Sl), (∀ i, 0 ≤ (atS l i).gen ∧ (atS l i).gen ≤ g) → 0 ≤ tot l ∧ tot l ≤ (l.length : Int) * g := by
  intro l
  induction l with
  | nil => intro _; simp [tot]
  | cons s l ih =>
    intro h
    have h0 : 0 ≤ s.gen ∧ s.gen ≤ g := h 0
    have h1 := ih (fun i => h (i + 1))
    simp only [tot, List.length_cons]
    rw [show ((l.length + 1 : Nat) : Int) * g = (l.length : Int) * g + g by rw [Int.natCast_add, Int.add_mul]; simp]
    omega
theorem tot_full {g : Int} : ∀ (l : List Sl), (∀ i, i < l.length → (atS l i).gen = g) → tot l = (l.length : Int) * g := by
  intro l
  induction l with
  | nil => intro _; simp [tot]
  | cons s l ih =>
    intro h
    have h0 : s.gen = g := h 0 (by simp)
    have h1 := ih (fun i hi => h (i + 1) (by simpa using hi))
    simp only [tot, List.length_cons]
    rw [show ((l.length + 1 : Nat) : Int) * g = (l.length : Int) * g + g by rw [Int.natCast_add, Int.add_mul]; simp]
    omega
theorem tot_rep (n : Nat) : tot (List.replicate n sl0) = 0 := by
  induction n with
  | zero => rfl
  | succ n ih => rw [List.replicate_succ, tot, ih]; rfl
/-- What Mint answers here. -/
theorem mint_rt {g : Int} {l : List Sl} (h : Rt g l) (rg : Int) (hrg : 1 ≤ rg ∧ rg ≤ 15) :
    (∃ i : Nat, i < l.length ∧ mintZ g l 1 rg 0 = (l.set i ⟨(atS l i).gen + 1, true, ⟨1, rg, 0, 0, 0⟩⟩, (i : Int), (atS l i).gen + 1, 0) ∧ (atS l i).alive = false ∧ (atS l i).gen < g) ∨
    (mintZ g l 1 rg 0 = (l, 0, 0, 4) ∧ ∀ i, i < l.length → (atS l i).alive = true ∨ (atS l i).gen = g) := by
  unfold mintZ giveZ
  rw [if_neg (by omega)]
  cases e : l.findIdx? (freeS g) with
  | some i =>
    left
    rw [List.findIdx?_eq_some_iff_getElem] at e
    obtain ⟨hi, hf, _⟩ := e
    rw [← atS_lt hi] at hf
    unfold freeS at hf
    rw [Bool.and_eq_true, decide_eq_true_eq, Bool.not_eq_true'] at hf
    exact ⟨i, hi, rfl, hf.1, hf.2⟩
  | none =>
    right
    refine ⟨rfl, fun i hi => ?_⟩
    rw [List.findIdx?_eq_none_iff] at e
    have := e _ (List.getElem_mem hi)
    rw [← atS_lt hi] at this
    unfold freeS at this
    rw [Bool.and_eq_false_iff, decide_eq_false_iff_not, Bool.not_eq_false'] at this
    rcases this with h1 | h1
    · exact .inl h1
    · exact .inr (by have := h.gen i; omega)
theorem Rt.give {g : Int} {l : List Sl} (h : Rt g l) {i : Nat} (hi : i < l.length) (hg : (atS l i).gen < g) (c : Cp) (hc : c.ug = 0) : Rt g (l.set i ⟨(atS l i).gen + 1, true, c⟩) := by
  refine ⟨fun j => ?_, fun j => ?_, fun j => ?_⟩
  · rw [atS_set]; split
    · have := h.gen i; simp only; omega
    · exact h.gen j
  · rw [atS_set]; split
    · exact hc
    · exact h.ug j
  · rw [atS_set]; split
    · intro _; have := h.gen i; simp only; omega
    · exact h.al j
theorem Rt.kill {g : Int} {l : List Sl} (h : Rt g l) (i : Nat) : Rt g (l.set i (killS (atS l i))) := by
  refine ⟨fun j => ?_, fun j => ?_, fun j => ?_⟩
  · rw [atS_set]; split
    · exact h.gen i
    · exact h.gen j
  · rw [atS_set]; split
    · exact h.ug i
    · exact h.ug j
  · rw [atS_set]; split
    · intro e; cases e
    · exact h.al j
theorem revoke_rt {g : Int} {l : List Sl} (h : Rt g l) {i : Nat} (ha : (atS l i).alive = true) :
    revokeZ l (i : Int) (atS l i).gen = (l.set i (killS (atS l i)), 1, 0) := by
  have hi := atS_alive_lt ha
  have he : findE l (i : Int) (atS l i).gen = 0 := by
    unfold findE
    rw [if_neg (by omega), Int.toNat_natCast, if_pos ⟨ha, rfl⟩]
  have r := revS_ok (lives l) l i ha (Nat.le_refl _)
  have hd : ∀ j, Desc l i j → j = i := by
    intro j hj
    induction hj with
    | base => rfl
    | @step p j hp c ih =>
      exfalso
      have h1 := c.2.2
      rw [h.ug j] at h1
      subst ih
      have := h.al p ha
      omega
  have hl : (revS (lives l) l i).1 = l.set i (killS (atS l i)) := by
    apply ext_atS (by rw [r.less.len, List.length_set])
    intro j _
    have hg := r.less.gen j
    have hc := r.less.cap j
    rw [atS_set]
    by_cases e : i = j ∧ i < l.length
    · rw [if_pos e]
      obtain ⟨rfl, _⟩ := e
      have hs := r.self
      generalize atS (revS (lives l) l i).1 i = s at *
      cases s
      simp only at hg hc hs
      rw [hg, hc, hs]
      rfl
    · rw [if_neg e]
      have hal : (atS (revS (lives l) l i).1 j).alive = (atS l j).alive := by
        cases e2 : (atS l j).alive
        · cases e3 : (atS (revS (lives l) l i).1 j).alive
          · rfl
          · have := r.less.dead j e3; rw [e2] at this; cases this
        · cases e3 : (atS (revS (lives l) l i).1 j).alive
          · exact absurd ⟨(hd j (r.only j e2 e3)).symm, hi⟩ e
          · rfl
      generalize atS (revS (lives l) l i).1 j = s at *
      generalize atS l j = t at *
      cases s; cases t
      simp only at hg hc hal
      rw [hg, hc, hal]
  have hn := r.num
  have hs := lives_set ha
  unfold revokeZ
  rw [if_neg (fun x => x he), Int.toNat_natCast]
  rw [hl] at hn ⊢
  have : (revS (lives l) l i).2 = 1 := by omega
  rw [this]
theorem tot_kill (l : List Sl) (i : Nat) (hi : i < l.length) : tot (l.set i (killS (atS l i))) = tot l := by
  rw [tot_set _ _ _ hi]
  show tot l - (atS l i).gen + (atS l i).gen = tot l
  omega
/-! ### the tokens that are alive -/
theorem liveFrom_mem : ∀ (l : List Sl) (i : Nat) (x : Lv), x ∈ liveFrom i l → ∃ j, x.ks = ((i + j : Nat) : Int) ∧ (atS l j).alive = true ∧ x.kg = (atS l j).gen ∧ x.cap = (atS l j).cap := by
  intro l
  induction l with
  | nil => intro i x h; cases h
  | cons s l ih =>
    intro i x h
    unfold liveFrom at h
    have rec_ : x ∈ liveFrom (i + 1) l → ∃ j, x.ks = ((i + j : Nat) : Int) ∧ (atS (s :: l) j).alive = true ∧ x.kg = (atS (s :: l) j).gen ∧ x.cap = (atS (s :: l) j).cap := fun h => by
      obtain ⟨j, h1, h2, h3, h4⟩ := ih (i + 1) x h
      exact ⟨j + 1, by rw [h1]; congr 1; omega, h2, h3, h4⟩
    by_cases c : s.alive = true
    · rw [if_pos c] at h
      rcases List.mem_cons.1 h with e | e
      · subst e
        exact ⟨0, rfl, c, rfl, rfl⟩
      · exact rec_ e
    · rw [if_neg c] at h
      exact rec_ h
theorem liveFrom_len (l : List Sl) (i : Nat) : (liveFrom i l).length = lives l := by
  induction l generalizing i with
  | nil => rfl
  | cons s l ih =>
    unfold liveFrom lives
    rw [List.countP_cons]
    by_cases c : s.alive = true
    · rw [if_pos c, List.length_cons, ih, if_pos c]; rfl
    · rw [if_neg c, ih, if_neg c]; rfl
/-- The list of the alive ones, in the order of their slots: the rest from one on is what is alive at later slots. -/
theorem liveFrom_pair (l : List Sl) (i : Nat) : (liveFrom i l).Pairwise (fun a b => a.ks < b.ks) := by
  induction l generalizing i with
  | nil => exact List.Pairwise.nil
  | cons s l ih =>
    unfold liveFrom
    split
    · refine List.Pairwise.cons (fun b hb => ?_) (ih (i + 1))
      obtain ⟨j, h1, _⟩ := liveFrom_mem l (i + 1) b hb
      rw [h1]; simp only; omega
    · exact ih (i + 1)
theorem free_zero {g : Int} {l : List Sl} (h : ∀ i, i < l.length → (atS l i).gen = g) : freeZ g l = 0 := by
  unfold freeZ
  rw [List.countP_eq_zero]
  intro s hs hf
  obtain ⟨i, hi, rfl⟩ := List.getElem_of_mem hs
  have := h i hi
  rw [atS_lt hi] at this
  unfold freeS at hf
  rw [Bool.and_eq_true, decide_eq_true_eq] at hf
  omega
theorem liveFrom_has : ∀ (l : List Sl) (i j : Nat), (atS l j).alive = true → ∃ q, ∃ h : q < (liveFrom i l).length, (liveFrom i l)[q].ks = ((i + j : Nat) : Int) ∧ (liveFrom i l)[q].kg = (atS l j).gen := by
  intro l
  induction l with
  | nil => intro i j h; rw [atS_out (by simp)] at h; cases h
  | cons s l ih =>
    intro i j h
    cases j with
    | zero =>
      have hs : s.alive = true := h
      have e : liveFrom i (s :: l) = ⟨(i : Int), s.gen, s.cap⟩ :: liveFrom (i + 1) l := by rw [liveFrom, if_pos hs]
      rw [e]
      exact ⟨0, by simp, rfl, rfl⟩
    | succ j =>
      have hj : (atS l j).alive = true := h
      obtain ⟨q, hq, h1, h2⟩ := ih (i + 1) j hj
      by_cases c : s.alive = true
      · have e : liveFrom i (s :: l) = ⟨(i : Int), s.gen, s.cap⟩ :: liveFrom (i + 1) l := by rw [liveFrom, if_pos c]
        rw [e]
        exact ⟨q + 1, by simp; exact hq, by simp only [List.getElem_cons_succ]; rw [h1]; congr 1; omega, by simp only [List.getElem_cons_succ]; exact h2⟩
      · have e : liveFrom i (s :: l) = liveFrom (i + 1) l := by
          rw [liveFrom, if_neg c]
        rw [e]
        exact ⟨q, hq, by rw [h1]; congr 1; omega, h2⟩
/-- The alive ones that a list still has from a place on. -/
structure LI (l : List Sl) (xs : List Lv) (p : Nat) : Prop where
  fwd : ∀ q (h : q < xs.length), p ≤ q → ∃ i : Nat, xs[q].ks = (i : Int) ∧ (atS l i).alive = true ∧ (atS l i).gen = xs[q].kg
  bwd : ∀ j, (atS l j).alive = true → ∃ q, ∃ h : q < xs.length, p ≤ q ∧ xs[q].ks = (j : Int)
theorem LI.start (l : List Sl) : LI l (liveZ l) 0 := by
  refine ⟨fun q h _ => ?_, fun j h => ?_⟩
  · obtain ⟨j, h1, h2, h3, _⟩ := liveFrom_mem l 0 _ (List.getElem_mem h)
    exact ⟨j, by rw [h1]; simp, h2, h3.symm⟩
  · obtain ⟨q, hq, h1, _⟩ := liveFrom_has l 0 j h
    exact ⟨q, hq, Nat.zero_le _, by show (liveFrom 0 l)[q].ks = _; rw [h1]; simp⟩
theorem LI.step {l : List Sl} {xs : List Lv} {p i : Nat} (h : LI l xs p) (hs : xs.Pairwise (fun a b => a.ks < b.ks)) (hp : p < xs.length) (hi : xs[p].ks = (i : Int)) : LI (l.set i (killS (atS l i))) xs (p + 1) := by
  have hlt := List.pairwise_iff_getElem.1 hs
  refine ⟨fun q hq hpq => ?_, fun j hj => ?_⟩
  · obtain ⟨j, h1, h2, h3⟩ := h.fwd q hq (by omega)
    have := hlt p q hp hq (by omega)
    refine ⟨j, h1, ?_⟩
    rw [atS_set, if_neg (fun e => by have := e.1; omega)]
    exact ⟨h2, h3⟩
  · rw [atS_set] at hj
    by_cases e : i = j ∧ i < l.length
    · rw [if_pos e] at hj; cases hj
    · rw [if_neg e] at hj
      obtain ⟨q, hq, h1, h2⟩ := h.bwd j hj
      refine ⟨q, hq, ?_, h2⟩
      by_cases c : q = p
      · subst c
        exfalso
        exact e ⟨by omega, by rw [show i = j by omega]; exact atS_alive_lt hj⟩
      · omega
theorem LI.fin {l : List Sl} {xs : List Lv} {p : Nat} (h : LI l xs p) (hp : xs.length ≤ p) (j : Nat) : (atS l j).alive = false := by
  cases e : (atS l j).alive
  · rfl
  · obtain ⟨q, hq, h1, _⟩ := h.bwd j e
    omega
theorem lives_zero {l : List Sl} (h : ∀ j, (atS l j).alive = false) : lives l = 0 := by
  unfold lives
  rw [List.countP_eq_zero]
  intro s hs
  obtain ⟨i, hi, rfl⟩ := List.getElem_of_mem hs
  rw [← atS_lt hi, h i]
  decide
theorem liveZ_nil {l : List Sl} (h : ∀ j, (atS l j).alive = false) : liveZ l = [] := by
  have := liveFrom_len l 0
  rw [lives_zero h] at this
  exact List.eq_nil_of_length_eq_zero this
theorem dead_back {l : List Sl} {i : Nat} {s : Sl} (h : ∀ j, (atS l j).alive = false) (hi : i < l.length) : ∀ j, (atS ((l.set i s).set i (killS (atS (l.set i s) i))) j).alive = false := fun j => by
  rw [atS_set]
  split
  · rfl
  · rename_i e
    rw [atS_set]
    split
    · rename_i e2
      exact absurd ⟨e2.1, by rw [List.length_set]; exact e2.2⟩ e
    · exact h j
theorem keep_row {α : Type} {d : Kd α} {e base B : Nat} {ok : Nat → Prop} {w w' : World} {v : Value} {xs : List α} {cs : Array Value} {t : TypeId} (h : d.R e w base ok v xs) (hB : w.heap[B]? = some (.cells cs t (0, 0))) (ht : ∀ q, q ∈ e :: d.E → q ≠ t) (hG : w.grownBy w' (some B)) : d.R e w' base ok v xs :=
  Kd.R_mono (Kd.R_step (Kd.R_bound h) (fun k hk hlt => hG.block k hlt (fun eq => by
    injection eq with eq
    subst eq
    obtain ⟨q, hq, cells, hc⟩ := hk.2.2.2
    rw [hB] at hc
    injection hc with hc
    injection hc with _ hc2
    exact ht q hq hc2.symm))) (fun _ hk => hk.1)
set_option maxRecDepth 100000 in
set_option maxHeartbeats 16000000 in
theorem Retired_w (a b c : Int) (w : World) (ha : 0 ≤ a ∧ a ≤ 255) (hb : 0 ≤ b ∧ b ≤ 255) (hc : 0 ≤ c ∧ c ≤ 255) :
    Calls Try.prog 6 #[.int .u8 a, .int .u8 b, .int .u8 c] w fun e w' => e = .returned (.bool true) ∧ Below w.heap.size w w' := by
  obtain ⟨ha0, ha1⟩ := ha
  obtain ⟨hb0, hb1⟩ := hb
  obtain ⟨hc0, hc1⟩ := hc
  have HAL := Aside0.mk (alive_w w)
  have HN := Aside0.mk (fun (S G : Int) (w1 : World) (h1 : 1 ≤ S ∧ S ≤ 64) (h2 : 1 ≤ G ∧ G ≤ 65535) => New_w S G w1 h1 h2)
  go_enter Try.func6, Try.ntmps6
  go_wp2_with (first
    | (go_at_call 8; (with_reducible refine HAL.out.mono ?_); rintro e w1 ⟨rfl, hb1⟩; have HB1 := Aside0.mk hb1; clear hb1)
    | (go_at_call 9; (with_reducible refine (HN.out _ _ _ (by omega) (by omega)).mono ?_); rintro e w2 ⟨R, B, hR, hB, rfl, hT2, hb2⟩; have HT2 := Aside0.mk hT2; have HB2 := Aside0.mk hb2; have ltR := hT2.ltR; have ltB := hT2.ltB; clear hT2 hb2))
  have hW : Aside0 (w.grownBy w2 (some B)) := ⟨only_of_below (below_step HB1.out HB2.out) _⟩
  have hwB : Aside0 (w.heap.size ≤ B) := ⟨Nat.le_trans HB1.out.size hB⟩
  have hL0 : (List.replicate (a % 5 + 1).toNat sl0).length = (a % 5 + 1).toNat := List.length_replicate
  have hR0 : Aside0 (Rt (b % 6 + 1) (List.replicate (a % 5 + 1).toNat sl0)) := ⟨⟨fun i => by rw [atS_rep]; show 0 ≤ (0 : Int) ∧ (0 : Int) ≤ b % 6 + 1; omega, fun i => by rw [atS_rep]; rfl, fun i h => by rw [atS_rep] at h; cases h⟩⟩
  have hT0 := tot_rep (a % 5 + 1).toNat
  have HL0 := Aside0.mk hL0
  have HT0 := Aside0.mk hT0
  clear hL0 hT0
  go_loopw [10, 36] (fun nn ii wr => ∃ (k : Nat) (l2 : List Sl), ii = .int .i64 k ∧ k ≤ 40 ∧ nn = .int .i64 (tot l2) ∧ Aside0 (l2.length = (a % 5 + 1).toNat) ∧ Aside0 (Rt (b % 6 + 1) l2) ∧ Aside0 (TRow wr R B l2 (b % 6 + 1)) ∧ Aside0 (w.grownBy wr (some B))) (fun _ ii _ => 40 - (intOf ii).toNat)
  case atStart => exact ⟨0, List.replicate (a % 5 + 1).toNat sl0, rfl, by omega, by rw [HT0.out], HL0, hR0, HT2, hW⟩
  case round =>
    obtain ⟨k, l2, rfl, hk, rfl, HL, HRT, HT, HW⟩ := hrel
    have htot := tot_le l2 HRT.out.gen
    have hlen := HL.out
    have htb : 0 ≤ tot l2 ∧ tot l2 ≤ 30 := by
      have h1 : (l2.length : Int) ≤ 5 := by omega
      have h2 : (l2.length : Int) * (b % 6 + 1) ≤ 5 * 6 := Int.mul_le_mul h1 (by omega) (by omega) (by omega)
      omega
    obtain ⟨htb0, htb1⟩ := htb
    have HM := Aside0.mk (fun (w1 : World) (h : TRow w1 R B l2 (b % 6 + 1)) => Mint_w R B l2 (b % 6 + 1) 1 1 0 w1 h)
    clear htot
    by_cases hlt : k < 40
    · rcases mint_rt HRT.out 1 (by decide) with ⟨i, hi, hm, hd, hgl⟩ | ⟨hm, hfull⟩
      · rw [hm] at HM
        have hg0 := HRT.out.gen i
        have cb1 : decide ((i : Int) < 0) = false := decide_eq_false (by omega)
        have cb2 : decide (a % 5 + 1 ≤ (i : Int)) = false := decide_eq_false (by omega)
        have cb3 : decide ((atS l2 i).gen + 1 < 1) = false := decide_eq_false (by omega)
        have cb4 : decide (b % 6 + 1 < (atS l2 i).gen + 1) = false := decide_eq_false (by omega)
        have ht2 := tot_set l2 i ⟨(atS l2 i).gen + 1, true, ⟨1, 1, 0, 0, 0⟩⟩ hi
        have HRT2 := Aside0.mk (HRT.out.give hi hgl ⟨1, 1, 0, 0, 0⟩ rfl)
        have HL2 : Aside0 ((l2.set i ⟨(atS l2 i).gen + 1, true, ⟨1, 1, 0, 0, 0⟩⟩).length = (a % 5 + 1).toNat) := ⟨by rw [List.length_set]; exact HL.out⟩
        have hat : atS (l2.set i ⟨(atS l2 i).gen + 1, true, ⟨1, 1, 0, 0, 0⟩⟩) i = ⟨(atS l2 i).gen + 1, true, ⟨1, 1, 0, 0, 0⟩⟩ := by rw [atS_set, if_pos ⟨rfl, hi⟩]
        have HAT := Aside0.mk hat
        have HTT : Aside0 (tot (l2.set i ⟨(atS l2 i).gen + 1, true, ⟨1, 1, 0, 0, 0⟩⟩) = tot l2 + 1) := ⟨by rw [ht2]; simp only; omega⟩
        have HIL := Aside0.mk hi
        obtain ⟨hg00, hg01⟩ := hg0
        clear hm hd ht2 hat hlen hi
        generalize l2.set i ⟨(atS l2 i).gen + 1, true, ⟨1, 1, 0, 0, 0⟩⟩ = l3 at *
        generalize (atS l2 i).gen = gn at *
        cases hcb : ((tot l2 + 1) % (c % 3 + 1) == 0)
        · go_wp2_with (go_at_call 15; (with_reducible refine (HM.out _ HT.out).mono ?_); rintro e w3 ⟨rfl, hT3, hG3⟩; have HT3 := Aside0.mk hT3; have HG3 := Aside0.mk (only_trans HW.out hG3); clear hT3 hG3)
          exact ⟨⟨k + 1, l3, by go_num, by omega, by rw [HTT.out], HL2, HRT2, ⟨HT3.out.alloc _⟩, ⟨only_alloc HG3.out _⟩⟩, by simp [intOf]; omega⟩
        · have HV := Aside0.mk (fun (w1 : World) (h : TRow w1 R B l3 (b % 6 + 1)) => Revoke_w R B l3 (b % 6 + 1) (i : Int) (gn + 1) w1 h)
          have hrv := revoke_rt HRT2.out (i := i) (by rw [HAT.out])
          rw [HAT.out] at hrv
          simp only at hrv
          rw [hrv] at HV
          have HRT3 := Aside0.mk (HRT2.out.kill i)
          rw [HAT.out] at HRT3
          have HTK : Aside0 (tot (l3.set i (killS ⟨gn + 1, true, ⟨1, 1, 0, 0, 0⟩⟩)) = tot l2 + 1) := ⟨by have := tot_kill l3 i (by rw [HL2.out, ← HL.out]; exact HIL.out); rw [HAT.out] at this; rw [this, HTT.out]⟩
          have HL3 : Aside0 ((l3.set i (killS ⟨gn + 1, true, ⟨1, 1, 0, 0, 0⟩⟩)).length = (a % 5 + 1).toNat) := ⟨by rw [List.length_set]; exact HL2.out⟩
          clear hrv
          generalize l3.set i (killS ⟨gn + 1, true, ⟨1, 1, 0, 0, 0⟩⟩) = l4 at *
          go_wp2_with (first | (go_at_call 15; (with_reducible refine (HM.out _ HT.out).mono ?_); rintro e w3 ⟨rfl, hT3, hG3⟩; have HT3 := Aside0.mk hT3; have HG3 := Aside0.mk (only_trans HW.out hG3); clear hT3 hG3) | (go_at_call 14; (with_reducible refine (HV.out _ (HT3.out.alloc _)).mono ?_); rintro e w4 ⟨rfl, hT4, hG4⟩; have HT4 := Aside0.mk hT4; have HG4 := Aside0.mk (only_trans (only_alloc HG3.out _) hG4); clear hT4 hG4))
          exact ⟨⟨k + 1, l4, by go_num, by omega, by rw [HTK.out], HL3, HRT3, HT4, HG4⟩, by simp [intOf]; omega⟩
      · rw [hm] at HM
        have HLV := Aside0.mk (fun (w1 : World) (h : TRow w1 R B l2 (b % 6 + 1)) => Live_w R B l2 (b % 6 + 1) w1 h)
        clear hm hfull
        go_wp2_with (first | (go_at_call 15; (with_reducible refine (HM.out _ HT.out).mono ?_); rintro e w3 ⟨rfl, hT3, hG3⟩; have HT3 := Aside0.mk hT3; have HG3 := Aside0.mk (only_trans HW.out hG3); clear hT3 hG3) | (go_at_call 12; (with_reducible refine (HLV.out _ (HT3.out.alloc _)).mono ?_); rintro e w5 ⟨v, rfl, hR5, hb5⟩; have HT5 := Aside0.mk ((HT3.out.alloc _).below hb5); have HW5 := Aside0.mk (only_trans (only_alloc HG3.out _) (only_of_below hb5 _)); obtain ⟨A5, c5, e5⟩ := Kd.R_slice hR5; subst e5; have HR5 := Aside0.mk (Kd.R_mono hR5 (ok' := fun _ => True) (fun _ _ => trivial)); clear hR5 hb5))
        have hT5 := HT5.out
        have hxn : (liveZ l2).length ≤ 5 := by
          have h1 := liveFrom_len l2 0
          have h2 := lives_len l2
          have h3 : (liveZ l2).length = lives l2 := h1
          have h4 := HL.out
          omega
        have HX : Aside0 ((liveZ l2).Pairwise (fun a b => a.ks < b.ks)) := ⟨liveFrom_pair l2 0⟩
        have HXL := Aside0.mk (LI.start l2)
        have hlm : ((liveZ l2).map s39).length = (liveZ l2).length := List.length_map _
        clear hT5
        try rw [hlm] at HR5
        clear hlm
        generalize liveZ l2 = xs at *
        go_loopw [94] (fun ii wr => ∃ (p : Nat) (l3 : List Sl), ii = .int .i64 p ∧ p ≤ xs.length ∧ Aside0 (tot l3 = tot l2) ∧ Aside0 (l3.length = (a % 5 + 1).toNat) ∧ Aside0 (Rt (b % 6 + 1) l3) ∧ Aside0 (TRow wr R B l3 (b % 6 + 1)) ∧ Aside0 (LI l3 xs p) ∧ Aside0 (w.grownBy wr (some B)) ∧ Aside0 (w5.grownBy wr (some B))) (fun ii _ => xs.length - (intOf ii).toNat)
        case atStart => exact ⟨0, l2, rfl, Nat.zero_le _, ⟨rfl⟩, HL, HRT, HT5, HXL, HW5, ⟨World.grownBy.refl _ _⟩⟩
        case round =>
          obtain ⟨p, l3, rfl, hp, HTO, HL3, HRT3, HT3', HLI, HW3, HG35⟩ := hrel
          by_cases hpl : p < xs.length
          · have hRk := keep_row HR5.out HT5.out.b (by decide) HG35.out
            obtain ⟨ad, eA, hx0, hx1, hx2, hx3, hx4, hx5, hx6⟩ := at_T39 (Kd.R_reads' hRk).2.2 (p : Int) (by omega) (by rw [List.length_map]; omega)
            cases eA
            obtain ⟨i, hi1, hi2, hi3⟩ := HLI.out.fwd p hpl (Nat.le_refl _)
            have erd : rd_T39 (xs.map s39) (p : Int) = s39 xs[p] := by
              unfold rd_T39
              rw [Int.toNat_natCast, List.getD_eq_getElem?_getD, List.getElem?_map, List.getElem?_eq_getElem hpl]
              rfl
            rw [erd, Int.toNat_natCast] at hx0 hx1 hx2 hx3 hx4 hx5 hx6
            have HLI2 := Aside0.mk (HLI.out.step HX.out hpl hi1)
            have HRV := Aside0.mk (revoke_rt HRT3.out hi2)
            have HIL := Aside0.mk (atS_alive_lt hi2)
            have HTK := Aside0.mk (tot_kill l3 i (atS_alive_lt hi2))
            have HRT4 := Aside0.mk (HRT3.out.kill i)
            have HL4 : Aside0 ((l3.set i (killS (atS l3 i))).length = (a % 5 + 1).toNat) := ⟨by rw [List.length_set]; exact HL3.out⟩
            have HV := Aside0.mk (fun (w1 : World) (h : TRow w1 R B l3 (b % 6 + 1)) => Revoke_w R B l3 (b % 6 + 1) (i : Int) (atS l3 i).gen w1 h)
            rw [HRV.out] at HV
            have e1 : (s39 xs[p]).f0.f0 = (i : Int) := hi1
            have e2 : (s39 xs[p]).f0.f1 = (atS l3 i).gen := hi3.symm
            rw [e1] at hx0
            rw [e2] at hx1
            clear hRk erd hi1 hi2 hi3 e1 e2 HRV
            generalize (atS l3 i).gen = gn at *
            go_wp2_with (first | (go_at_call 14; (with_reducible refine (HV.out _ (HT3'.out.alloc _)).mono ?_); rintro e w6 ⟨rfl, hT6, hG6⟩; have HT6 := Aside0.mk hT6; have HG6 := Aside0.mk (only_trans (only_alloc HW3.out _) hG6); have HG56 := Aside0.mk (only_trans (only_alloc HG35.out _) hG6); clear hT6 hG6))
            exact ⟨⟨p + 1, _, by go_num, by omega, ⟨HTK.out.trans HTO.out⟩, HL4, HRT4, HT6, HLI2, HG6, HG56⟩, by simp [intOf]; omega⟩
          · have hdead := fun j => HLI.out.fin (p := p) (by omega) j
            have HDEAD := Aside0.mk hdead
            have hpg : xs.length ≤ p := by omega
            clear hdead
            go_wp2
            go_loopw [10, 103] (fun nn ii wr => ∃ (k : Nat) (l4 : List Sl), ii = .int .i64 k ∧ k ≤ 40 ∧ nn = .int .i64 (tot l4) ∧ Aside0 ((k : Int) ≤ tot l4) ∧ Aside0 (l4.length = (a % 5 + 1).toNat) ∧ Aside0 (Rt (b % 6 + 1) l4) ∧ Aside0 (TRow wr R B l4 (b % 6 + 1)) ∧ Aside0 (∀ j, (atS l4 j).alive = false) ∧ Aside0 (w.grownBy wr (some B))) (fun _ ii _ => 40 - (intOf ii).toNat)
            case atStart => exact ⟨0, l3, rfl, by omega, by rw [HTO.out], ⟨by have := HTO.out; omega⟩, HL3, HRT3, HT3', HDEAD, HW3⟩
            case round =>
              obtain ⟨k4, l4, rfl, hk4, rfl, HKT, HL4, HRT4, HT4, HD4, HW4⟩ := hrel
              have htot := tot_le l4 HRT4.out.gen
              have htb : 0 ≤ tot l4 ∧ tot l4 ≤ 30 := by
                have h0 := HL4.out
                have h1 : (l4.length : Int) ≤ 5 := by omega
                have h2 : (l4.length : Int) * (b % 6 + 1) ≤ 5 * 6 := Int.mul_le_mul h1 (by omega) (by omega) (by omega)
                omega
              obtain ⟨htb40, htb41⟩ := htb
              have hlt4 : k4 < 40 := by have := HKT.out; omega
              clear htot
              have HM4 := Aside0.mk (fun (w1 : World) (h : TRow w1 R B l4 (b % 6 + 1)) => Mint_w R B l4 (b % 6 + 1) 1 1 0 w1 h)
              rcases mint_rt HRT4.out 1 (by decide) with ⟨i, hi, hm, hd, hgl⟩ | ⟨hm, hfull⟩
              · rw [hm] at HM4
                have ht2 := tot_set l4 i ⟨(atS l4 i).gen + 1, true, ⟨1, 1, 0, 0, 0⟩⟩ hi
                have HRT5 := Aside0.mk (HRT4.out.give hi hgl ⟨1, 1, 0, 0, 0⟩ rfl)
                have hat : atS (l4.set i ⟨(atS l4 i).gen + 1, true, ⟨1, 1, 0, 0, 0⟩⟩) i = ⟨(atS l4 i).gen + 1, true, ⟨1, 1, 0, 0, 0⟩⟩ := by rw [atS_set, if_pos ⟨rfl, hi⟩]
                have HAT := Aside0.mk hat
                have HTT : Aside0 (tot (l4.set i ⟨(atS l4 i).gen + 1, true, ⟨1, 1, 0, 0, 0⟩⟩) = tot l4 + 1) := ⟨by rw [ht2]; simp only; omega⟩
                have HDD := Aside0.mk (dead_back (s := ⟨(atS l4 i).gen + 1, true, ⟨1, 1, 0, 0, 0⟩⟩) HD4.out hi)
                have hrv := revoke_rt HRT5.out (i := i) (by rw [hat])
                have HTK := Aside0.mk (tot_kill (l4.set i ⟨(atS l4 i).gen + 1, true, ⟨1, 1, 0, 0, 0⟩⟩) i (by rw [List.length_set]; exact hi))
                have HRT6 := Aside0.mk (HRT5.out.kill i)
                have HL6 : Aside0 (((l4.set i ⟨(atS l4 i).gen + 1, true, ⟨1, 1, 0, 0, 0⟩⟩).set i (killS (atS (l4.set i ⟨(atS l4 i).gen + 1, true, ⟨1, 1, 0, 0, 0⟩⟩) i))).length = (a % 5 + 1).toNat) := ⟨by rw [List.length_set, List.length_set]; exact HL4.out⟩
                have hgen5 : (atS (l4.set i ⟨(atS l4 i).gen + 1, true, ⟨1, 1, 0, 0, 0⟩⟩) i).gen = (atS l4 i).gen + 1 := by rw [hat]
                rw [hgen5] at hrv
                have HV := Aside0.mk (fun (w1 : World) (h : TRow w1 R B (l4.set i ⟨(atS l4 i).gen + 1, true, ⟨1, 1, 0, 0, 0⟩⟩) (b % 6 + 1)) => Revoke_w R B _ (b % 6 + 1) (i : Int) ((atS l4 i).gen + 1) w1 h)
                rw [hrv] at HV
                have hgg := HRT4.out.gen i
                obtain ⟨hgg0, hgg1⟩ := hgg
                clear hm hd ht2 hat hrv hgen5 hi
                generalize ((l4.set i ⟨(atS l4 i).gen + 1, true, ⟨1, 1, 0, 0, 0⟩⟩).set i (killS (atS (l4.set i ⟨(atS l4 i).gen + 1, true, ⟨1, 1, 0, 0, 0⟩⟩) i))) = l6 at *
                generalize (l4.set i ⟨(atS l4 i).gen + 1, true, ⟨1, 1, 0, 0, 0⟩⟩) = l5 at *
                generalize (atS l4 i).gen = gn at *
                go_wp2_with (first | (go_at_call 15; (with_reducible refine (HM4.out _ HT4.out).mono ?_); rintro e w7 ⟨rfl, hT7, hG7⟩; have HT7 := Aside0.mk hT7; have HG7 := Aside0.mk (only_trans HW4.out hG7); clear hT7 hG7) | (go_at_call 14; (with_reducible refine (HV.out _ (HT7.out.alloc _)).mono ?_); rintro e w8 ⟨rfl, hT8, hG8⟩; have HT8 := Aside0.mk hT8; have HG8 := Aside0.mk (only_trans (only_alloc HG7.out _) hG8); clear hT8 hG8))
                exact ⟨⟨k4 + 1, l6, by go_num, by omega, by rw [HTK.out, HTT.out], ⟨by rw [HTK.out, HTT.out]; have := HKT.out; omega⟩, HL6, HRT6, HT8, HDD, HG8⟩, by simp [intOf]; omega⟩
              · rw [hm] at HM4
                have hall : ∀ i, i < l4.length → (atS l4 i).gen = b % 6 + 1 := fun i hi => by
                  rcases hfull i hi with h | h
                  · rw [HD4.out i] at h; cases h
                  · exact h
                have hF := Free_w R B l4 (b % 6 + 1)
                rw [free_zero hall] at hF
                have hLv := Live_w R B l4 (b % 6 + 1)
                rw [liveZ_nil HD4.out] at hLv
                have HF := Aside0.mk hF
                have HLv := Aside0.mk hLv
                have htf := tot_full l4 hall
                have cbn : (tot l4 == wrap64 ((a % 5 + 1) * (b % 6 + 1))) = true := beq_iff_eq.2 (by
                  have e : tot l4 = (a % 5 + 1) * (b % 6 + 1) := by
                    rw [htf, HL4.out]
                    congr 1
                    omega
                  rw [← e]
                  exact (IntWalk.wrap64_in _ ⟨by omega, by omega⟩).symm)
                clear hm hfull hall hF hLv htf
                go_wp2_with (first | (go_at_call 15; (with_reducible refine (HM4.out _ HT4.out).mono ?_); rintro e w7 ⟨rfl, hT7, hG7⟩; have HT7 := Aside0.mk hT7; have HG7 := Aside0.mk (only_trans HW4.out hG7); clear hT7 hG7) | (go_at_call 15; (with_reducible refine (HM4.out _ (HT7.out.alloc _)).mono ?_); rintro e w9 ⟨rfl, hT9, hG9⟩; have HT9 := Aside0.mk hT9; have HG9 := Aside0.mk (only_trans (only_alloc HG7.out _) hG9); clear hT9 hG9) | (go_at_call 23; (with_reducible refine (HF.out _ (HT9.out.alloc _)).mono ?_); rintro e wf ⟨rfl, hbf⟩; have HTF := Aside0.mk ((HT9.out.alloc _).below hbf); have HGF := Aside0.mk (only_trans (only_alloc HG9.out _) (only_of_below hbf _)); clear hbf) | (go_at_call 12; (with_reducible refine (HLv.out _ HTF.out).mono ?_); rintro e wl ⟨v9, rfl, hR9, hb9⟩; have HGL := Aside0.mk (only_trans HGF.out (only_of_below hb9 _)); obtain ⟨A9, c9, e9⟩ := Kd.R_slice hR9; subst e9; clear hR9 hb9))
                go_ret
                exact ⟨rfl, below_of_only HGL.out hwB.out⟩
    · have HLV := Aside0.mk (fun (w1 : World) (h : TRow w1 R B l2 (b % 6 + 1)) => Live_w R B l2 (b % 6 + 1) w1 h)
      have hkg : 40 ≤ k := by omega
      go_wp2_with (go_at_call 12; (with_reducible refine (HLV.out _ HT.out).mono ?_); rintro e w5 ⟨v, rfl, hR5, hb5⟩; have HT5 := Aside0.mk (HT.out.below hb5); have HW5 := Aside0.mk (only_trans HW.out (only_of_below hb5 _)); obtain ⟨A5, c5, e5⟩ := Kd.R_slice hR5; subst e5; have HR5 := Aside0.mk (Kd.R_mono hR5 (ok' := fun _ => True) (fun _ _ => trivial)); clear hR5 hb5)
      have hT5 := HT5.out
      have hxn : (liveZ l2).length ≤ 5 := by
        have h1 := liveFrom_len l2 0
        have h2 := lives_len l2
        have h3 : (liveZ l2).length = lives l2 := h1
        have h4 := HL.out
        omega
      have HX : Aside0 ((liveZ l2).Pairwise (fun a b => a.ks < b.ks)) := ⟨liveFrom_pair l2 0⟩
      have HXL := Aside0.mk (LI.start l2)
      have hlm : ((liveZ l2).map s39).length = (liveZ l2).length := List.length_map _
      clear hT5
      try rw [hlm] at HR5
      clear hlm
      generalize liveZ l2 = xs at *
      go_loopw [94] (fun ii wr => ∃ (p : Nat) (l3 : List Sl), ii = .int .i64 p ∧ p ≤ xs.length ∧ Aside0 (tot l3 = tot l2) ∧ Aside0 (l3.length = (a % 5 + 1).toNat) ∧ Aside0 (Rt (b % 6 + 1) l3) ∧ Aside0 (TRow wr R B l3 (b % 6 + 1)) ∧ Aside0 (LI l3 xs p) ∧ Aside0 (w.grownBy wr (some B)) ∧ Aside0 (w5.grownBy wr (some B))) (fun ii _ => xs.length - (intOf ii).toNat)
      case atStart => exact ⟨0, l2, rfl, Nat.zero_le _, ⟨rfl⟩, HL, HRT, HT5, HXL, HW5, ⟨World.grownBy.refl _ _⟩⟩
      case round =>
        obtain ⟨p, l3, rfl, hp, HTO, HL3, HRT3, HT3', HLI, HW3, HG35⟩ := hrel
        by_cases hpl : p < xs.length
        · have hRk := keep_row HR5.out HT5.out.b (by decide) HG35.out
          obtain ⟨ad, eA, hx0, hx1, hx2, hx3, hx4, hx5, hx6⟩ := at_T39 (Kd.R_reads' hRk).2.2 (p : Int) (by omega) (by rw [List.length_map]; omega)
          cases eA
          obtain ⟨i, hi1, hi2, hi3⟩ := HLI.out.fwd p hpl (Nat.le_refl _)
          have erd : rd_T39 (xs.map s39) (p : Int) = s39 xs[p] := by
            unfold rd_T39
            rw [Int.toNat_natCast, List.getD_eq_getElem?_getD, List.getElem?_map, List.getElem?_eq_getElem hpl]
            rfl
          rw [erd, Int.toNat_natCast] at hx0 hx1 hx2 hx3 hx4 hx5 hx6
          have HLI2 := Aside0.mk (HLI.out.step HX.out hpl hi1)
          have HRV := Aside0.mk (revoke_rt HRT3.out hi2)
          have HIL := Aside0.mk (atS_alive_lt hi2)
          have HTK := Aside0.mk (tot_kill l3 i (atS_alive_lt hi2))
          have HRT4 := Aside0.mk (HRT3.out.kill i)
          have HL4 : Aside0 ((l3.set i (killS (atS l3 i))).length = (a % 5 + 1).toNat) := ⟨by rw [List.length_set]; exact HL3.out⟩
          have HV := Aside0.mk (fun (w1 : World) (h : TRow w1 R B l3 (b % 6 + 1)) => Revoke_w R B l3 (b % 6 + 1) (i : Int) (atS l3 i).gen w1 h)
          rw [HRV.out] at HV
          have e1 : (s39 xs[p]).f0.f0 = (i : Int) := hi1
          have e2 : (s39 xs[p]).f0.f1 = (atS l3 i).gen := hi3.symm
          rw [e1] at hx0
          rw [e2] at hx1
          clear hRk erd hi1 hi2 hi3 e1 e2 HRV
          generalize (atS l3 i).gen = gn at *
          go_wp2_with (first | (go_at_call 14; (with_reducible refine (HV.out _ (HT3'.out.alloc _)).mono ?_); rintro e w6 ⟨rfl, hT6, hG6⟩; have HT6 := Aside0.mk hT6; have HG6 := Aside0.mk (only_trans (only_alloc HW3.out _) hG6); have HG56 := Aside0.mk (only_trans (only_alloc HG35.out _) hG6); clear hT6 hG6))
          exact ⟨⟨p + 1, _, by go_num, by omega, ⟨HTK.out.trans HTO.out⟩, HL4, HRT4, HT6, HLI2, HG6, HG56⟩, by simp [intOf]; omega⟩
        · have hdead := fun j => HLI.out.fin (p := p) (by omega) j
          have HDEAD := Aside0.mk hdead
          have hpg : xs.length ≤ p := by omega
          clear hdead
          go_wp2
          go_loopw [10, 103] (fun nn ii wr => ∃ (k : Nat) (l4 : List Sl), ii = .int .i64 k ∧ k ≤ 40 ∧ nn = .int .i64 (tot l4) ∧ Aside0 ((k : Int) ≤ tot l4) ∧ Aside0 (l4.length = (a % 5 + 1).toNat) ∧ Aside0 (Rt (b % 6 + 1) l4) ∧ Aside0 (TRow wr R B l4 (b % 6 + 1)) ∧ Aside0 (∀ j, (atS l4 j).alive = false) ∧ Aside0 (w.grownBy wr (some B))) (fun _ ii _ => 40 - (intOf ii).toNat)
          case atStart => exact ⟨0, l3, rfl, by omega, by rw [HTO.out], ⟨by have := HTO.out; omega⟩, HL3, HRT3, HT3', HDEAD, HW3⟩
          case round =>
            obtain ⟨k4, l4, rfl, hk4, rfl, HKT, HL4, HRT4, HT4, HD4, HW4⟩ := hrel
            have htot := tot_le l4 HRT4.out.gen
            have htb : 0 ≤ tot l4 ∧ tot l4 ≤ 30 := by
              have h0 := HL4.out
              have h1 : (l4.length : Int) ≤ 5 := by omega
              have h2 : (l4.length : Int) * (b % 6 + 1) ≤ 5 * 6 := Int.mul_le_mul h1 (by omega) (by omega) (by omega)
              omega
            obtain ⟨htb40, htb41⟩ := htb
            have hlt4 : k4 < 40 := by have := HKT.out; omega
            clear htot
            have HM4 := Aside0.mk (fun (w1 : World) (h : TRow w1 R B l4 (b % 6 + 1)) => Mint_w R B l4 (b % 6 + 1) 1 1 0 w1 h)
            rcases mint_rt HRT4.out 1 (by decide) with ⟨i, hi, hm, hd, hgl⟩ | ⟨hm, hfull⟩
            · rw [hm] at HM4
              have ht2 := tot_set l4 i ⟨(atS l4 i).gen + 1, true, ⟨1, 1, 0, 0, 0⟩⟩ hi
              have HRT5 := Aside0.mk (HRT4.out.give hi hgl ⟨1, 1, 0, 0, 0⟩ rfl)
              have hat : atS (l4.set i ⟨(atS l4 i).gen + 1, true, ⟨1, 1, 0, 0, 0⟩⟩) i = ⟨(atS l4 i).gen + 1, true, ⟨1, 1, 0, 0, 0⟩⟩ := by rw [atS_set, if_pos ⟨rfl, hi⟩]
              have HAT := Aside0.mk hat
              have HTT : Aside0 (tot (l4.set i ⟨(atS l4 i).gen + 1, true, ⟨1, 1, 0, 0, 0⟩⟩) = tot l4 + 1) := ⟨by rw [ht2]; simp only; omega⟩
              have HDD := Aside0.mk (dead_back (s := ⟨(atS l4 i).gen + 1, true, ⟨1, 1, 0, 0, 0⟩⟩) HD4.out hi)
              have hrv := revoke_rt HRT5.out (i := i) (by rw [hat])
              have HTK := Aside0.mk (tot_kill (l4.set i ⟨(atS l4 i).gen + 1, true, ⟨1, 1, 0, 0, 0⟩⟩) i (by rw [List.length_set]; exact hi))
              have HRT6 := Aside0.mk (HRT5.out.kill i)
              have HL6 : Aside0 (((l4.set i ⟨(atS l4 i).gen + 1, true, ⟨1, 1, 0, 0, 0⟩⟩).set i (killS (atS (l4.set i ⟨(atS l4 i).gen + 1, true, ⟨1, 1, 0, 0, 0⟩⟩) i))).length = (a % 5 + 1).toNat) := ⟨by rw [List.length_set, List.length_set]; exact HL4.out⟩
              have hgen5 : (atS (l4.set i ⟨(atS l4 i).gen + 1, true, ⟨1, 1, 0, 0, 0⟩⟩) i).gen = (atS l4 i).gen + 1 := by rw [hat]
              rw [hgen5] at hrv
              have HV := Aside0.mk (fun (w1 : World) (h : TRow w1 R B (l4.set i ⟨(atS l4 i).gen + 1, true, ⟨1, 1, 0, 0, 0⟩⟩) (b % 6 + 1)) => Revoke_w R B _ (b % 6 + 1) (i : Int) ((atS l4 i).gen + 1) w1 h)
              rw [hrv] at HV
              have hgg := HRT4.out.gen i
              obtain ⟨hgg0, hgg1⟩ := hgg
              clear hm hd ht2 hat hrv hgen5 hi
              generalize ((l4.set i ⟨(atS l4 i).gen + 1, true, ⟨1, 1, 0, 0, 0⟩⟩).set i (killS (atS (l4.set i ⟨(atS l4 i).gen + 1, true, ⟨1, 1, 0, 0, 0⟩⟩) i))) = l6 at *
              generalize (l4.set i ⟨(atS l4 i).gen + 1, true, ⟨1, 1, 0, 0, 0⟩⟩) = l5 at *
              generalize (atS l4 i).gen = gn at *
              go_wp2_with (first | (go_at_call 15; (with_reducible refine (HM4.out _ HT4.out).mono ?_); rintro e w7 ⟨rfl, hT7, hG7⟩; have HT7 := Aside0.mk hT7; have HG7 := Aside0.mk (only_trans HW4.out hG7); clear hT7 hG7) | (go_at_call 14; (with_reducible refine (HV.out _ (HT7.out.alloc _)).mono ?_); rintro e w8 ⟨rfl, hT8, hG8⟩; have HT8 := Aside0.mk hT8; have HG8 := Aside0.mk (only_trans (only_alloc HG7.out _) hG8); clear hT8 hG8))
              exact ⟨⟨k4 + 1, l6, by go_num, by omega, by rw [HTK.out, HTT.out], ⟨by rw [HTK.out, HTT.out]; have := HKT.out; omega⟩, HL6, HRT6, HT8, HDD, HG8⟩, by simp [intOf]; omega⟩
            · rw [hm] at HM4
              have hall : ∀ i, i < l4.length → (atS l4 i).gen = b % 6 + 1 := fun i hi => by
                rcases hfull i hi with h | h
                · rw [HD4.out i] at h; cases h
                · exact h
              have hF := Free_w R B l4 (b % 6 + 1)
              rw [free_zero hall] at hF
              have hLv := Live_w R B l4 (b % 6 + 1)
              rw [liveZ_nil HD4.out] at hLv
              have HF := Aside0.mk hF
              have HLv := Aside0.mk hLv
              have htf := tot_full l4 hall
              have cbn : (tot l4 == wrap64 ((a % 5 + 1) * (b % 6 + 1))) = true := beq_iff_eq.2 (by
                have e : tot l4 = (a % 5 + 1) * (b % 6 + 1) := by
                  rw [htf, HL4.out]
                  congr 1
                  omega
                rw [← e]
                exact (IntWalk.wrap64_in _ ⟨by omega, by omega⟩).symm)
              clear hm hfull hall hF hLv htf
              go_wp2_with (first | (go_at_call 15; (with_reducible refine (HM4.out _ HT4.out).mono ?_); rintro e w7 ⟨rfl, hT7, hG7⟩; have HT7 := Aside0.mk hT7; have HG7 := Aside0.mk (only_trans HW4.out hG7); clear hT7 hG7) | (go_at_call 15; (with_reducible refine (HM4.out _ (HT7.out.alloc _)).mono ?_); rintro e w9 ⟨rfl, hT9, hG9⟩; have HT9 := Aside0.mk hT9; have HG9 := Aside0.mk (only_trans (only_alloc HG7.out _) hG9); clear hT9 hG9) | (go_at_call 23; (with_reducible refine (HF.out _ (HT9.out.alloc _)).mono ?_); rintro e wf ⟨rfl, hbf⟩; have HTF := Aside0.mk ((HT9.out.alloc _).below hbf); have HGF := Aside0.mk (only_trans (only_alloc HG9.out _) (only_of_below hbf _)); clear hbf) | (go_at_call 12; (with_reducible refine (HLv.out _ HTF.out).mono ?_); rintro e wl ⟨v9, rfl, hR9, hb9⟩; have HGL := Aside0.mk (only_trans HGF.out (only_of_below hb9 _)); obtain ⟨A9, c9, e9⟩ := Kd.R_slice hR9; subst e9; clear hR9 hb9))
              go_ret
              exact ⟨rfl, below_of_only HGL.out hwB.out⟩

end Go.Proofs.Ytecbdhampjmlaaa.Ext
