/- caps: Look, by its walk. -/
import Derived.Test.YtecbdhampjmlaaaExt17BG
import Derived.Test.YtecbdhampjmlaaaWMore
import Derived.WalkKit
import Derived.WalkMore
import Derived.Below
import Derived.KernelRfl
import Derived.LoopTactic
import Derived.Deep.RegionWith
import Derived.Deep.RegionHeld3
import Derived.IntWalk
import Derived.Deep.DeepCutAuto
import Derived.Deep.CutBlock
import Derived.BigQuiet
import Derived.Laws.RangeString
import Derived.Laws.RangeAny
import Derived.Laws.Rows
import Derived.Laws.Runes
import Derived.Lib.OthersKept
import Derived.OpenShut
set_option linter.unusedVariables false
set_option linter.unusedSimpArgs false
namespace Go.Proofs.Ytecbdhampjmlaaa.Ext
open Go.RowKit Go.Lib Go.Proofs.YtecbdhampjmlaaaW.PrintWords Go.Proofs.YtecbdhampjmlaaaW.PrintMore

theorem find_bad (R B : Nat) (l : List Sl) (g ks kg : Int) (w : World) (h : TRow w R B l g) (hk : findE l ks kg ≠ 0) :
    Calls Try.prog 27 #[.pointer (some ⟨R, 0, none⟩), vK ks kg] w fun e w' => e = .returned (.tuple #[.pointer none, .int .i64 (findE l ks kg)]) ∧ Below w.heap.size w w' := by
  unfold findE at hk ⊢
  by_cases c : ks < 0 ∨ ks ≥ (l.length : Int)
  · rw [if_pos c]
    exact find_no6 R B l g ks kg w h c
  · rw [if_neg c] at hk ⊢
    obtain ⟨i, rfl⟩ : ∃ i : Nat, ks = (i : Int) := ⟨ks.toNat, by omega⟩
    rw [Int.toNat_natCast] at hk ⊢
    by_cases c2 : (atS l i).alive = true ∧ (atS l i).gen = kg
    · rw [if_pos c2] at hk; exact absurd rfl hk
    · rw [if_neg c2]
      refine find_no7 R B l g i kg w h (by omega) ?_
      cases e : (atS l i).alive
      · exact .inl rfl
      · exact .inr (fun e2 => c2 ⟨e, e2⟩)
theorem findE_ok {l : List Sl} {ks kg : Int} (h : findE l ks kg = 0) : ∃ i : Nat, ks = (i : Int) ∧ i < l.length ∧ (atS l i).alive = true ∧ (atS l i).gen = kg := by
  unfold findE at h
  by_cases c : ks < 0 ∨ ks ≥ (l.length : Int)
  · rw [if_pos c] at h; cases h
  · rw [if_neg c] at h
    by_cases c2 : (atS l ks.toNat).alive = true ∧ (atS l ks.toNat).gen = kg
    · exact ⟨ks.toNat, by omega, by omega, c2.1, c2.2⟩
    · rw [if_neg c2] at h; cases h
theorem findE_range (l : List Sl) (ks kg : Int) : 0 ≤ findE l ks kg ∧ findE l ks kg ≤ 7 := by
  unfold findE; split
  · decide
  · split <;> decide
abbrev vC (c : Cp) : Value := .agg #[.int .i64 c.obj, .int .i64 c.rights, .int .i64 c.owner, .int .i64 c.us, .int .i64 c.ug]
set_option maxRecDepth 100000 in
set_option maxHeartbeats 4000000 in
theorem Look_w (R B : Nat) (l : List Sl) (g ks kg who rights : Int) (w : World) (h : TRow w R B l g) :
    Calls Try.prog 13 #[.pointer (some ⟨R, 0, none⟩), vK ks kg, .int .i64 who, .int .i64 rights] w fun e w' => e = .returned (.tuple #[vC (lookZ l ks kg who rights).1, .int .i64 (lookZ l ks kg who rights).2]) ∧ Below w.heap.size w w' := by
  have ltR := h.ltR
  have ltB := h.ltB
  have HG := Aside0.mk (fun w1 (hb : Below w.heap.size w w1) => good_w R B l g w1 (h.below hb))
  by_cases c1 : rights < 0 ∨ rights > 15
  · have e : lookZ l ks kg who rights = (⟨0, 0, 0, 0, 0⟩, 2) := by unfold lookZ; rw [if_pos c1]
    rw [e]
    clear e h
    by_cases c0 : rights < 0
    · have cb : decide (rights < 0) = true := decide_eq_true c0
      clear c1 c0
      go_enter Try.func13, Try.ntmps13
      go_wp2_with (go_at_call 26; (with_reducible refine (HG.out _ ?sg).mono ?_); (case sg => exact (by repeat (first | (with_reducible first | exact Below.refl _ _ | apply pw_below_drewN | apply below_alloc | apply below_drew) | refine below_set ?_ (by first | exact Nat.le_refl _ | omega | (simp; done) | (simp; omega)) | refine below_step ?_ HB2.out | refine below_step ?_ HB3.out | refine below_step ?_ HB4.out | refine below_step ?_ HB5.out))); rintro e w1 ⟨rfl, rfl⟩)
      exact bodyPost_ret (v := .tuple #[vC ⟨0, 0, 0, 0, 0⟩, .int .i64 2]) (by simp [results, Try.results13, go_sem]) rfl ⟨rfl, (by repeat (first | (with_reducible first | exact Below.refl _ _ | apply pw_below_drewN | apply below_alloc | apply below_drew) | refine below_set ?_ (by first | exact Nat.le_refl _ | omega | (simp; done) | (simp; omega)) | refine below_step ?_ HB2.out | refine below_step ?_ HB3.out | refine below_step ?_ HB4.out | refine below_step ?_ HB5.out))⟩
    · have cb : decide (rights < 0) = false := decide_eq_false c0
      have cb2 : decide (15 < rights) = true := decide_eq_true (by omega)
      clear c1 c0
      go_enter Try.func13, Try.ntmps13
      go_wp2_with (go_at_call 26; (with_reducible refine (HG.out _ ?sg).mono ?_); (case sg => exact (by repeat (first | (with_reducible first | exact Below.refl _ _ | apply pw_below_drewN | apply below_alloc | apply below_drew) | refine below_set ?_ (by first | exact Nat.le_refl _ | omega | (simp; done) | (simp; omega)) | refine below_step ?_ HB2.out | refine below_step ?_ HB3.out | refine below_step ?_ HB4.out | refine below_step ?_ HB5.out))); rintro e w1 ⟨rfl, rfl⟩)
      exact bodyPost_ret (v := .tuple #[vC ⟨0, 0, 0, 0, 0⟩, .int .i64 2]) (by simp [results, Try.results13, go_sem]) rfl ⟨rfl, (by repeat (first | (with_reducible first | exact Below.refl _ _ | apply pw_below_drewN | apply below_alloc | apply below_drew) | refine below_set ?_ (by first | exact Nat.le_refl _ | omega | (simp; done) | (simp; omega)) | refine below_step ?_ HB2.out | refine below_step ?_ HB3.out | refine below_step ?_ HB4.out | refine below_step ?_ HB5.out))⟩
  · have cb : decide (rights < 0) = false := decide_eq_false (by omega)
    have cb2 : decide (15 < rights) = false := decide_eq_false (by omega)
    by_cases c2 : findE l ks kg ≠ 0
    · have e : lookZ l ks kg who rights = (⟨0, 0, 0, 0, 0⟩, findE l ks kg) := by unfold lookZ; rw [if_neg c1, if_pos c2]
      have HF := Aside0.mk (fun w1 (hb : Below w.heap.size w w1) => find_bad R B l g ks kg w1 (h.below hb) c2)
      have cb3 : (findE l ks kg != 0) = true := bne_iff_ne.2 c2
      rw [e]
      clear e h c1 c2
      generalize findE l ks kg = E at *
      go_enter Try.func13, Try.ntmps13
      go_wp2_with (first
        | (go_at_call 26; (with_reducible refine (HG.out _ ?sg).mono ?_); (case sg => exact (by repeat (first | (with_reducible first | exact Below.refl _ _ | apply pw_below_drewN | apply below_alloc | apply below_drew) | refine below_set ?_ (by first | exact Nat.le_refl _ | omega | (simp; done) | (simp; omega)) | refine below_step ?_ HB2.out | refine below_step ?_ HB3.out | refine below_step ?_ HB4.out | refine below_step ?_ HB5.out))); rintro e w1 ⟨rfl, rfl⟩)
        | (go_at_call 27; (with_reducible refine (HF.out _ ?sf).mono ?_); (case sf => exact (by repeat (first | (with_reducible first | exact Below.refl _ _ | apply pw_below_drewN | apply below_alloc | apply below_drew) | refine below_set ?_ (by first | exact Nat.le_refl _ | omega | (simp; done) | (simp; omega)) | refine below_step ?_ HB2.out | refine below_step ?_ HB3.out | refine below_step ?_ HB4.out | refine below_step ?_ HB5.out))); rintro e w2 ⟨rfl, hb2⟩; obtain ⟨hc, hf⟩ := bcell hb2; have HB2 := Aside0.mk hb2; clear hb2))
      exact bodyPost_ret (v := .tuple #[vC ⟨0, 0, 0, 0, 0⟩, .int .i64 E]) (by simp [results, Try.results13, go_sem, hc]) rfl ⟨rfl, (by repeat (first | (with_reducible first | exact Below.refl _ _ | apply pw_below_drewN | apply below_alloc | apply below_drew) | refine below_set ?_ (by first | exact Nat.le_refl _ | omega | (simp; done) | (simp; omega)) | refine below_step ?_ HB2.out | refine below_step ?_ HB3.out | refine below_step ?_ HB4.out | refine below_step ?_ HB5.out))⟩
    · obtain ⟨i, rfl, hi, ha, rfl⟩ := findE_ok (Classical.not_not.1 c2)
      have HF := Aside0.mk (fun w1 (hb : Below w.heap.size w w1) => find_ok R B l g i w1 (h.below hb) hi ha)
      have e0 : lookZ l (i : Int) (atS l i).gen who rights = (if (atS l i).cap.owner ≠ who ∨ Go.bits .andNot .i64 rights (atS l i).cap.rights ≠ 0 then (⟨0, 0, 0, 0, 0⟩, 9) else ((atS l i).cap, 0)) := by
        unfold lookZ
        rw [if_neg c1, if_neg c2, Int.toNat_natCast]
      rw [e0]
      have n := h.n
      obtain ⟨gen, alive, obj, rr, owner, us, ug, hs⟩ := slEx (atS l i)
      have HD := Aside0.mk (fun w1 (hb : Below w.heap.size w w1) => (h.below hb).cs hi hs)
      rw [hs] at HF ⊢
      clear e0 c1 c2 h ha hs
      simp only
      by_cases c3 : owner = who
      · subst c3
        have cb3 : (owner != owner) = false := bne_self_eq_false owner
        by_cases c4 : Go.bits .andNot .i64 rights rr = 0
        · have cb4 : (Go.bits .andNot .i64 rights rr != 0) = false := bne_eq_false_iff_eq.2 c4
          rw [if_neg (by simp [c4])]
          clear c4
          go_enter Try.func13, Try.ntmps13
          go_wp2_with (first
            | (go_at_call 26; (with_reducible refine (HG.out _ ?sg).mono ?_); (case sg => exact (by repeat (first | (with_reducible first | exact Below.refl _ _ | apply pw_below_drewN | apply below_alloc | apply below_drew) | refine below_set ?_ (by first | exact Nat.le_refl _ | omega | (simp; done) | (simp; omega)) | refine below_step ?_ HB2.out | refine below_step ?_ HB3.out | refine below_step ?_ HB4.out | refine below_step ?_ HB5.out))); rintro e w1 ⟨rfl, rfl⟩)
            | (go_at_call 27; (with_reducible refine (HF.out _ ?sf).mono ?_); (case sf => exact (by repeat (first | (with_reducible first | exact Below.refl _ _ | apply pw_below_drewN | apply below_alloc | apply below_drew) | refine below_set ?_ (by first | exact Nat.le_refl _ | omega | (simp; done) | (simp; omega)) | refine below_step ?_ HB2.out | refine below_step ?_ HB3.out | refine below_step ?_ HB4.out | refine below_step ?_ HB5.out))); rintro e w2 ⟨rfl, hb2⟩; obtain ⟨hc, hf⟩ := bcell hb2; have HB2 := Aside0.mk hb2; clear hb2; obtain ⟨d0, d1, d2, d3, d4, d5, d6⟩ := HD.out w2 (by repeat (first | (with_reducible first | exact Below.refl _ _ | apply pw_below_drewN | apply below_alloc | apply below_drew) | refine below_set ?_ (by first | exact Nat.le_refl _ | omega | (simp; done) | (simp; omega)) | refine below_step ?_ HB2.out | refine below_step ?_ HB3.out | refine below_step ?_ HB4.out | refine below_step ?_ HB5.out))))
          exact bodyPost_ret (v := .tuple #[vC ⟨obj, rr, owner, us, ug⟩, .int .i64 0]) (by simp [results, Try.results13, go_sem, hc]) rfl ⟨rfl, (by repeat (first | (with_reducible first | exact Below.refl _ _ | apply pw_below_drewN | apply below_alloc | apply below_drew) | refine below_set ?_ (by first | exact Nat.le_refl _ | omega | (simp; done) | (simp; omega)) | refine below_step ?_ HB2.out | refine below_step ?_ HB3.out | refine below_step ?_ HB4.out | refine below_step ?_ HB5.out))⟩
        · have cb4 : (Go.bits .andNot .i64 rights rr != 0) = true := bne_iff_ne.2 c4
          rw [if_pos (.inr c4)]
          clear c4
          go_enter Try.func13, Try.ntmps13
          go_wp2_with (first
            | (go_at_call 26; (with_reducible refine (HG.out _ ?sg).mono ?_); (case sg => exact (by repeat (first | (with_reducible first | exact Below.refl _ _ | apply pw_below_drewN | apply below_alloc | apply below_drew) | refine below_set ?_ (by first | exact Nat.le_refl _ | omega | (simp; done) | (simp; omega)) | refine below_step ?_ HB2.out | refine below_step ?_ HB3.out | refine below_step ?_ HB4.out | refine below_step ?_ HB5.out))); rintro e w1 ⟨rfl, rfl⟩)
            | (go_at_call 27; (with_reducible refine (HF.out _ ?sf).mono ?_); (case sf => exact (by repeat (first | (with_reducible first | exact Below.refl _ _ | apply pw_below_drewN | apply below_alloc | apply below_drew) | refine below_set ?_ (by first | exact Nat.le_refl _ | omega | (simp; done) | (simp; omega)) | refine below_step ?_ HB2.out | refine below_step ?_ HB3.out | refine below_step ?_ HB4.out | refine below_step ?_ HB5.out))); rintro e w2 ⟨rfl, hb2⟩; obtain ⟨hc, hf⟩ := bcell hb2; have HB2 := Aside0.mk hb2; clear hb2; obtain ⟨d0, d1, d2, d3, d4, d5, d6⟩ := HD.out w2 (by repeat (first | (with_reducible first | exact Below.refl _ _ | apply pw_below_drewN | apply below_alloc | apply below_drew) | refine below_set ?_ (by first | exact Nat.le_refl _ | omega | (simp; done) | (simp; omega)) | refine below_step ?_ HB2.out | refine below_step ?_ HB3.out | refine below_step ?_ HB4.out | refine below_step ?_ HB5.out))))
          exact bodyPost_ret (v := .tuple #[vC ⟨0, 0, 0, 0, 0⟩, .int .i64 9]) (by simp [results, Try.results13, go_sem, hc]) rfl ⟨rfl, (by repeat (first | (with_reducible first | exact Below.refl _ _ | apply pw_below_drewN | apply below_alloc | apply below_drew) | refine below_set ?_ (by first | exact Nat.le_refl _ | omega | (simp; done) | (simp; omega)) | refine below_step ?_ HB2.out | refine below_step ?_ HB3.out | refine below_step ?_ HB4.out | refine below_step ?_ HB5.out))⟩
      · have cb3 : (owner != who) = true := bne_iff_ne.2 c3
        rw [if_pos (.inl c3)]
        clear c3
        go_enter Try.func13, Try.ntmps13
        go_wp2_with (first
          | (go_at_call 26; (with_reducible refine (HG.out _ ?sg).mono ?_); (case sg => exact (by repeat (first | (with_reducible first | exact Below.refl _ _ | apply pw_below_drewN | apply below_alloc | apply below_drew) | refine below_set ?_ (by first | exact Nat.le_refl _ | omega | (simp; done) | (simp; omega)) | refine below_step ?_ HB2.out | refine below_step ?_ HB3.out | refine below_step ?_ HB4.out | refine below_step ?_ HB5.out))); rintro e w1 ⟨rfl, rfl⟩)
          | (go_at_call 27; (with_reducible refine (HF.out _ ?sf).mono ?_); (case sf => exact (by repeat (first | (with_reducible first | exact Below.refl _ _ | apply pw_below_drewN | apply below_alloc | apply below_drew) | refine below_set ?_ (by first | exact Nat.le_refl _ | omega | (simp; done) | (simp; omega)) | refine below_step ?_ HB2.out | refine below_step ?_ HB3.out | refine below_step ?_ HB4.out | refine below_step ?_ HB5.out))); rintro e w2 ⟨rfl, hb2⟩; obtain ⟨hc, hf⟩ := bcell hb2; have HB2 := Aside0.mk hb2; clear hb2; obtain ⟨d0, d1, d2, d3, d4, d5, d6⟩ := HD.out w2 (by repeat (first | (with_reducible first | exact Below.refl _ _ | apply pw_below_drewN | apply below_alloc | apply below_drew) | refine below_set ?_ (by first | exact Nat.le_refl _ | omega | (simp; done) | (simp; omega)) | refine below_step ?_ HB2.out | refine below_step ?_ HB3.out | refine below_step ?_ HB4.out | refine below_step ?_ HB5.out))))
        exact bodyPost_ret (v := .tuple #[vC ⟨0, 0, 0, 0, 0⟩, .int .i64 9]) (by simp [results, Try.results13, go_sem, hc]) rfl ⟨rfl, (by repeat (first | (with_reducible first | exact Below.refl _ _ | apply pw_below_drewN | apply below_alloc | apply below_drew) | refine below_set ?_ (by first | exact Nat.le_refl _ | omega | (simp; done) | (simp; omega)) | refine below_step ?_ HB2.out | refine below_step ?_ HB3.out | refine below_step ?_ HB4.out | refine below_step ?_ HB5.out))⟩

end Go.Proofs.Ytecbdhampjmlaaa.Ext
