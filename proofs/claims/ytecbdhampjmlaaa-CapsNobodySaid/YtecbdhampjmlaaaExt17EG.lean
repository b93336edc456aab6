/- caps: Mint and Derive, by their walks. -/
import Derived.Test.YtecbdhampjmlaaaExt17DG
import Derived.Test.YtecbdhampjmlaaaWMore
import Derived.WalkKit
import Derived.WalkMore
import Derived.Below
import Derived.KernelRfl
import Derived.LoopTactic
import Derived.Deep.RegionWith
import Derived.Deep.RegionHeld3
import Derived.IntWalk
import Derived.Deep.DeepCutAuto
import Derived.Deep.CutBlock
import Derived.BigQuiet
import Derived.Laws.RangeString
import Derived.Laws.RangeAny
import Derived.Laws.Rows
import Derived.Laws.Runes
import Derived.Lib.OthersKept
import Derived.OpenShut
set_option linter.unusedVariables false
set_option linter.unusedSimpArgs false
namespace Go.Proofs.Ytecbdhampjmlaaa.Ext
open Go.RowKit Go.Lib Go.Proofs.YtecbdhampjmlaaaW.PrintWords Go.Proofs.YtecbdhampjmlaaaW.PrintMore

theorem only_cells {a w : World} {B T : Nat} {cs : Array Value} {t : TypeId} (h : a.grownBy w (some B)) (hb : a.heap[T]? = some (.cells cs t (0, 0))) (hne : T ≠ B) : w.heap[T]? = some (.cells cs t (0, 0)) :=
  (h.block T (Array.getElem?_eq_some_iff.1 hb).1 (fun e => hne (by injection e))).trans hb
theorem only_after {a b c : World} {row : Option Nat} (h : Below a.heap.size a b) (k : b.grownBy c row) : a.grownBy c row := only_trans (only_of_below h row) k
theorem TRow.two {w : World} {R B : Nat} {l : List Sl} {g : Int} {T : Nat} (h : TRow w R B l g) (h1 : T ≠ R) (h2 : T ≠ B) (x y : Value) : TRow ((w.setCell ⟨T, 0, none⟩ x).setCell ⟨T, 1, none⟩ y) R B l g :=
  TRow.far (TRow.far h (Ne.symm h1) (Ne.symm h2) x) (Ne.symm h1) (Ne.symm h2) y
theorem only_two {a w : World} {g : Nat} {T : Nat} (h : a.grownBy w (some g)) (hT : a.heap.size ≤ T) (x y : Value) : a.grownBy ((w.setCell ⟨T, 0, none⟩ x).setCell ⟨T, 1, none⟩ y) (some g) :=
  only_setCell (only_setCell h (.inr hT) x) (.inr hT) y
theorem tok_lay {w : World} {T : Nat} {x y : Value} {t : TypeId} (h : w.heap[T]? = some (.cells #[x, y] t (0, 0))) : w.cell? ⟨T, 0, none⟩ = some x ∧ w.cell? ⟨T, 1, none⟩ = some y ∧ w.frozen? ⟨T, 0, none⟩ = false ∧ w.frozen? ⟨T, 1, none⟩ = false :=
  ⟨by rw [cell_of_row w T _ _ _ _ h]; rfl, by rw [cell_of_row w T _ _ _ _ h]; rfl, frozen_of_row w T 0 _ _ h, frozen_of_row w T 1 _ _ h⟩
set_option maxRecDepth 100000 in
set_option maxHeartbeats 8000000 in
theorem Mint_w (R B : Nat) (l : List Sl) (g obj rights owner : Int) (w : World) (h : TRow w R B l g) :
    Calls Try.prog 15 #[.pointer (some ⟨R, 0, none⟩), .int .i64 obj, .int .i64 rights, .int .i64 owner] w (GiveP w R B g (mintZ g l obj rights owner)) := by
  have ltR := h.ltR
  have ltB := h.ltB
  have hB1 : Below w.heap.size w (w.alloc (.cells #[.int .i64 0, .int .i64 0] 28)) := (Below.refl _ _).alloc (Nat.le_refl _) _
  have HT1 := Aside0.mk (h.below hB1)
  have HB1 := Aside0.mk hB1
  have HG := Aside0.mk (fun w1 (hb : Below w.heap.size w w1) => good_w R B l g w1 (h.below hb))
  have HGV := Aside0.mk (give_w R B l g ⟨obj, rights, owner, 0, 0⟩ _ (h.below hB1))
  clear hB1
  by_cases c : obj < 0 ∨ owner < 0 ∨ rights < 1 ∨ rights > 15
  · have ez : mintZ g l obj rights owner = (l, 0, 0, 2) := by unfold mintZ; rw [if_pos c]
    rw [ez]
    clear ez h HGV
    by_cases c1 : obj < 0
    · have cb : decide (obj < 0) = true := decide_eq_true c1
      clear c c1
      go_enter Try.func15, Try.ntmps15
      go_wp2_with (first | (go_at_call 26; (with_reducible refine (HG.out _ ?sg).mono ?_); (case sg => exact (by repeat (first | (with_reducible first | exact Below.refl _ _ | apply pw_below_drewN | apply below_alloc | apply below_drew) | refine below_set ?_ (by first | exact Nat.le_refl _ | omega | (simp; done) | (simp; omega)) | refine below_step ?_ HB2.out | refine below_step ?_ HB3.out | refine below_step ?_ HB4.out | refine below_step ?_ HB5.out))); rintro e w1 ⟨rfl, rfl⟩))
      exact bodyPost_ret (v := .tuple #[vK 0 0, .int .i64 2]) (by simp [results, Try.results15, go_sem]) rfl ⟨rfl, HT1.out, only_of_below HB1.out _⟩
    have cb : decide (obj < 0) = false := decide_eq_false c1
    by_cases c2 : owner < 0
    · have cb2 : decide (owner < 0) = true := decide_eq_true c2
      clear c c1 c2
      go_enter Try.func15, Try.ntmps15
      go_wp2_with (first | (go_at_call 26; (with_reducible refine (HG.out _ ?sg).mono ?_); (case sg => exact (by repeat (first | (with_reducible first | exact Below.refl _ _ | apply pw_below_drewN | apply below_alloc | apply below_drew) | refine below_set ?_ (by first | exact Nat.le_refl _ | omega | (simp; done) | (simp; omega)) | refine below_step ?_ HB2.out | refine below_step ?_ HB3.out | refine below_step ?_ HB4.out | refine below_step ?_ HB5.out))); rintro e w1 ⟨rfl, rfl⟩))
      exact bodyPost_ret (v := .tuple #[vK 0 0, .int .i64 2]) (by simp [results, Try.results15, go_sem]) rfl ⟨rfl, HT1.out, only_of_below HB1.out _⟩
    have cb2 : decide (owner < 0) = false := decide_eq_false c2
    have HSO := Aside0.mk (fun w1 => some_w rights w1)
    have cs : someZ rights = false := decide_eq_false (by omega)
    rw [cs] at HSO
    clear c c1 c2 cs
    go_enter Try.func15, Try.ntmps15
    go_wp2_with (first | (go_at_call 26; (with_reducible refine (HG.out _ ?sg).mono ?_); (case sg => exact (by repeat (first | (with_reducible first | exact Below.refl _ _ | apply pw_below_drewN | apply below_alloc | apply below_drew) | refine below_set ?_ (by first | exact Nat.le_refl _ | omega | (simp; done) | (simp; omega)) | refine below_step ?_ HB2.out | refine below_step ?_ HB3.out | refine below_step ?_ HB4.out | refine below_step ?_ HB5.out))); rintro e w1 ⟨rfl, rfl⟩) | (go_at_call 28; (with_reducible refine (HSO.out _).mono ?_); rintro e w1 ⟨rfl, rfl⟩))
    exact bodyPost_ret (v := .tuple #[vK 0 0, .int .i64 2]) (by simp [results, Try.results15, go_sem]) rfl ⟨rfl, HT1.out, only_of_below HB1.out _⟩
  · have ez : mintZ g l obj rights owner = giveZ g l ⟨obj, rights, owner, 0, 0⟩ := by unfold mintZ; rw [if_neg c]
    rw [ez]
    have cb : decide (obj < 0) = false := decide_eq_false (by omega)
    have cb2 : decide (owner < 0) = false := decide_eq_false (by omega)
    have HSO := Aside0.mk (fun w1 => some_w rights w1)
    have cs : someZ rights = true := decide_eq_true (by omega)
    rw [cs] at HSO
    clear c cs ez h
    generalize giveZ g l ⟨obj, rights, owner, 0, 0⟩ = z at HGV ⊢
    obtain ⟨z1, z2, z3, z4⟩ := z
    go_enter Try.func15, Try.ntmps15
    go_wp2_with (first | (go_at_call 26; (with_reducible refine (HG.out _ ?sg).mono ?_); (case sg => exact (by repeat (first | (with_reducible first | exact Below.refl _ _ | apply pw_below_drewN | apply below_alloc | apply below_drew) | refine below_set ?_ (by first | exact Nat.le_refl _ | omega | (simp; done) | (simp; omega)) | refine below_step ?_ HB2.out | refine below_step ?_ HB3.out | refine below_step ?_ HB4.out | refine below_step ?_ HB5.out))); rintro e w1 ⟨rfl, rfl⟩) | (go_at_call 28; (with_reducible refine (HSO.out _).mono ?_); rintro e w1 ⟨rfl, rfl⟩) | (go_at_call 29; (with_reducible refine HGV.out.mono ?_); rintro e w2 ⟨rfl, hT2, hG2⟩; obtain ⟨t0, t1, u0, u1⟩ := tok_lay (only_cells hG2 (heap_alloc_new _ _) (by omega)); have HT2 := Aside0.mk hT2; have HG2 := Aside0.mk hG2; clear hT2 hG2))
    exact bodyPost_ret (v := .tuple #[vK z2 z3, .int .i64 z4]) (by simp [results, Try.results15, go_sem, t0, t1]) rfl ⟨rfl, HT2.out.two (by omega) (by omega) _ _, only_two (only_after HB1.out HG2.out) (Nat.le_refl _) _ _⟩
theorem TRow.alloc {w : World} {R B : Nat} {l : List Sl} {g : Int} (h : TRow w R B l g) (o : Obj) : TRow (w.alloc o) R B l g := h.below ((Below.refl _ _).alloc (Nat.le_refl _) o)
theorem only_alloc {a w : World} {row : Option Nat} (h : a.grownBy w row) (o : Obj) : a.grownBy (w.alloc o) row :=
  ⟨h.os, h.tape, h.output, Nat.le_trans h.size (by simp), fun i hi hne => (Below.heap_alloc w o i (Nat.lt_of_lt_of_le hi h.size)).trans (h.block i hi hne)⟩
abbrev WD (w : World) (ks kg : Int) : World := (w.alloc (.cells #[.int .i64 ks, .int .i64 kg] 28)).alloc (.cells #[.int .i64 0, .int .i64 0] 28)
theorem WD_below (w : World) (ks kg : Int) : Below w.heap.size w (WD w ks kg) := ((Below.refl _ _).alloc (Nat.le_refl _) _).alloc (by simp) _
theorem WD_blk (w : World) (ks kg : Int) : (WD w ks kg).heap[w.heap.size]? = some (.cells #[.int .i64 ks, .int .i64 kg] 28 (0, 0)) ∧ (WD w ks kg).heap[w.heap.size + 1]? = some (.cells #[.int .i64 0, .int .i64 0] 28 (0, 0)) :=
  ⟨(Below.heap_alloc _ _ _ (by simp)).trans (heap_alloc_new _ _), by have := heap_alloc_new (w.alloc (.cells #[.int .i64 ks, .int .i64 kg] 28)) (.cells #[.int .i64 0, .int .i64 0] 28); simpa using this⟩
set_option maxRecDepth 100000 in
set_option maxHeartbeats 8000000 in
theorem Derive_w (R B : Nat) (l : List Sl) (g ks kg who rights owner : Int) (w : World) (h : TRow w R B l g) :
    Calls Try.prog 17 #[.pointer (some ⟨R, 0, none⟩), vK ks kg, .int .i64 who, .int .i64 rights, .int .i64 owner] w (GiveP w R B g (deriveZ g l ks kg who rights owner)) := by
  have ltR := h.ltR
  have ltB := h.ltB
  have hB1 := WD_below w ks kg
  have HSZ : Aside0 (w.heap.size + 1 < (WD w ks kg).heap.size) := ⟨by simp⟩
  obtain ⟨x0, x1⟩ := WD_blk w ks kg
  have HT1 := Aside0.mk (h.below hB1)
  have HX := Aside0.mk (⟨x0, x1⟩ : _ ∧ _)
  have HB1 := Aside0.mk hB1
  have HG := Aside0.mk (fun w1 (hb : Below w.heap.size w w1) => good_w R B l g w1 (h.below hb))
  have HSO := Aside0.mk (fun w1 => some_w rights w1)
  clear hB1 x0 x1
  by_cases c : owner < 0 ∨ rights < 1 ∨ rights > 15
  · have ez : deriveZ g l ks kg who rights owner = (l, 0, 0, 2) := by unfold deriveZ; rw [if_pos c]
    rw [ez]
    clear ez h
    by_cases c1 : owner < 0
    · have cb : decide (owner < 0) = true := decide_eq_true c1
      clear c c1
      go_enter Try.func17, Try.ntmps17
      go_wp2_with (first | (go_at_call 26; (with_reducible refine (HG.out _ ?sg).mono ?_); (case sg => exact (by repeat (first | (with_reducible first | exact Below.refl _ _ | apply pw_below_drewN | apply below_alloc | apply below_drew) | refine below_set ?_ (by first | exact Nat.le_refl _ | omega | (simp; done) | (simp; omega)) | refine below_step ?_ HB2.out | refine below_step ?_ HB3.out | refine below_step ?_ HB4.out | refine below_step ?_ HB5.out))); rintro e w1 ⟨rfl, rfl⟩))
      exact bodyPost_ret (v := .tuple #[vK 0 0, .int .i64 2]) (by simp [results, Try.results17, go_sem]) rfl ⟨rfl, HT1.out, only_of_below HB1.out _⟩
    have cb : decide (owner < 0) = false := decide_eq_false c1
    have cs : someZ rights = false := decide_eq_false (by omega)
    rw [cs] at HSO
    clear c c1 cs
    go_enter Try.func17, Try.ntmps17
    go_wp2_with (first | (go_at_call 26; (with_reducible refine (HG.out _ ?sg).mono ?_); (case sg => exact (by repeat (first | (with_reducible first | exact Below.refl _ _ | apply pw_below_drewN | apply below_alloc | apply below_drew) | refine below_set ?_ (by first | exact Nat.le_refl _ | omega | (simp; done) | (simp; omega)) | refine below_step ?_ HB2.out | refine below_step ?_ HB3.out | refine below_step ?_ HB4.out | refine below_step ?_ HB5.out))); rintro e w1 ⟨rfl, rfl⟩) | (go_at_call 28; (with_reducible refine (HSO.out _).mono ?_); rintro e w1 ⟨rfl, rfl⟩))
    exact bodyPost_ret (v := .tuple #[vK 0 0, .int .i64 2]) (by simp [results, Try.results17, go_sem]) rfl ⟨rfl, HT1.out, only_of_below HB1.out _⟩
  · have cb : decide (owner < 0) = false := decide_eq_false (by omega)
    have cs : someZ rights = true := decide_eq_true (by omega)
    rw [cs] at HSO
    have HL := Aside0.mk (Look_w R B l g ks kg who (Go.bits .or .i64 rights 8) _ HT1.out)
    have ez : deriveZ g l ks kg who rights owner = if (lookZ l ks kg who (Go.bits .or .i64 rights 8)).2 ≠ 0 then (l, 0, 0, (lookZ l ks kg who (Go.bits .or .i64 rights 8)).2) else giveZ g l ⟨(lookZ l ks kg who (Go.bits .or .i64 rights 8)).1.obj, rights, owner, ks, kg⟩ := by unfold deriveZ; rw [if_neg c]
    rw [ez]
    clear c cs ez
    generalize lookZ l ks kg who (Go.bits .or .i64 rights 8) = z at HL ⊢
    obtain ⟨⟨obj, rr, ow, us, ug⟩, E⟩ := z
    simp only at HL ⊢
    by_cases c2 : E ≠ 0
    · have cb2 : (E != 0) = true := bne_iff_ne.2 c2
      rw [if_pos c2]
      clear c2
      go_enter Try.func17, Try.ntmps17
      go_wp2_with (first | (go_at_call 26; (with_reducible refine (HG.out _ ?sg).mono ?_); (case sg => exact (by repeat (first | (with_reducible first | exact Below.refl _ _ | apply pw_below_drewN | apply below_alloc | apply below_drew) | refine below_set ?_ (by first | exact Nat.le_refl _ | omega | (simp; done) | (simp; omega)) | refine below_step ?_ HB2.out | refine below_step ?_ HB3.out | refine below_step ?_ HB4.out | refine below_step ?_ HB5.out))); rintro e w1 ⟨rfl, rfl⟩) | (go_at_call 28; (with_reducible refine (HSO.out _).mono ?_); rintro e w1 ⟨rfl, rfl⟩) | (go_at_call 13; (with_reducible refine HL.out.mono ?_); rintro e w2 ⟨rfl, hb2⟩; have hT2 := HT1.out.below hb2; obtain ⟨t0, t1, u0, u1⟩ := tok_lay ((hb2.block _ HSZ.out).trans HX.out.2); have hl2 : w.heap.size + 1 < w2.heap.size := Nat.lt_of_lt_of_le HSZ.out hb2.size; have hl3 : w.heap.size < w2.heap.size := Nat.lt_trans (Nat.lt_succ_self _) hl2; have HT2 := Aside0.mk hT2; have HB2 := Aside0.mk hb2; clear hT2 hb2))
      exact bodyPost_ret (v := .tuple #[vK 0 0, .int .i64 E]) (by simp [results, Try.results17, go_sem, t0, t1, hl2]) rfl ⟨rfl, (HT2.out.two (T := w.heap.size + 1) (by omega) (by omega) _ _).alloc _, only_alloc (only_two (only_after HB1.out (only_of_below HB2.out _)) (Nat.le_succ _) _ _) _⟩
    · have cb2 : (E != 0) = false := bne_eq_false_iff_eq.2 (Classical.not_not.1 c2)
      have HGV := Aside0.mk (fun (w1 : World) (hT : TRow w1 R B l g) => give_w R B l g ⟨obj, rights, owner, ks, kg⟩ w1 hT)
      rw [if_neg c2]
      clear c2
      generalize giveZ g l ⟨obj, rights, owner, ks, kg⟩ = z at HGV ⊢
      obtain ⟨z1, z2, z3, z4⟩ := z
      go_enter Try.func17, Try.ntmps17
      go_wp2_with (first | (go_at_call 26; (with_reducible refine (HG.out _ ?sg).mono ?_); (case sg => exact (by repeat (first | (with_reducible first | exact Below.refl _ _ | apply pw_below_drewN | apply below_alloc | apply below_drew) | refine below_set ?_ (by first | exact Nat.le_refl _ | omega | (simp; done) | (simp; omega)) | refine below_step ?_ HB2.out | refine below_step ?_ HB3.out | refine below_step ?_ HB4.out | refine below_step ?_ HB5.out))); rintro e w1 ⟨rfl, rfl⟩) | (go_at_call 28; (with_reducible refine (HSO.out _).mono ?_); rintro e w1 ⟨rfl, rfl⟩) | (go_at_call 13; (with_reducible refine HL.out.mono ?_); rintro e w2 ⟨rfl, hb2⟩; have hT2 := HT1.out.below hb2; obtain ⟨t0, t1, u0, u1⟩ := tok_lay ((hb2.block _ HSZ.out).trans HX.out.2); obtain ⟨s0, s1, _, _⟩ := tok_lay ((hb2.block _ (Nat.lt_trans (Nat.lt_succ_self _) HSZ.out)).trans HX.out.1); have XX := Aside0.mk ((hb2.block _ HSZ.out).trans HX.out.2); have hl2 : w.heap.size + 1 < w2.heap.size := Nat.lt_of_lt_of_le HSZ.out hb2.size; have hl3 : w.heap.size < w2.heap.size := Nat.lt_trans (Nat.lt_succ_self _) hl2; have HT2 := Aside0.mk hT2; have HB2 := Aside0.mk hb2; clear hT2 hb2) | (go_at_call 29; (with_reducible refine (HGV.out _ (HT2.out.alloc _)).mono ?_); rintro e w3 ⟨rfl, hT3, hG3⟩; clear t0 t1 u0 u1; obtain ⟨t0, t1, u0, u1⟩ := tok_lay (only_cells hG3 ((Below.heap_alloc _ _ _ hl2).trans XX.out) (by omega)); have HT3 := Aside0.mk hT3; have HG3 := Aside0.mk hG3; clear hT3 hG3))
      exact bodyPost_ret (v := .tuple #[vK z2 z3, .int .i64 z4]) (by simp [results, Try.results17, go_sem, t0, t1]) rfl ⟨rfl, HT3.out.two (T := w.heap.size + 1) (by omega) (by omega) _ _, only_two (only_trans (only_alloc (only_after HB1.out (only_of_below HB2.out _)) _) HG3.out) (Nat.le_succ _) _ _⟩

end Go.Proofs.Ytecbdhampjmlaaa.Ext
