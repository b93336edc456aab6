/- caps: Free and New, by their walks. -/
import Derived.Test.YtecbdhampjmlaaaExt17FG
import Derived.Test.YtecbdhampjmlaaaWMore
import Derived.Laws.MakeOwn
import Derived.WalkKit
import Derived.WalkMore
import Derived.Below
import Derived.KernelRfl
import Derived.LoopTactic
import Derived.Deep.RegionWith
import Derived.Deep.RegionHeld3
import Derived.IntWalk
import Derived.Deep.DeepCutAuto
import Derived.Deep.CutBlock
import Derived.BigQuiet
import Derived.Laws.RangeString
import Derived.Laws.RangeAny
import Derived.Laws.Rows
import Derived.Laws.Runes
import Derived.Lib.OthersKept
import Derived.OpenShut
set_option linter.unusedVariables false
set_option linter.unusedSimpArgs false
namespace Go.Proofs.Ytecbdhampjmlaaa.Ext
open Go.RowKit Go.Lib Go.Proofs.YtecbdhampjmlaaaW.PrintWords Go.Proofs.YtecbdhampjmlaaaW.PrintMore

theorem freeZ_step (g : Int) (l : List Sl) (k : Nat) (hk : k < l.length) : (l.take (k + 1)).countP (freeS g) = (l.take k).countP (freeS g) + (if freeS g (atS l k) = true then 1 else 0) := by
  rw [List.take_succ_eq_append_getElem hk, List.countP_append, atS_lt hk]
  cases h : freeS g l[k] <;> simp [h]
set_option maxRecDepth 100000 in
set_option maxHeartbeats 8000000 in
theorem Free_w (R B : Nat) (l : List Sl) (g : Int) (w : World) (h : TRow w R B l g) :
    Calls Try.prog 23 #[.pointer (some ⟨R, 0, none⟩)] w fun e w' => e = .returned (.int .i64 (freeZ g l : Nat)) ∧ Below w.heap.size w w' := by
  obtain ⟨cc0, hcc0, c0⟩ := h.c0
  have n := h.n
  have HG := Aside0.mk (fun w1 (hb : Below w.heap.size w w1) => good_w R B l g w1 (h.below hb))
  have HT := Aside0.mk (fun (w1 : World) (hb : Below w.heap.size w w1) => h.below hb)
  clear h
  go_enter Try.func23, Try.ntmps23
  go_wp2_with (first | (go_at_call 26; (with_reducible refine (HG.out _ ?sg).mono ?_); (case sg => exact (by repeat (first | (with_reducible first | exact Below.refl _ _ | apply pw_below_drewN | apply below_alloc | apply below_drew) | refine below_set ?_ (by first | exact Nat.le_refl _ | omega | (simp; done) | (simp; omega)) | refine below_step ?_ HB2.out | refine below_step ?_ HB3.out | refine below_step ?_ HB4.out | refine below_step ?_ HB5.out))); rintro e w1 ⟨rfl, rfl⟩))
  go_loopw [3, 14] (fun nn i wr => ∃ k : Nat, k ≤ l.length ∧ i = .int .i64 k ∧ nn = .int .i64 ((l.take k).countP (freeS g) : Nat) ∧ Aside0 (Below w.heap.size w wr)) (fun _ i _ => l.length - (intOf i).toNat)
  case atStart => exact ⟨0, Nat.zero_le _, rfl, rfl, ⟨Below.refl _ _⟩⟩
  case round =>
    obtain ⟨k, hk, rfl, rfl, HB⟩ := hrel
    have hT := HT.out wr HB.out
    have hcl : (l.take k).countP (freeS g) ≤ 64 := by
      have h1 := List.countP_le_length (p := freeS g) (l := l.take k)
      have h2 := List.length_take_le k l
      omega
    by_cases hlt : k < l.length
    · obtain ⟨gen, alive, o2, r2, ow, u2, v2, hs⟩ := slEx (atS l k)
      obtain ⟨d0, d1, d2, d3, d4, d5, d6⟩ := hT.cs hlt hs
      obtain ⟨cc0, hcc0, c0⟩ := hT.c0
      have hst := freeZ_step g l k hlt
      have HF := Aside0.mk (fun (w1 : World) (hT1 : TRow w1 R B l g) => free_w R B l g (atS l k) w1 hT1)
      rw [hs] at HF hst
      have HT2 := Aside0.mk hT
      clear hT hs
      cases hfr : freeS g ⟨gen, alive, ⟨o2, r2, ow, u2, v2⟩⟩
      all_goals
        rw [hfr] at HF hst
        simp only [Bool.false_eq_true, if_false, if_true, Nat.add_zero] at hst
        have HST := Aside0.mk hst
        clear hst hfr
        generalize (l.take k).countP (freeS g) = cn at *
        go_wp2_with (go_at_call 34; (with_reducible refine (HF.out _ (HT2.out.alloc _)).mono ?_); rintro e w2 ⟨rfl, hb2⟩; have HB2 := Aside0.mk hb2; clear hb2)
        exact ⟨⟨k + 1, by omega, by go_num, by rw [HST.out] <;> go_num, ⟨below_step (below_alloc HB.out _) HB2.out⟩⟩, by simp [intOf]; omega⟩
    · have HE : Aside0 ((l.take k).countP (freeS g) = freeZ g l) := ⟨by rw [List.take_of_length_le (by omega)]; rfl⟩
      have hge : l.length ≤ k := by omega
      generalize (l.take k).countP (freeS g) = cn at *
      clear hT
      go_wp2
      go_ret
      exact ⟨by rw [HE.out]; rfl, HB.out⟩
def NewP (w : World) (s g : Int) (e : Ending) (w' : World) : Prop :=
  ∃ R B : Nat, w.heap.size ≤ R ∧ w.heap.size ≤ B ∧ e = .returned (.pointer (some ⟨R, 0, none⟩)) ∧ TRow w' R B (List.replicate s.toNat sl0) g ∧ Below w.heap.size w w'
theorem atS_rep (n i : Nat) : atS (List.replicate n sl0) i = sl0 := by
  by_cases h : i < n
  · rw [atS_lt (by simpa using h), List.getElem_replicate]
  · rw [atS_out (by simpa using h)]
theorem csls_rep : ∀ n : Nat, csls (List.replicate n sl0) = (List.replicate n (csl sl0)).flatten
  | 0 => rfl
  | n + 1 => by rw [List.replicate_succ, csls_cons, csls_rep n, List.replicate_succ, List.flatten_cons]
theorem run_make_rowN {P : Program} (t e : TypeId) (i : TypeInfo) (z : Value) (ht : P.underlying t = some (.slice e)) (hi : P.info? e = some i) (hz : i.zero = some z)
    (kl kc : IntKind) (n c : Nat) (hnc : n ≤ c) (hbytes : i.bytes * c ≤ 281474976710656) (h63 : c ≤ 9223372036854775807) (w : World) :
    (Instr.makeSlice t (.int kl (n : Int)) (.int kc (c : Int))).run P w = .ok (.slice (some ⟨w.heap.size, 0, none⟩) n c) (w.alloc (.cells (madeCells z.cells (c * i.size)) e)) := by
  have hb : (i.bytes : Int) * (c : Int) ≤ 281474976710656 := by
    have h : ((i.bytes * c : Nat) : Int) ≤ 281474976710656 := by omega
    rwa [Int.natCast_mul] at h
  have hr := run_make (P := P) w t e i z ht hi hz kl kc n c (by omega) (by omega) hb (by omega)
  simp only [Int.toNat_natCast] at hr
  exact hr
theorem made_csls (n : Nat) : madeCells (vS sl0).cells (n * 7) = (csls (List.replicate n sl0)).toArray := by
  apply Array.ext_getElem?
  intro p
  have hR : (csls (List.replicate n sl0)).toArray[p]? = (csls (List.replicate n sl0))[p]? := List.getElem?_toArray
  rw [hR]
  clear hR
  by_cases h : p < n * 7
  · have h1 := csls_get (List.replicate n sl0) (p / 7) (p % 7) (by rw [List.length_replicate]; omega) (Nat.mod_lt _ (by decide))
    rw [show p / 7 * 7 + p % 7 = p by omega, atS_rep] at h1
    rw [h1]
    unfold madeCells
    rw [Array.getElem?_map, Array.getElem?_eq_getElem (by simpa using h), Array.getElem_range, Option.map_some]
    have h7 : p % 7 < 7 := Nat.mod_lt _ (by decide)
    have key : ∀ j, j < 7 → some ((vS sl0).cells[j]!) = (csl sl0)[j]? := by
      intro j hj
      have : j = 0 ∨ j = 1 ∨ j = 2 ∨ j = 3 ∨ j = 4 ∨ j = 5 ∨ j = 6 := by omega
      rcases this with rfl | rfl | rfl | rfl | rfl | rfl | rfl <;> rfl
    exact key _ h7
  · rw [Array.getElem?_eq_none (by rw [size_madeCells]; omega), List.getElem?_eq_none (by rw [csls_len, List.length_replicate]; omega)]
set_option maxRecDepth 100000 in
set_option maxHeartbeats 8000000 in
theorem New_w (s g : Int) (w : World) (hs : 1 ≤ s ∧ s ≤ 64) (hg : 1 ≤ g ∧ g ≤ 65535) :
    Calls Try.prog 9 #[.int .i64 s, .int .i64 g] w (NewP w s g) := by
  obtain ⟨n, rfl⟩ : ∃ n : Nat, s = (n : Int) := ⟨s.toNat, by omega⟩
  have cb1 : decide ((n : Int) < 1) = false := decide_eq_false (by omega)
  have cb2 : decide (64 < (n : Int)) = false := decide_eq_false (by omega)
  have cb3 : decide (g < 1) = false := decide_eq_false (by omega)
  have cb4 : decide (65535 < g) = false := decide_eq_false (by omega)
  have HSG := Aside0.mk hs
  have HGG := Aside0.mk hg
  clear hg
  obtain ⟨i0, hi0, hz0⟩ := Option.map_eq_some_iff.1 (show (Try.prog.info? 76).map (fun i => (i.zero, i.size, i.bytes)) = some (some (vS sl0), 7, 56) by kernel_rfl)
  simp only [Prod.mk.injEq] at hz0
  obtain ⟨hz1, hz2, hz3⟩ := hz0
  have hmk := fun W : World => run_make_rowN (P := Try.prog) 68 76 i0 _ Try.underlying68 hi0 hz1 .i64 .i64 n n (Nat.le_refl _) (by rw [hz3]; omega) (by omega) W
  rw [hz2, made_csls] at hmk
  have HL : Aside0 ((List.replicate n sl0).length = n) := ⟨List.length_replicate⟩
  clear hz1 hz2 hz3 hi0
  go_enter Try.func9, Try.ntmps9
  go_wp2
  go_ret
  refine ⟨w.heap.size + 1, w.heap.size, Nat.le_succ _, Nat.le_refl _, rfl, ?_, ((Below.refl _ _).alloc (Nat.le_refl _) _).alloc (by simp) _⟩
  rw [Int.toNat_natCast]
  refine ⟨?_, ?_, by omega, by rw [HL.out]; omega, HGG.out, fun i => by rw [atS_rep]; decide⟩
  · refine ⟨n, by rw [HL.out]; exact Nat.le_refl _, ?_⟩
    rw [HL.out]
    have := heap_alloc_new (w.alloc (.cells (csls (List.replicate n sl0)).toArray 76)) (.cells #[.slice (some ⟨w.heap.size, 0, none⟩) n n, .int .i64 g] 70)
    simpa using this
  · refine ⟨[], ?_⟩
    rw [List.append_nil]
    exact (Below.heap_alloc _ _ _ (by simp)).trans (heap_alloc_new _ _)
theorem New_nil (s g : Int) (w : World) (h : s < 1 ∨ 64 < s ∨ g < 1 ∨ 65535 < g) :
    Calls Try.prog 9 #[.int .i64 s, .int .i64 g] w fun e w' => e = .returned (.pointer none) ∧ w = w' := by
  by_cases c1 : s < 1
  · have cb1 : decide (s < 1) = true := decide_eq_true c1
    clear h
    go_enter Try.func9, Try.ntmps9
    go_wp2
    go_ret
    exact ⟨rfl, rfl⟩
  have cb1 : decide (s < 1) = false := decide_eq_false c1
  by_cases c2 : 64 < s
  · have cb2 : decide (64 < s) = true := decide_eq_true c2
    clear h c1
    go_enter Try.func9, Try.ntmps9
    go_wp2
    go_ret
    exact ⟨rfl, rfl⟩
  have cb2 : decide (64 < s) = false := decide_eq_false c2
  by_cases c3 : g < 1
  · have cb3 : decide (g < 1) = true := decide_eq_true c3
    clear h c1 c2
    go_enter Try.func9, Try.ntmps9
    go_wp2
    go_ret
    exact ⟨rfl, rfl⟩
  have cb3 : decide (g < 1) = false := decide_eq_false c3
  have cb4 : decide (65535 < g) = true := decide_eq_true (by omega)
  clear h c1 c2 c3
  go_enter Try.func9, Try.ntmps9
  go_wp2
  go_ret
  exact ⟨rfl, rfl⟩

end Go.Proofs.Ytecbdhampjmlaaa.Ext
