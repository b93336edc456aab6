/- Nobody's store; the law PieceNobody, by its walk. -/
import Derived.Test.YtgaggoglbkcomaaExt05JL
import Derived.Test.YtgaggoglbkcomaaExt05EI
import Derived.Test.YtgaggoglbkcomaaExt05AD
import Derived.Test.YtgaggoglbkcomaaExtSC
import Derived.Test.YtgaggoglbkcomaaXRRx5
import Derived.Test.YtgaggoglbkcomaaXRRx2
import Derived.Test.YtgaggoglbkcomaaXRRx3
import Derived.Test.YtgaggoglbkcomaaXRRx0
import Derived.Test.YtgaggoglbkcomaaXPNx0
import Derived.Test.YtgaggoglbkcomaaWMore
import Derived.WalkKit
import Derived.WalkMore
import Derived.Below
import Derived.KernelRfl
import Derived.LoopTactic
import Derived.Deep.RegionWith
import Derived.Deep.RegionHeld3
import Derived.IntWalk
import Derived.Deep.DeepCutAuto
import Derived.Deep.CutBlock
import Derived.BigQuiet
import Derived.Laws.RangeString
import Derived.Laws.RangeAny
import Derived.Laws.Rows
import Derived.Laws.Runes
import Derived.Lib.OthersKept
import Derived.OpenShut
set_option linter.unusedVariables false
set_option linter.unusedSimpArgs false
namespace Go.Proofs.Ytgaggoglbkcomaa.Ext
open Go.RowKit Go.Lib Go.Proofs.YtgaggoglbkcomaaW.PrintWords Go.Proofs.YtgaggoglbkcomaaW.PrintMore Go.Proofs.Ytgaggoglbkcomaa.XRR

/-- No store, or one that no call made. -/
def NB (w : World) (pv : Option Addr) : Prop := pv = none ∨ ∃ B, pv = some ⟨B, 0, none⟩ ∧ w.heap[B]? = some (.cells #[.bool false, .int .i64 0, .slice none 0 0, .slice none 0 0, .int .i64 0] 71 (0, 0))
theorem NB.below {w w' : World} {pv : Option Addr} (h : NB w pv) (hb : Below w.heap.size w w') : NB w' pv := by
  rcases h with h | ⟨B, h1, h2⟩
  · exact Or.inl h
  · exact Or.inr ⟨B, h1, (hb.block B (Array.getElem?_eq_some_iff.1 h2).1).trans h2⟩
set_option maxRecDepth 100000 in
theorem good_no {w : World} {pv : Option Addr} (h : NB w pv) : Calls Try.prog 35 #[.pointer pv] w fun e w' => e = .returned (.bool false) ∧ Below w.heap.size w w' := by
  rcases h with rfl | ⟨B, rfl, hx⟩
  · go_enter Try.func35, Try.ntmps35
    go_wp2
    go_ret
    exact ⟨rfl, Below.refl _ _⟩
  · have c0 := cell_of_row w B 0 _ _ _ hx
    clear hx
    go_enter Try.func35, Try.ntmps35
    go_wp2
    go_ret
    exact ⟨rfl, Below.refl _ _⟩
theorem len_no {w : World} {pv : Option Addr} (h : NB w pv) : Calls Try.prog 24 #[.pointer pv] w fun e w' => e = .returned (.int .i64 0) ∧ Below w.heap.size w w' := by
  have HG := Aside0.mk (fun (W : World) (hb : Below w.heap.size w W) => good_no (h.below hb))
  have HB := Aside0.mk (Below.refl w.heap.size w)
  clear h
  go_enter Try.func24, Try.ntmps24
  go_wp2_with (first | (go_at_call 35; (with_reducible refine (HG.out _ HB.out).mono ?_); rintro e w1 ⟨rfl, hb1⟩; have HB := Aside0.mk (below_step HB.out hb1); clear hb1))
  go_ret
  exact ⟨rfl, HB.out⟩
theorem room_no {w : World} {pv : Option Addr} (h : NB w pv) : Calls Try.prog 25 #[.pointer pv] w fun e w' => e = .returned (.int .i64 0) ∧ Below w.heap.size w w' := by
  have HG := Aside0.mk (fun (W : World) (hb : Below w.heap.size w W) => good_no (h.below hb))
  have HB := Aside0.mk (Below.refl w.heap.size w)
  clear h
  go_enter Try.func25, Try.ntmps25
  go_wp2_with (first | (go_at_call 35; (with_reducible refine (HG.out _ HB.out).mono ?_); rintro e w1 ⟨rfl, hb1⟩; have HB := Aside0.mk (below_step HB.out hb1); clear hb1))
  go_ret
  exact ⟨rfl, HB.out⟩
theorem copy_no {w : World} {pv : Option Addr} (h : NB w pv) : Calls Try.prog 26 #[.pointer pv] w fun e w' => e = .returned (.pointer none) ∧ Below w.heap.size w w' := by
  have HG := Aside0.mk (fun (W : World) (hb : Below w.heap.size w W) => good_no (h.below hb))
  have HB := Aside0.mk (Below.refl w.heap.size w)
  clear h
  go_enter Try.func26, Try.ntmps26
  go_wp2_with (first | (go_at_call 35; (with_reducible refine (HG.out _ HB.out).mono ?_); rintro e w1 ⟨rfl, hb1⟩; have HB := Aside0.mk (below_step HB.out hb1); clear hb1))
  go_ret
  exact ⟨rfl, HB.out⟩
set_option maxRecDepth 100000 in
set_option maxHeartbeats 4000000 in
theorem put_no {w : World} {pv : Option Addr} (h : NB w pv) (f t : Int) (x : ByteArray) (v : Value) : Calls Try.prog 19 #[.pointer pv, .int .i64 f, .int .i64 t, vT x v] w fun e w' => e = .returned (.int .i64 1) ∧ Below w.heap.size w w' := by
  have HG := Aside0.mk (fun (W : World) (hb : Below w.heap.size w W) => good_no (h.below hb))
  have HB := Aside0.mk (below_alloc (Below.refl w.heap.size w) (.cells #[.string x, v] 24))
  clear h
  go_enter Try.func19, Try.ntmps19
  go_wp2_with (first | (go_at_call 35; (with_reducible refine (HG.out _ HB.out).mono ?_); rintro e w1 ⟨rfl, hb1⟩; have HB := Aside0.mk (below_step HB.out hb1); clear hb1))
  go_ret
  exact ⟨rfl, HB.out⟩
set_option maxRecDepth 100000 in
set_option maxHeartbeats 4000000 in
theorem cut_no {w : World} {pv : Option Addr} (h : NB w pv) (f t : Int) : Calls Try.prog 21 #[.pointer pv, .int .i64 f, .int .i64 t] w fun e w' => e = .returned (.tuple #[vT ⟨#[]⟩ (.slice none 0 0), .int .i64 1]) ∧ Below w.heap.size w w' := by
  have HG := Aside0.mk (fun (W : World) (hb : Below w.heap.size w W) => good_no (h.below hb))
  have HB := Aside0.mk (below_alloc (Below.refl w.heap.size w) (.cells #[.string ⟨#[]⟩, .slice none 0 0] 24))
  have HX : Aside0 (BX (w.alloc (.cells #[.string ⟨#[]⟩, .slice none 0 0] 24)) w.heap.size ⟨#[]⟩ (.slice none 0 0)) := ⟨⟨heap_alloc_new _ _⟩⟩
  clear h
  go_enter Try.func21, Try.ntmps21
  go_wp2_with (first | (go_at_call 35; (with_reducible refine (HG.out _ HB.out).mono ?_); rintro e w1 ⟨rfl, hb1⟩; have HB := Aside0.mk (below_step HB.out hb1); have HX := Aside0.mk (HX.out.below hb1); obtain ⟨x0, x1, f0, f1⟩ := HX.out.cells; have xl := HX.out.lt; clear hb1))
  have hx2 := heap_setCell_same _ w.heap.size 1 _ _ (.slice none 0 0) (heap_setCell_same _ w.heap.size 0 _ _ (.string ⟨#[]⟩) HX.out.x)
  have c0 := cell_of_row _ w.heap.size 0 _ _ _ hx2
  have c1 := cell_of_row _ w.heap.size 1 _ _ _ hx2
  exact bodyPost_ret (v := .tuple #[vT ⟨#[]⟩ (.slice none 0 0), .int .i64 1]) (by simp [results, Try.results21, go_sem, c0, c1]) rfl ⟨rfl, two_set HB.out (Nat.le_refl _)⟩
set_option maxRecDepth 100000 in
set_option maxHeartbeats 4000000 in
theorem text_no {w : World} {pv : Option Addr} (h : NB w pv) : Calls Try.prog 20 #[.pointer pv] w fun e w' => e = .returned (vT ⟨#[]⟩ (.slice none 0 0)) ∧ Below w.heap.size w w' := by
  have HG := Aside0.mk (fun (W : World) (hb : Below w.heap.size w W) => good_no (h.below hb))
  have HB := Aside0.mk (below_alloc (Below.refl w.heap.size w) (.cells #[.string ⟨#[]⟩, .slice none 0 0] 24))
  have HX : Aside0 (BX (w.alloc (.cells #[.string ⟨#[]⟩, .slice none 0 0] 24)) w.heap.size ⟨#[]⟩ (.slice none 0 0)) := ⟨⟨heap_alloc_new _ _⟩⟩
  clear h
  go_enter Try.func20, Try.ntmps20
  go_wp2_with (first | (go_at_call 35; (with_reducible refine (HG.out _ HB.out).mono ?_); rintro e w1 ⟨rfl, hb1⟩; have HB := Aside0.mk (below_step HB.out hb1); have HX := Aside0.mk (HX.out.below hb1); obtain ⟨x0, x1, f0, f1⟩ := HX.out.cells; have xl := HX.out.lt; clear hb1))
  have hx2 := heap_setCell_same _ w.heap.size 1 _ _ (.slice none 0 0) (heap_setCell_same _ w.heap.size 0 _ _ (.string ⟨#[]⟩) HX.out.x)
  have c0 := cell_of_row _ w.heap.size 0 _ _ _ hx2
  have c1 := cell_of_row _ w.heap.size 1 _ _ _ hx2
  exact bodyPost_ret (v := vT ⟨#[]⟩ (.slice none 0 0)) (by simp [results, Try.results20, go_sem, c0, c1]) rfl ⟨rfl, two_set HB.out (Nat.le_refl _)⟩
/-- The law's first part: the act's box, the stores, the list of both. -/
structure N1 (w wr : World) (f t : Int) (x : ByteArray) (v : Value) (k1 k2 : Bool) (bS bL : Nat) : Prop where
  b : Below w.heap.size w wr
  a : AX wr w.heap.size f t x v k1 k2
  s : wr.heap[bS]? = some (.cells #[.bool false, .int .i64 0, .slice none 0 0, .slice none 0 0, .int .i64 0] 71 (0, 0))
  l : wr.heap[bL]? = some (.cells #[.pointer none, .pointer (some ⟨bS, 0, none⟩)] 50 (0, 0))
theorem N1.below {w wr w' : World} {f t : Int} {x : ByteArray} {v : Value} {k1 k2 : Bool} {bS bL : Nat} (h : N1 w wr f t x v k1 k2 bS bL) (hb : Below wr.heap.size wr w') : N1 w w' f t x v k1 k2 bS bL := ⟨below_step h.b hb, h.a.below hb, blk_below h.s hb, blk_below h.l hb⟩
theorem N1.nb0 {w wr : World} {f t : Int} {x : ByteArray} {v : Value} {k1 k2 : Bool} {bS bL : Nat} (h : N1 w wr f t x v k1 k2 bS bL) : NB wr none := Or.inl rfl
theorem N1.nb1 {w wr : World} {f t : Int} {x : ByteArray} {v : Value} {k1 k2 : Bool} {bS bL : Nat} (h : N1 w wr f t x v k1 k2 bS bL) : NB wr (some ⟨bS, 0, none⟩) := Or.inr ⟨bS, rfl, h.s⟩
theorem N1.start {w u : World} {f t : Int} {x : ByteArray} {v : Value} {k1 k2 : Bool} (hb : Below w.heap.size w u) (ha : AX u w.heap.size f t x v k1 k2) : N1 w ((u.alloc (.cells #[.bool false, .int .i64 0, .slice none 0 0, .slice none 0 0, .int .i64 0] 71)).alloc (.cells #[.pointer none, .pointer (some ⟨u.heap.size, 0, none⟩)] 50)) f t x v k1 k2 u.heap.size (u.heap.size + 1) := by
  have e1 : (u.alloc (.cells #[.bool false, .int .i64 0, .slice none 0 0, .slice none 0 0, .int .i64 0] 71)).heap.size = u.heap.size + 1 := by simp
  have h2 := heap_alloc_new (u.alloc (.cells #[.bool false, .int .i64 0, .slice none 0 0, .slice none 0 0, .int .i64 0] 71)) (.cells #[.pointer none, .pointer (some ⟨u.heap.size, 0, none⟩)] 50)
  rw [e1] at h2
  exact ⟨below_alloc (below_alloc hb _) _, (ha.below (below_alloc (Below.refl _ _) _)).below (below_alloc (Below.refl _ _) _), blk_below (heap_alloc_new _ _) (below_alloc (Below.refl _ _) _), h2⟩
theorem AX.start (w : World) (f t : Int) (x : ByteArray) (v : Value) (k1 k2 : Bool) : AX (w.alloc (.cells #[.int .i64 f, .int .i64 t, .string x, v, .bool k1, .bool k2] 48)) w.heap.size f t x v k1 k2 := ⟨heap_alloc_new _ _⟩
theorem C_two (w : World) (b : Nat) (L n L2 n2 : Int) (h : w.heap[b]? = some (.cells #[.int .u64 L, .int .i64 n, .int .u64 L2, .int .i64 n2] 29 (0, 0))) : CC w (some ⟨b, 0, none⟩) [⟨L, n⟩, ⟨L2, n2⟩] := by
  have h0 := cell_of_row w b 0 _ _ _ h
  have h1 := cell_of_row w b 1 _ _ _ h
  have h2 := cell_of_row w b 2 _ _ _ h
  have h3 := cell_of_row w b 3 _ _ _ h
  refine ⟨rfl, show (2 : Nat) ≤ 9223372036854775807 by decide, fun _ => ⟨_, rfl, fun j p hj => ?_⟩⟩
  match j, hj with
  | 0, hj =>
    cases hj
    refine ⟨_, ?_, k29_mk w ⟨L, n⟩, fun i u hu => ?_⟩
    · rfl
    · match i, hu with
      | 0, hu => cases hu; exact h0
      | 1, hu => cases hu; exact h1
  | 1, hj =>
    cases hj
    refine ⟨_, ?_, k29_mk w ⟨L2, n2⟩, fun i u hu => ?_⟩
    · rfl
    · match i, hu with
      | 0, hu => cases hu; exact h2
      | 1, hu => cases hu; exact h3
/-- A change of rows that lie below the runs' base. -/
theorem R_low {α : Type} {d : Kd α} {e base : Nat} {ok : Nat → Prop} {w w' : World} {v : Value} {xs : List α} {S : Nat → Prop} (h : d.R e w base ok v xs) (hk : Kp S w w') (ht : ∀ k, S k → k < base) : d.R e w' base ok v xs :=
  Kd.R_mono (Kd.R_step (Kd.R_bound h) (fun k hb hlt => hk.block k hlt (fun hs => by
    have h1 := ht k hs
    have h2 := hb.2.1
    omega))) (fun _ hb => hb.1)
theorem SM.run0 {w wr : World} {P mo n rb base : Nat} {va vs : Value} {ad : List Int} {xs : List Sp} {cells : Array Value} (h : SM w wr P mo va vs ad xs n) (hn : RunsNew wr base xs) (hlt : rb < base) (hle : w.heap.size ≤ base) (hw : w.heap.size ≤ rb) (hx : wr.heap[rb]? = some (.cells cells 29 (0, 0))) (a b : Value) : SM w ((wr.setCell ⟨rb, 0, none⟩ a).setCell ⟨rb, 1, none⟩ b) P mo va vs ad xs n := by
  have hk : Kp (fun k => k = rb) wr ((wr.setCell ⟨rb, 0, none⟩ a).setCell ⟨rb, 1, none⟩ b) := (Kp.set wr rb 0 a).trans (Kp.set _ rb 1 b) (fun _ e => e) (fun _ _ e => e)
  refine ⟨h.b.trans (two_set' hw), (hk.block P h.lt (fun e => ?_)).trans h.x, h.le, own_keep h.a hk (fun g e e' => ?_), R_keep h.s hk (fun g hg q hq cells' hc => ?_), fun p hp => Kd.R_lower (R_low (hn p hp) hk (fun k e => by subst e; exact hlt)) hle⟩
  · have h1 := h.x
    rw [e, hx] at h1
    cases h1
  · obtain ⟨c, hc⟩ := own_typed h.a g e
    rw [e', hx] at hc
    cases hc
  · subst hg
    rw [hx] at hc
    rcases List.mem_cons.1 hq with e | e
    · subst e; cases hc
    · exact (List.not_mem_nil e).elim
abbrev qL : List Rn := [⟨1, 2⟩, ⟨2, 1⟩]
abbrev qS : ByteArray := ⟨#[97, 98, 99]⟩
/-- Behind the Put: the store, and the runs that were handed in. -/
structure N2 (w wr : World) (P rb base : Nat) (va vs : Value) (ad : List Int) (xs : List Sp) : Prop where
  M : SM w wr P 9 va vs ad xs 3
  p : PS ad (xs.map (·.o)) qS qL
  n : ad.length ≤ 1000
  r : RunsNew wr base xs
  lt : rb < base
  le : w.heap.size ≤ rb
  x : ∃ a b c d, wr.heap[rb]? = some (.cells #[a, b, c, d] 29 (0, 0))
theorem nob_put {w u : World} {P rb : Nat} (h : SM w u P 9 (.slice none 0 0) (.slice none 0 0) [] [] 0) (hx : u.heap[rb]? = some (.cells #[.int .u64 1, .int .i64 2, .int .u64 2, .int .i64 1] 29 (0, 0))) (hle : w.heap.size ≤ rb) : Calls Try.prog 19 #[.pointer (some ⟨P, 0, none⟩), .int .i64 0, .int .i64 0, .agg #[.string ⟨#[97, 98, 99]⟩, .slice (some ⟨rb, 0, none⟩) 2 2]] u fun e w' => e = .returned (.int .i64 0) ∧ ∃ va vs ad xs, N2 w w' P rb u.heap.size va vs ad xs := by
  have := put_ok h PS.nil rfl (by decide) (by decide) qS qL (some ⟨rb, 0, none⟩) 2 (C_two u rb 1 2 2 1 hx) (by decide) (by decide) 0 0 (Nat.le_refl _) (Nat.le_refl _) (by decide)
  refine this.mono ?_
  rintro e w' ⟨rfl, va', vs', xs', -, hs, hxs, hk, hn⟩
  have hp := PS.nil.put (x := qS) (m := qL) (by decide) 0 0 (Nat.le_refl _) (Nat.le_refl _) (by decide)
  have e1 : sS ⟨#[]⟩ 0 0 qS = qS := by decide +kernel
  have e2 : spl [] ((0 : Nat) : Int) ((0 : Nat) : Int) qL = qL := by decide +kernel
  rw [e1, e2] at hp
  refine ⟨rfl, va', vs', _, xs', ⟨hs, ?_, by rw [List.length_append, bO_len]; decide, hn, (Array.getElem?_eq_some_iff.1 hx).1, hle, ?_⟩⟩
  · rw [hxs]
    exact hp
  · refine ⟨_, _, _, _, (hk.block rb (Array.getElem?_eq_some_iff.1 hx).1 (fun e => ?_)).trans hx⟩
    rcases e with rfl | e
    · rw [h.x] at hx
      cases hx
    · cases e
/-- The text's runs written over. -/
structure N3 (W8 wr : World) (g p9 c9 : Nat) : Prop where
  b : Below W8.heap.size W8 wr
  gx : ∃ a b c d, ∃ l : List Value, wr.heap[g]? = some (.cells (a :: b :: c :: d :: l).toArray 29 (0, 0))
  lg : W8.heap.size ≤ g
  x : BX wr p9 qS (.slice (some ⟨g, 0, none⟩) 2 c9)
theorem N3.cells {W8 wr : World} {g p9 c9 : Nat} (h : N3 W8 wr g p9 c9) : (∃ v, wr.cell? ⟨g, 0, none⟩ = some v) ∧ (∃ v, wr.cell? ⟨g, 1, none⟩ = some v) ∧ (∃ v, wr.cell? ⟨g, 2, none⟩ = some v) ∧ (∃ v, wr.cell? ⟨g, 3, none⟩ = some v) ∧ wr.frozen? ⟨g, 0, none⟩ = false ∧ wr.frozen? ⟨g, 1, none⟩ = false ∧ wr.frozen? ⟨g, 2, none⟩ = false ∧ wr.frozen? ⟨g, 3, none⟩ = false := by
  obtain ⟨a, b, c, d, l, hx⟩ := h.gx
  exact ⟨⟨a, cell_of_row wr g 0 _ _ _ hx⟩, ⟨b, cell_of_row wr g 1 _ _ _ hx⟩, ⟨c, cell_of_row wr g 2 _ _ _ hx⟩, ⟨d, cell_of_row wr g 3 _ _ _ hx⟩, frozen_of_row wr g 0 _ _ hx, frozen_of_row wr g 1 _ _ hx, frozen_of_row wr g 2 _ _ hx, frozen_of_row wr g 3 _ _ hx⟩
theorem N3.set {W8 wr : World} {g p9 c9 : Nat} (h : N3 W8 wr g p9 c9) (j : Nat) (v : Value) : N3 W8 (wr.setCell ⟨g, j, none⟩ v) g p9 c9 := by
  obtain ⟨a, b, c, d, l, hx⟩ := h.gx
  have hne : p9 ≠ g := fun e => by
    have h1 := h.x.x
    rw [e, hx] at h1
    cases h1
  refine ⟨h.b.setCell (p := ⟨g, j, none⟩) h.lg _, ?_, h.lg, ⟨?_⟩⟩
  · have hs := heap_setCell_same wr g j _ _ v hx
    rw [hs]
    match j with
    | 0 => exact ⟨v, b, c, d, l, rfl⟩
    | 1 => exact ⟨a, v, c, d, l, rfl⟩
    | 2 => exact ⟨a, b, v, d, l, rfl⟩
    | 3 => exact ⟨a, b, c, v, l, rfl⟩
    | j + 4 => exact ⟨a, b, c, d, l.set j v, by simp⟩
  · rw [heap_setCell_other _ _ _ _ (by exact hne)]
    exact h.x.x
theorem N3.new {W8 w9 : World} {A9 : Option Addr} {c9 : Nat} (hr : RR w9 W8.heap.size (sv A9 qL c9) qL) (hb : Below W8.heap.size W8 w9) : ∃ g, A9 = some ⟨g, 0, none⟩ ∧ N3 W8 (w9.alloc (.cells #[.string qS, .slice A9 2 c9] 24)) g w9.heap.size c9 := by
  obtain ⟨-, inner, ho, -⟩ := hr
  rcases ho.2 with ⟨e, e2⟩ | ⟨g, cap, cur, e, hB, hg, hn, -, hcs, -⟩
  · cases e
  · injection e with e1 _ e3
    subst e1
    subst e3
    have hsz : 4 ≤ cur.size := by
      have h2 : (2 : Nat) ≤ c9 := hn
      have h3 : cur.size = c9 * 2 := hcs
      omega
    refine ⟨g, rfl, below_alloc hb _, ?_, hB, ⟨heap_alloc_new _ _⟩⟩
    have hx := blk_below hg (below_alloc (Below.refl _ _) (.cells #[.string qS, .slice (some ⟨g, 0, none⟩) 2 c9] 24))
    obtain ⟨cl⟩ := cur
    match cl, hsz with
    | a :: b :: c :: d :: l, _ => exact ⟨a, b, c, d, l, hx⟩
set_option maxRecDepth 100000 in
set_option maxHeartbeats 16000000 in
theorem Nobody_w (f t : Int) (x : ByteArray) (A : Option Addr) (c : Nat) (m : List Rn) (k1 k2 : Bool) (w : World) :
    Calls Try.prog 8 #[.agg #[.int .i64 f, .int .i64 t, .string x, sv A m c, .bool k1, .bool k2]] w fun e w' => e = .returned (.bool true) ∧ Below w.heap.size w w' := by
  have HAL := Aside0.mk alive_w
  have HB0 := Aside0.mk (below_alloc (Below.refl w.heap.size w) (.cells #[.int .i64 f, .int .i64 t, .string x, sv A m c, .bool k1, .bool k2] 48))
  have HA := Aside0.mk (AX.start w f t x (sv A m c) k1 k2)
  have HSA : Aside0 (∀ W : World, Calls Try.prog 16 #[.agg #[.string ⟨#[]⟩, .slice none 0 0], .agg #[.string ⟨#[]⟩, .slice none 0 0]] W fun e w' => e = .returned (.bool true) ∧ Below W.heap.size W w') := ⟨fun W => same_c ⟨#[]⟩ [] (Nat.zero_le _) W none none 0 0 (Kd.R_reads' (Kd.R_nil k29 29 W 0 (fun _ => True))).2.2 (Nat.le_refl _) (Kd.R_reads' (Kd.R_nil k29 29 W 0 (fun _ => True))).2.2 (Nat.le_refl _)⟩
  have HNW : Aside0 (∀ u : World, Below w.heap.size w u → Calls Try.prog 18 #[.int .i64 9] u fun e w' => e = .returned (.pointer (some ⟨u.heap.size, 0, none⟩)) ∧ SM w w' u.heap.size 9 (.slice none 0 0) (.slice none 0 0) [] [] 0 ∧ Below u.heap.size u w') := ⟨fun u hb => new_ok hb 9 (by decide)⟩
  have HPQ : Aside0 (∀ (W : World) (P : Nat), SM w W P 9 (.slice none 0 0) (.slice none 0 0) [] [] 0 → Calls Try.prog 19 #[.pointer (some ⟨P, 0, none⟩), .int .i64 0, .int .i64 0, .agg #[.string ⟨#[97, 98, 99]⟩, .slice (some ⟨W.heap.size, 0, none⟩) 2 2]] (W.alloc (.cells #[.int .u64 1, .int .i64 2, .int .u64 2, .int .i64 1] 29)) fun e w' => e = .returned (.int .i64 0) ∧ ∃ va vs ad xs, N2 w w' P W.heap.size (W.alloc (.cells #[.int .u64 1, .int .i64 2, .int .u64 2, .int .i64 1] 29)).heap.size va vs ad xs) := ⟨fun W P h => nob_put (h.below (below_alloc (Below.refl _ _) _)) (heap_alloc_new _ _) h.b.size⟩
  obtain ⟨x0, x1, x2, x3, x4, x5⟩ := HA.out.cells; have xl := HA.out.lt
  go_enter Try.func8, Try.ntmps8
  go_wp2_with (first | (go_at_call 17; (with_reducible refine (HAL.out _).mono ?_); rintro e w1 ⟨rfl, hb1⟩; have HA := Aside0.mk (HA.out.below hb1); have HB1 := Aside0.mk (below_step HB0.out hb1); clear hb1; clear x0 x1 x2 x3 x4 x5 xl; obtain ⟨x0, x1, x2, x3, x4, x5⟩ := HA.out.cells; have xl := HA.out.lt))
  have HN := Aside0.mk (N1.start HB1.out HA.out)
  clear HA HB1 x0 x1 x2 x3 x4 x5 xl
  generalize w1.heap.size + 1 = bL at *
  generalize w1.heap.size = bS at *
  generalize World.alloc (World.alloc w1 _) _ = w2 at *
  go_loopw [17] (fun ii wr => ∃ (q : Nat) (wr1 : World), wr1 = wr ∧ ii = .int .i64 q ∧ q ≤ 2 ∧ Aside0 (N1 w wr1 f t x (sv A m c) k1 k2 bS bL)) (fun ii _ => 2 - (RowKit.intOf ii).toNat)
  case atStart => exact ⟨0, _, rfl, rfl, by decide, HN⟩
  case round =>
    clear HN
    obtain ⟨q, wr1, rfl, rfl, hq, HN⟩ := hrel
    have l0 := cell_of_row _ bL 0 _ _ _ HN.out.l
    have l1 := cell_of_row _ bL 1 _ _ _ HN.out.l
    by_cases hq0 : q = 0
    · subst hq0
      have NBX := fun {W : World} (h : N1 w W f t x (sv A m c) k1 k2 bS bL) => h.nb0
      have HCU := Aside0.mk (fun (W : World) (h : N1 w W f t x (sv A m c) k1 k2 bS bL) => cut_no (NBX h) f t)
      have HPU := Aside0.mk (fun (W : World) (h : N1 w W f t x (sv A m c) k1 k2 bS bL) => put_no (NBX h) f t x (sv A m c))
      have HTE := Aside0.mk (fun (W : World) (h : N1 w W f t x (sv A m c) k1 k2 bS bL) => text_no (NBX h))
      have HLE := Aside0.mk (fun (W : World) (h : N1 w W f t x (sv A m c) k1 k2 bS bL) => len_no (NBX h))
      have HRO := Aside0.mk (fun (W : World) (h : N1 w W f t x (sv A m c) k1 k2 bS bL) => room_no (NBX h))
      have HCO := Aside0.mk (fun (W : World) (h : N1 w W f t x (sv A m c) k1 k2 bS bL) => copy_no (NBX h))
      obtain ⟨x0, x1, x2, x3, x4, x5⟩ := HN.out.a.cells; have xl := HN.out.a.lt
      go_wp2_with (first | (go_at_call 21; (with_reducible refine (HCU.out _ HN.out).mono ?_); rintro e w3 ⟨rfl, hb3⟩; have HN := Aside0.mk ((HN.out.below hb3).below (below_alloc (Below.refl _ _) (.cells #[.string ⟨#[]⟩, .slice none 0 0] 24))); have HE : Aside0 (BX (w3.alloc (.cells #[.string ⟨#[]⟩, .slice none 0 0] 24)) w3.heap.size ⟨#[]⟩ (.slice none 0 0)) := ⟨⟨heap_alloc_new _ _⟩⟩; clear hb3; clear x0 x1 x2 x3 x4 x5 xl; obtain ⟨x0, x1, x2, x3, x4, x5⟩ := HN.out.a.cells; have xl := HN.out.a.lt; obtain ⟨e0, e1, -, -⟩ := HE.out.cells; have el := HE.out.lt) | (go_at_call 19; (with_reducible refine (HPU.out _ HN.out).mono ?_); rintro e w4 ⟨rfl, hb4⟩; have HN := Aside0.mk (HN.out.below hb4); have HE := Aside0.mk (HE.out.below hb4); clear hb4 e0 e1 el; clear x0 x1 x2 x3 x4 x5 xl; obtain ⟨x0, x1, x2, x3, x4, x5⟩ := HN.out.a.cells; have xl := HN.out.a.lt; obtain ⟨e0, e1, -, -⟩ := HE.out.cells; have el := HE.out.lt) | (go_at_call 16; (with_reducible refine (HSA.out _).mono ?_); rintro e w4 ⟨rfl, hb4⟩; have HN := Aside0.mk (HN.out.below hb4); have HE := Aside0.mk (HE.out.below hb4); clear hb4 e0 e1 el; clear x0 x1 x2 x3 x4 x5 xl; obtain ⟨x0, x1, x2, x3, x4, x5⟩ := HN.out.a.cells; have xl := HN.out.a.lt; obtain ⟨e0, e1, -, -⟩ := HE.out.cells; have el := HE.out.lt) | (go_at_call 20; (with_reducible refine (HTE.out _ HN.out).mono ?_); rintro e w4 ⟨rfl, hb4⟩; have HN := Aside0.mk (HN.out.below hb4); have HE := Aside0.mk (HE.out.below hb4); clear hb4 e0 e1 el; clear x0 x1 x2 x3 x4 x5 xl; obtain ⟨x0, x1, x2, x3, x4, x5⟩ := HN.out.a.cells; have xl := HN.out.a.lt; obtain ⟨e0, e1, -, -⟩ := HE.out.cells; have el := HE.out.lt) | (go_at_call 24; (with_reducible refine (HLE.out _ HN.out).mono ?_); rintro e w4 ⟨rfl, hb4⟩; have HN := Aside0.mk (HN.out.below hb4); have HE := Aside0.mk (HE.out.below hb4); clear hb4 e0 e1 el; clear x0 x1 x2 x3 x4 x5 xl; obtain ⟨x0, x1, x2, x3, x4, x5⟩ := HN.out.a.cells; have xl := HN.out.a.lt; obtain ⟨e0, e1, -, -⟩ := HE.out.cells; have el := HE.out.lt) | (go_at_call 25; (with_reducible refine (HRO.out _ HN.out).mono ?_); rintro e w4 ⟨rfl, hb4⟩; have HN := Aside0.mk (HN.out.below hb4); have HE := Aside0.mk (HE.out.below hb4); clear hb4 e0 e1 el; clear x0 x1 x2 x3 x4 x5 xl; obtain ⟨x0, x1, x2, x3, x4, x5⟩ := HN.out.a.cells; have xl := HN.out.a.lt; obtain ⟨e0, e1, -, -⟩ := HE.out.cells; have el := HE.out.lt) | (go_at_call 26; (with_reducible refine (HCO.out _ HN.out).mono ?_); rintro e w4 ⟨rfl, hb4⟩; have HN := Aside0.mk (HN.out.below hb4); have HE := Aside0.mk (HE.out.below hb4); clear hb4 e0 e1 el; clear x0 x1 x2 x3 x4 x5 xl; obtain ⟨x0, x1, x2, x3, x4, x5⟩ := HN.out.a.cells; have xl := HN.out.a.lt; obtain ⟨e0, e1, -, -⟩ := HE.out.cells; have el := HE.out.lt))
      exact ⟨⟨1, _, rfl, by go_num, by decide, HN⟩, by decide⟩
    by_cases hq1 : q = 1
    · subst hq1
      have NBX := fun {W : World} (h : N1 w W f t x (sv A m c) k1 k2 bS bL) => h.nb1
      have HCU := Aside0.mk (fun (W : World) (h : N1 w W f t x (sv A m c) k1 k2 bS bL) => cut_no (NBX h) f t)
      have HPU := Aside0.mk (fun (W : World) (h : N1 w W f t x (sv A m c) k1 k2 bS bL) => put_no (NBX h) f t x (sv A m c))
      have HTE := Aside0.mk (fun (W : World) (h : N1 w W f t x (sv A m c) k1 k2 bS bL) => text_no (NBX h))
      have HLE := Aside0.mk (fun (W : World) (h : N1 w W f t x (sv A m c) k1 k2 bS bL) => len_no (NBX h))
      have HRO := Aside0.mk (fun (W : World) (h : N1 w W f t x (sv A m c) k1 k2 bS bL) => room_no (NBX h))
      have HCO := Aside0.mk (fun (W : World) (h : N1 w W f t x (sv A m c) k1 k2 bS bL) => copy_no (NBX h))
      obtain ⟨x0, x1, x2, x3, x4, x5⟩ := HN.out.a.cells; have xl := HN.out.a.lt
      go_wp2_with (first | (go_at_call 21; (with_reducible refine (HCU.out _ HN.out).mono ?_); rintro e w3 ⟨rfl, hb3⟩; have HN := Aside0.mk ((HN.out.below hb3).below (below_alloc (Below.refl _ _) (.cells #[.string ⟨#[]⟩, .slice none 0 0] 24))); have HE : Aside0 (BX (w3.alloc (.cells #[.string ⟨#[]⟩, .slice none 0 0] 24)) w3.heap.size ⟨#[]⟩ (.slice none 0 0)) := ⟨⟨heap_alloc_new _ _⟩⟩; clear hb3; clear x0 x1 x2 x3 x4 x5 xl; obtain ⟨x0, x1, x2, x3, x4, x5⟩ := HN.out.a.cells; have xl := HN.out.a.lt; obtain ⟨e0, e1, -, -⟩ := HE.out.cells; have el := HE.out.lt) | (go_at_call 19; (with_reducible refine (HPU.out _ HN.out).mono ?_); rintro e w4 ⟨rfl, hb4⟩; have HN := Aside0.mk (HN.out.below hb4); have HE := Aside0.mk (HE.out.below hb4); clear hb4 e0 e1 el; clear x0 x1 x2 x3 x4 x5 xl; obtain ⟨x0, x1, x2, x3, x4, x5⟩ := HN.out.a.cells; have xl := HN.out.a.lt; obtain ⟨e0, e1, -, -⟩ := HE.out.cells; have el := HE.out.lt) | (go_at_call 16; (with_reducible refine (HSA.out _).mono ?_); rintro e w4 ⟨rfl, hb4⟩; have HN := Aside0.mk (HN.out.below hb4); have HE := Aside0.mk (HE.out.below hb4); clear hb4 e0 e1 el; clear x0 x1 x2 x3 x4 x5 xl; obtain ⟨x0, x1, x2, x3, x4, x5⟩ := HN.out.a.cells; have xl := HN.out.a.lt; obtain ⟨e0, e1, -, -⟩ := HE.out.cells; have el := HE.out.lt) | (go_at_call 20; (with_reducible refine (HTE.out _ HN.out).mono ?_); rintro e w4 ⟨rfl, hb4⟩; have HN := Aside0.mk (HN.out.below hb4); have HE := Aside0.mk (HE.out.below hb4); clear hb4 e0 e1 el; clear x0 x1 x2 x3 x4 x5 xl; obtain ⟨x0, x1, x2, x3, x4, x5⟩ := HN.out.a.cells; have xl := HN.out.a.lt; obtain ⟨e0, e1, -, -⟩ := HE.out.cells; have el := HE.out.lt) | (go_at_call 24; (with_reducible refine (HLE.out _ HN.out).mono ?_); rintro e w4 ⟨rfl, hb4⟩; have HN := Aside0.mk (HN.out.below hb4); have HE := Aside0.mk (HE.out.below hb4); clear hb4 e0 e1 el; clear x0 x1 x2 x3 x4 x5 xl; obtain ⟨x0, x1, x2, x3, x4, x5⟩ := HN.out.a.cells; have xl := HN.out.a.lt; obtain ⟨e0, e1, -, -⟩ := HE.out.cells; have el := HE.out.lt) | (go_at_call 25; (with_reducible refine (HRO.out _ HN.out).mono ?_); rintro e w4 ⟨rfl, hb4⟩; have HN := Aside0.mk (HN.out.below hb4); have HE := Aside0.mk (HE.out.below hb4); clear hb4 e0 e1 el; clear x0 x1 x2 x3 x4 x5 xl; obtain ⟨x0, x1, x2, x3, x4, x5⟩ := HN.out.a.cells; have xl := HN.out.a.lt; obtain ⟨e0, e1, -, -⟩ := HE.out.cells; have el := HE.out.lt) | (go_at_call 26; (with_reducible refine (HCO.out _ HN.out).mono ?_); rintro e w4 ⟨rfl, hb4⟩; have HN := Aside0.mk (HN.out.below hb4); have HE := Aside0.mk (HE.out.below hb4); clear hb4 e0 e1 el; clear x0 x1 x2 x3 x4 x5 xl; obtain ⟨x0, x1, x2, x3, x4, x5⟩ := HN.out.a.cells; have xl := HN.out.a.lt; obtain ⟨e0, e1, -, -⟩ := HE.out.cells; have el := HE.out.lt))
      exact ⟨⟨2, _, rfl, by go_num, by decide, HN⟩, by decide⟩
    · obtain rfl : q = 2 := by omega
      clear hq hq0 hq1 l0 l1
      go_upto_region 17 with (first | (go_at_call 18; (with_reducible refine (HNW.out _ HN.out.b).mono ?_); rintro e w5 ⟨rfl, hs5, hb5⟩; have HS := Aside0.mk hs5; have HL5 := Aside0.mk (hs5.b.size); clear hs5 hb5) | (go_at_call 19; (with_reducible refine (HPQ.out _ _ HS.out).mono ?_); rintro e w7 ⟨rfl, va, vs, ad, xs, hn7⟩; have H2 := Aside0.mk hn7; obtain ⟨ra, rb', rc, rd', hxr⟩ := hn7.x; have HL : Aside0 (w.heap.size ≤ (w5.alloc (.cells #[.int .u64 1, .int .i64 2, .int .u64 2, .int .i64 1] 29)).heap.size) := ⟨Nat.le_trans HL5.out (by simp)⟩; have r0 := cell_of_row w7 _ 0 _ _ _ hxr; have r1 := cell_of_row w7 _ 1 _ _ _ hxr; have f0 := frozen_of_row w7 _ 0 _ _ hxr; have f1 := frozen_of_row w7 _ 1 _ _ hxr; clear hn7))
      have HM := Aside0.mk (H2.out.M.run0 H2.out.r H2.out.lt HL.out H2.out.le hxr (.int .u64 9) (.int .i64 9))
      have HP := Aside0.mk (⟨H2.out.p, H2.out.n⟩ : _ ∧ _)
      clear H2 r0 r1 f0 f1 hxr HN HL HPQ HNW
      generalize World.setCell (World.setCell w7 _ _) _ _ = W8 at *
      have HTQ : Aside0 (∀ W, SM w W wr1.heap.size 9 va vs ad xs 3 → Calls Try.prog 20 #[.pointer (some ⟨wr1.heap.size, 0, none⟩)] W fun e w' => ∃ A c, e = .returned (.agg #[.string qS, .slice A 2 c]) ∧ RR w' W.heap.size (sv A qL c) qL ∧ Below W.heap.size W w') := ⟨fun W h => text_ok h HP.out.1 rfl (by have := HP.out.2; omega)⟩
      go_wp2_with (first | (go_at_call 20; (with_reducible refine (HTQ.out _ HM.out).mono ?_); rintro e w9 ⟨A9, c9, rfl, hr9, hb9⟩; obtain ⟨g, eg, hg9⟩ := N3.new hr9 hb9; subst eg; have HG := Aside0.mk hg9; clear hr9 hb9 hg9; obtain ⟨b0, b1, -, -⟩ := HG.out.x.cells))
      go_loopw [91] (fun ii wr => ∃ (q : Nat) (wr2 : World), wr2 = wr ∧ ii = .int .i64 q ∧ q ≤ 2 ∧ Aside0 (N3 W8 wr2 g w9.heap.size c9)) (fun ii _ => 2 - (RowKit.intOf ii).toNat)
      case atStart => exact ⟨0, _, rfl, rfl, by decide, HG⟩
      case round =>
        clear HG
        obtain ⟨q, wr2, rfl, rfl, hq, HG⟩ := hrel
        obtain ⟨⟨v0, g0⟩, ⟨v1, g1⟩, ⟨v2, g2⟩, ⟨v3, g3⟩, h0, h1, h2, h3⟩ := HG.out.cells
        obtain ⟨b0, b1, -, -⟩ := HG.out.x.cells
        by_cases hq0 : q = 0
        · subst hq0
          go_wp2
          exact ⟨⟨1, _, rfl, by go_num, by decide, ⟨(HG.out.set 0 _).set 1 _⟩⟩, by decide⟩
        by_cases hq1 : q = 1
        · subst hq1
          go_wp2
          exact ⟨⟨2, _, rfl, by go_num, by decide, ⟨(HG.out.set 2 _).set 3 _⟩⟩, by decide⟩
        · obtain rfl : q = 2 := by omega
          clear hq hq0 hq1 g0 g1 g2 g3 h0 h1 h2 h3
          have HM2 := Aside0.mk (HM.out.below HG.out.b)
          have HSQ : Aside0 (∀ (W w10 : World) (A : Option Addr) (c : Nat), RR w10 W.heap.size (sv A qL c) qL → Calls Try.prog 16 #[.agg #[.string qS, .slice A 2 c], .agg #[.string ⟨#[97, 98, 99]⟩, .slice (some ⟨w10.heap.size, 0, none⟩) 2 2]] (w10.alloc (.cells #[.int .u64 1, .int .i64 2, .int .u64 2, .int .i64 1] 29)) fun e w' => e = .returned (.bool true) ∧ Below w10.heap.size w10 w') := ⟨fun W w10 A c hr => by
            have h1 := Kd.R_reads' (Kd.R_below hr (below_alloc (Below.refl _ _) (.cells #[.int .u64 1, .int .i64 2, .int .u64 2, .int .i64 1] 29)))
            refine (same_c qS qL (by decide) _ A (some ⟨w10.heap.size, 0, none⟩) c 2 h1.2.2 h1.2.1 (C_two _ _ 1 2 2 1 (heap_alloc_new _ _)) (by decide)).mono ?_
            rintro e w' ⟨rfl, hb⟩
            exact ⟨rfl, below_step (below_alloc (Below.refl _ _) _) hb⟩⟩
          go_wp2_with (first | (go_at_call 20; (with_reducible refine (HTQ.out _ HM2.out).mono ?_); rintro e w10 ⟨A10, c10, rfl, hr10, hb10⟩; have HR10 := Aside0.mk hr10; have HBE := Aside0.mk (below_step HM2.out.b hb10); clear hr10 hb10) | (go_at_call 16; (with_reducible refine (HSQ.out _ _ _ _ HR10.out).mono ?_); rintro e w11 ⟨rfl, hb11⟩; have HBE := Aside0.mk (below_step HBE.out hb11); clear hb11))
          go_ret
          exact ⟨rfl, HBE.out⟩
def bureaulaw05_PieceNobody.f (a0_0 : Int) (a0_1 : Int) (a0_2 : ByteArray) (l0_3 : List Rn) (a0_4 : Bool) (a0_5 : Bool) : Option Bool := some true
theorem bureaulaw05_PieceNobody.calls (a0_0 : Int) (a0_1 : Int) (a0_2 : ByteArray) (A0_3 : Option Addr) (c0_3 : Nat) (l0_3 : List Rn) (a0_4 : Bool) (a0_5 : Bool) (r : Bool) (w : World) (hr0_3 : Kd.C k29 w A0_3 l0_3.length l0_3) (hc0_3 : l0_3.length ≤ c0_3) (h : bureaulaw05_PieceNobody.f a0_0 a0_1 a0_2 l0_3 a0_4 a0_5 = some r) :
    Calls Try.prog 8 #[.agg #[.int .i64 a0_0, .int .i64 a0_1, .string a0_2, .slice A0_3 l0_3.length c0_3, .bool a0_4, .bool a0_5]] w fun e w' => e = .returned (.bool r) ∧ Below w.heap.size w w' := by
  cases h
  exact Nobody_w a0_0 a0_1 a0_2 A0_3 c0_3 l0_3 a0_4 a0_5 w

end Go.Proofs.Ytgaggoglbkcomaa.Ext
