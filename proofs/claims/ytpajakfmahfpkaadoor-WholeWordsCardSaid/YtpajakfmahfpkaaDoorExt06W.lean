/- line.last, line.First and line.Place: their walks; and the contracts of 'line', in plain words. -/
import Derived.Test.YtpajakfmahfpkaaDoorExt06P
import Derived.Test.YtpajakfmahfpkaaDoorHelpA
import Derived.Test.YtpajakfmahfpkaaDoorHelpC
import Derived.Test.YtpajakfmahfpkaaDoorWMore
import Derived.WalkKit
import Derived.WalkMore
import Derived.Below
import Derived.KernelRfl
import Derived.LoopTactic
import Derived.Deep.RegionWith
import Derived.Deep.RegionHeld3
import Derived.IntWalk
import Derived.Deep.DeepCutAuto
import Derived.Deep.CutBlock
import Derived.BigQuiet
import Derived.Laws.RangeString
import Derived.Laws.RangeAny
import Derived.Laws.Rows
import Derived.Laws.Runes
import Derived.Lib.OthersKept
import Derived.OpenShut
set_option linter.unusedVariables false
set_option linter.unusedSimpArgs false
namespace Go.Proofs.YtpajakfmahfpkaaDoor.Ext
open Go.RowKit Go.Lib Go.Proofs.YtpajakfmahfpkaaDoorW.PrintWords Go.Proofs.YtpajakfmahfpkaaDoorW.PrintMore Go.Proofs.YtpajakfmahfpkaaDoor.HelpA Go.Proofs.YtpajakfmahfpkaaDoor.HelpC

theorem sub_get (s : ByteArray) (p q : Nat) : sub s p q = scan (s.extract p q) (s.extract p q).size 0 := rfl
set_option maxRecDepth 1000000 in
theorem last_walk (s : ByteArray) (p q : Nat) (w : World) (hs : s.size < 1000000) (hp : p ≤ q) (hq : q ≤ s.size) (hT : Tabs w) :
    Calls Tryd.prog 60 #[.string s, .int .i64 (p : Int), .int .i64 (q : Int)] w fun e w' => e = .returned (.int .i64 (lastZ s p q : Int)) ∧ Below w.heap.size w w' := by
  by_cases hpq : p = q
  · have hl : lastZ s p q = p := by unfold lastZ; rw [if_pos hpq]
    have e1 : ((p : Int) == (q : Int)) = true := by rw [hpq]; exact beq_self_eq_true _
    rw [hl]
    go_enter Tryd.func60, Tryd.ntmps60
    go_wp2
    go_ret
    exact ⟨rfl, Below.refl _ _⟩
  · have hl : lastZ s p q = alignZ s ((q : Int) - 1) := by unfold lastZ; rw [if_neg hpq]
    have e1 : ((p : Int) == (q : Int)) = false := by rw [beq_eq_false_iff_ne]; omega
    have cA := glyph_Align.calls (0 + 10) s ((q : Int) - 1) _ w (alignP_eq s hs ((q : Int) - 1) 0) hT
    rw [hl]
    clear hl hpq
    go_enter Tryd.func60, Tryd.ntmps60
    go_wp2_with (go_at_call 30; refine cA.mono ?_; rintro e w2 ⟨rfl, hb⟩)
    go_ret
    exact ⟨rfl, hb⟩

theorem fst_hit (x : Nat × Nat × Nat) (l : List (Nat × Nat × Nat)) (p d : Nat) (h : (classZ (x.2.1 : Int) != 0) = true) : fstFrom (x :: l) p d = p + x.1 := by
  have e : (x :: l).find? (fun x => classZ (x.2.1 : Int) != 0) = some x := List.find?_cons_of_pos (p := fun x : Nat × Nat × Nat => classZ (x.2.1 : Int) != 0) h
  unfold fstFrom
  rw [e]
theorem fst_miss (x : Nat × Nat × Nat) (l : List (Nat × Nat × Nat)) (p d : Nat) (h : (classZ (x.2.1 : Int) != 0) = false) : fstFrom (x :: l) p d = fstFrom l p d := by
  have e : (x :: l).find? (fun x => classZ (x.2.1 : Int) != 0) = l.find? (fun x => classZ (x.2.1 : Int) != 0) := List.find?_cons_of_neg (p := fun x : Nat × Nat × Nat => classZ (x.2.1 : Int) != 0) (by rw [h]; decide)
  unfold fstFrom
  rw [e]
theorem fst_nil (p d : Nat) : fstFrom [] p d = d := rfl
set_option maxRecDepth 1000000 in
theorem First_core (s x : ByteArray) (n : Int) (p q d : Nat) (w : World) (hs : s.size < 1000000) (hp : p ≤ q) (hq : q ≤ s.size) (hx : s.extract p q = x) (hsz : x.size = q - p) (hT : Tabs w)
    (cI : Calls Tryd.prog 56 #[.string s, .int .i64 n] w fun e w' => e = .returned (.tuple #[.int .i64 (p : Int), .int .i64 (q : Int)]) ∧ Below w.heap.size w w')
    (cL : ∀ w1, Tabs w1 → Calls Tryd.prog 60 #[.string s, .int .i64 (p : Int), .int .i64 (q : Int)] w1 fun e w' => e = .returned (.int .i64 (d : Int)) ∧ Below w1.heap.size w1 w')
    (cC : ∀ (r : Int) w1, Tabs w1 → Calls Tryd.prog 54 #[.int .i32 r] w1 fun e w' => e = .returned (.int .i64 (classZ r)) ∧ Drawn0 w1 w') :
    Calls Tryd.prog 28 #[.string s, .int .i64 n] w fun e w' => e = .returned (.int .i64 (fstFrom (scan x x.size 0) p d : Int)) ∧ Below w.heap.size w w' := by
  have c0 : (0 : Int) ≤ (p : Int) := by omega
  have c1 : (p : Int) ≤ (q : Int) := by omega
  have c2 : (q : Int) ≤ (s.size : Int) := by omega
  have hx' : s.extract (p : Int).toNat (q : Int).toNat = x := by rw [Int.toNat_natCast, Int.toNat_natCast, hx]
  have hxq : x.size + p ≤ q := by omega
  clear hsz
  go_enter Tryd.func28, Tryd.ntmps28
  go_wp2_with (go_at_call 56; refine cI.mono ?_; rintro e w1 ⟨rfl, hb1⟩)
  go_loopw [] (fun w' => ∃ (pos b : Nat), Aside0 (w'.heap[w1.heap.size]? = some (.stringIter x pos)) ∧ Aside0 (Below w.heap.size w w') ∧ Aside0 (fstFrom (scan x b pos) p d = fstFrom (scan x x.size 0) p d) ∧ x.size ≤ pos + b) (fun w' => x.size - w'.iterPos w1.heap.size)
  case atStart => exact ⟨0, x.size, ⟨World.iter_heap w1 x 0⟩, ⟨hb1.alloc hb1.size _⟩, ⟨rfl⟩, by omega⟩
  case round =>
    obtain ⟨pos, b, ⟨hk⟩, ⟨hB⟩, HC, hb⟩ := hrel
    by_cases hpx : pos < x.size
    · have hwd := width_pos x pos hpx
      have hfit := width_fits x pos hpx
      cases b with
      | zero => omega
      | succ b =>
        have hnx0 : ∀ ty, (Instr.next (.pointer (some ⟨w1.heap.size, 0, none⟩)) true ty).run Tryd.prog _ = _ := fun ty => run_next_any_at _ w1.heap.size x pos ty hk hpx
        have hcons : (scan x (b + 1) pos) = (pos, (Utf8.decode x pos).1, (Utf8.decode x pos).2) :: scan x b (pos + (Utf8.decode x pos).2) := by
          rw [scan, if_pos hpx]
        have HC1 := HC.out
        rw [hcons] at HC1
        obtain ⟨q', hq'⟩ : ∃ q', pos + (Utf8.decode x pos).2 = q' := ⟨_, rfl⟩
        obtain ⟨R, hR⟩ : ∃ R : Int, ((Utf8.decode x pos).1 : Int) = R := ⟨_, rfl⟩
        have hnx : ∀ ty, (Instr.next (.pointer (some ⟨w1.heap.size, 0, none⟩)) true ty).run Tryd.prog _ = .ok (.tuple #[.bool true, .int .i64 pos, .int .i32 R]) _ := fun ty => by rw [hnx0 ty, hR, hq']
        rw [hq'] at HC1 hfit
        have hB1 : Below w.heap.size w _ := below_iterAt hB hb1.size x q'
        have HK1 := Aside0.mk (iterAt_heap _ w1.heap.size x pos q' hk)
        have HB := Aside0.mk hB1
        have hpq : pos < q' := by omega
        have HT := Aside0.mk (hT.below hB1 (Nat.le_refl _))
        have hlt1 := (Array.getElem?_eq_some_iff.1 HK1.out).1
        have cK := cC R _ HT.out
        have hpos : (pos : Int) < 1000000 := by omega
        have hclear := hwd
        clear hwd hnx0 hB1 hB hclear
        by_cases hcl : (classZ R != 0) = true
        · rw [fst_hit _ _ _ _ (by rw [hR]; exact hcl)] at HC1
          have HC2 := Aside0.mk HC1
          clear HC1 HC hR hq' hcons
          go_wp2_with (go_at_call 54; refine cK.mono ?_; rintro e w3 ⟨rfl, hd3⟩)
          go_ret
          exact ⟨by rw [← HC2.out]; first | rfl | (simp; done), HB.out.trans (hd3.below.mono HB.out.size)⟩
        · have hcf : (classZ R != 0) = false := by simpa using hcl
          rw [fst_miss _ _ _ _ (by rw [hR]; exact hcf)] at HC1
          have HC2 := Aside0.mk HC1
          clear HC1 HC hR hq' hcons hcl
          go_wp2_with (go_at_call 54; refine cK.mono ?_; rintro e w3 ⟨rfl, hd3⟩)
          have hk2 := (hd3.below.block _ hlt1).trans HK1.out
          go_roundw
          case rel => exact ⟨q', b, ⟨hk2⟩, ⟨HB.out.trans (hd3.below.mono HB.out.size)⟩, HC2, by omega⟩
          case measure =>
            simp only [World.iterPos, hk2, hk]
            omega
    · have hnx : ∀ ty, (Instr.next (.pointer (some ⟨w1.heap.size, 0, none⟩)) true ty).run Tryd.prog _ = _ := fun ty => run_next_end_at _ w1.heap.size x pos ty hk hpx
      have HC1 := HC.out
      rw [scan_end x b pos hpx, fst_nil] at HC1
      have HB := Aside0.mk hB
      have HT := Aside0.mk (hT.below hB (Nat.le_refl _))
      have HC2 := Aside0.mk HC1
      clear hB HC1 HC
      have cL2 := cL _ HT.out
      go_wp2_with (go_at_call 60; refine cL2.mono ?_; rintro e w3 ⟨rfl, hb3⟩)
      go_ret
      exact ⟨congrArg (fun z : Nat => Ending.returned (Value.int .i64 (z : Int))) HC2.out, HB.out.trans (hb3.mono (HB.out.size))⟩
theorem First_walk (s : ByteArray) (n : Int) (w : World) (hs : s.size < 1000000) (hT : Tabs w) :
    Calls Tryd.prog 28 #[.string s, .int .i64 n] w fun e w' => e = .returned (.int .i64 (firstZ s n : Int)) ∧ Below w.heap.size w w' := by
  have hI := into_eq s (by omega) n 0
  have cI := line_into.calls _ s n _ _ w hI hT
  obtain ⟨hp, hq⟩ := bT_le s (intoZ s n) (intoZ_lt s n)
  show Calls _ _ _ _ (fun e w' => e = .returned (.int .i64 (fstFrom (scan (s.extract (bF s (intoZ s n)) (bT s (intoZ s n))) (s.extract (bF s (intoZ s n)) (bT s (intoZ s n))).size 0) (bF s (intoZ s n)) (lastZ s (bF s (intoZ s n)) (bT s (intoZ s n))) : Int)) ∧ Below w.heap.size w w')
  exact First_core s _ n _ _ _ w hs hp hq rfl (size_sub s _ _ hq hp) hT cI (fun w1 h1 => last_walk s _ _ w1 hs hp hq h1) (fun r w1 h1 => glyph_Class.calls (0 + 4) r _ w1 (class_eq 0 r) h1)
/-! ### Place -/
theorem pl_hit (x : Nat × Nat × Nat) (l : List (Nat × Nat × Nat)) (c : Int) (p d : Nat) (h : c ≤ 0) : plFrom (x :: l) c p d = p + x.1 := by
  unfold plFrom
  rw [show (max c 0).toNat = 0 by omega]
  rfl
theorem pl_miss (x : Nat × Nat × Nat) (l : List (Nat × Nat × Nat)) (c : Int) (p d : Nat) (h : ¬ c ≤ 0) : plFrom (x :: l) c p d = plFrom l (c - 1) p d := by
  unfold plFrom
  rw [show (max c 0).toNat = (max (c - 1) 0).toNat + 1 by omega, List.getElem?_cons_succ]
theorem pl_nil (c : Int) (p d : Nat) : plFrom [] c p d = d := rfl
set_option maxRecDepth 1000000 in
theorem Place_core (s x : ByteArray) (n c : Int) (p q d : Nat) (w : World) (hs : s.size < 1000000) (hp : p ≤ q) (hq : q ≤ s.size) (hx : s.extract p q = x) (hsz : x.size = q - p) (hT : Tabs w)
    (hcl : -9223372036854775808 ≤ c) (hch : c ≤ 9223372036854775807)
    (cI : Calls Tryd.prog 56 #[.string s, .int .i64 n] w fun e w' => e = .returned (.tuple #[.int .i64 (p : Int), .int .i64 (q : Int)]) ∧ Below w.heap.size w w')
    (cL : ∀ w1, Tabs w1 → Calls Tryd.prog 60 #[.string s, .int .i64 (p : Int), .int .i64 (q : Int)] w1 fun e w' => e = .returned (.int .i64 (d : Int)) ∧ Below w1.heap.size w1 w') :
    Calls Tryd.prog 26 #[.string s, .int .i64 n, .int .i64 c] w fun e w' => e = .returned (.int .i64 (plFrom (scan x x.size 0) c p d : Int)) ∧ Below w.heap.size w w' := by
  have c0 : (0 : Int) ≤ (p : Int) := by omega
  have c1 : (p : Int) ≤ (q : Int) := by omega
  have c2 : (q : Int) ≤ (s.size : Int) := by omega
  have hx' : s.extract (p : Int).toNat (q : Int).toNat = x := by rw [Int.toNat_natCast, Int.toNat_natCast, hx]
  have hxq : x.size + p ≤ q := by omega
  clear hsz
  go_enter Tryd.func26, Tryd.ntmps26
  go_wp2_with (go_at_call 56; refine cI.mono ?_; rintro e w1 ⟨rfl, hb1⟩)
  go_loopw [2] (fun v w' => ∃ (pos b : Nat) (cc : Int), v = .int .i64 cc ∧ -9223372036854775808 ≤ cc ∧ cc ≤ 9223372036854775807 ∧ Aside0 (w'.heap[w1.heap.size]? = some (.stringIter x pos)) ∧ Aside0 (Below w.heap.size w w') ∧ Aside0 (plFrom (scan x b pos) cc p d = plFrom (scan x x.size 0) c p d) ∧ x.size ≤ pos + b) (fun _ w' => x.size - w'.iterPos w1.heap.size)
  case atStart => exact ⟨0, x.size, c, rfl, hcl, hch, ⟨World.iter_heap w1 x 0⟩, ⟨hb1.alloc hb1.size _⟩, ⟨rfl⟩, by omega⟩
  case round =>
    obtain ⟨pos, b, cc, rfl, hl, hh, ⟨hk⟩, ⟨hB⟩, HC, hb⟩ := hrel
    by_cases hpx : pos < x.size
    · have hwd := width_pos x pos hpx
      have hfit := width_fits x pos hpx
      cases b with
      | zero => omega
      | succ b =>
        have hnx0 : ∀ ty, (Instr.next (.pointer (some ⟨w1.heap.size, 0, none⟩)) true ty).run Tryd.prog _ = _ := fun ty => run_next_any_at _ w1.heap.size x pos ty hk hpx
        have hcons : (scan x (b + 1) pos) = (pos, (Utf8.decode x pos).1, (Utf8.decode x pos).2) :: scan x b (pos + (Utf8.decode x pos).2) := by
          rw [scan, if_pos hpx]
        have HC1 := HC.out
        rw [hcons] at HC1
        obtain ⟨q', hq'⟩ : ∃ q', pos + (Utf8.decode x pos).2 = q' := ⟨_, rfl⟩
        obtain ⟨R, hR⟩ : ∃ R : Int, ((Utf8.decode x pos).1 : Int) = R := ⟨_, rfl⟩
        have hnx : ∀ ty, (Instr.next (.pointer (some ⟨w1.heap.size, 0, none⟩)) true ty).run Tryd.prog _ = .ok (.tuple #[.bool true, .int .i64 pos, .int .i32 R]) _ := fun ty => by rw [hnx0 ty, hR, hq']
        rw [hq'] at HC1 hfit
        have hB1 : Below w.heap.size w _ := below_iterAt hB hb1.size x q'
        have HK1 := Aside0.mk (iterAt_heap _ w1.heap.size x pos q' hk)
        have HB := Aside0.mk hB1
        have hpq : pos < q' := by omega
        have hlt1 := (Array.getElem?_eq_some_iff.1 HK1.out).1
        have hpos : (pos : Int) < 1000000 := by omega
        clear hwd hnx0 hB1 hB
        by_cases hcl : cc ≤ 0
        · rw [pl_hit _ _ _ _ _ hcl] at HC1
          have HC2 := Aside0.mk HC1
          clear HC1 HC hR hq' hcons
          go_wp2
          go_ret
          exact ⟨congrArg (fun z : Nat => Ending.returned (Value.int .i64 (z : Int))) HC2.out, HB.out⟩
        · rw [pl_miss _ _ _ _ _ hcl] at HC1
          have HC2 := Aside0.mk HC1
          clear HC1 HC hR hq' hcons
          go_wp2
          go_roundw
          case rel => exact ⟨q', b, cc - 1, rfl, by omega, by omega, HK1, HB, HC2, by omega⟩
          case measure =>
            simp only [World.iterPos, HK1.out, hk]
            omega
    · have hnx : ∀ ty, (Instr.next (.pointer (some ⟨w1.heap.size, 0, none⟩)) true ty).run Tryd.prog _ = _ := fun ty => run_next_end_at _ w1.heap.size x pos ty hk hpx
      have HC1 := HC.out
      rw [scan_end x b pos hpx, pl_nil] at HC1
      have HB := Aside0.mk hB
      have HT := Aside0.mk (hT.below hB (Nat.le_refl _))
      have HC2 := Aside0.mk HC1
      clear hB HC1 HC
      have cL2 := cL _ HT.out
      go_wp2_with (go_at_call 60; refine cL2.mono ?_; rintro e w3 ⟨rfl, hb3⟩)
      go_ret
      exact ⟨congrArg (fun z : Nat => Ending.returned (Value.int .i64 (z : Int))) HC2.out, HB.out.trans (hb3.mono (HB.out.size))⟩
theorem Place_walk (s : ByteArray) (n c : Int) (w : World) (hs : s.size < 1000000) (hcl : -9223372036854775808 ≤ c) (hch : c ≤ 9223372036854775807) (hT : Tabs w) :
    Calls Tryd.prog 26 #[.string s, .int .i64 n, .int .i64 c] w fun e w' => e = .returned (.int .i64 (placeZ s n c : Int)) ∧ Below w.heap.size w w' := by
  have hI := into_eq s (by omega) n 0
  have cI := line_into.calls _ s n _ _ w hI hT
  obtain ⟨hp, hq⟩ := bT_le s (intoZ s n) (intoZ_lt s n)
  show Calls _ _ _ _ (fun e w' => e = .returned (.int .i64 (plFrom (scan (s.extract (bF s (intoZ s n)) (bT s (intoZ s n))) (s.extract (bF s (intoZ s n)) (bT s (intoZ s n))).size 0) c (bF s (intoZ s n)) (lastZ s (bF s (intoZ s n)) (bT s (intoZ s n))) : Int)) ∧ Below w.heap.size w w')
  exact Place_core s _ n c _ _ _ w hs hp hq rfl (size_sub s _ _ hq hp) hT hcl hch cI (fun w1 h1 => last_walk s _ _ w1 hs hp hq h1)

end Go.Proofs.YtpajakfmahfpkaaDoor.Ext
