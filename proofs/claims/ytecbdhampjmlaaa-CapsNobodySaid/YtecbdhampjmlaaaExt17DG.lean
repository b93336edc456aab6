/- caps: give, by its walk. -/
import Derived.Test.YtecbdhampjmlaaaExt17CG
import Derived.Test.YtecbdhampjmlaaaWMore
import Derived.RegionTactic
import Derived.BigRegion
import Derived.ChangeAlike
import Derived.WalkKit
import Derived.WalkMore
import Derived.Below
import Derived.KernelRfl
import Derived.LoopTactic
import Derived.Deep.RegionWith
import Derived.Deep.RegionHeld3
import Derived.IntWalk
import Derived.Deep.DeepCutAuto
import Derived.Deep.CutBlock
import Derived.BigQuiet
import Derived.Laws.RangeString
import Derived.Laws.RangeAny
import Derived.Laws.Rows
import Derived.Laws.Runes
import Derived.Lib.OthersKept
import Derived.OpenShut
set_option linter.unusedVariables false
set_option linter.unusedSimpArgs false
namespace Go.Proofs.Ytecbdhampjmlaaa.Ext
open Go.RowKit Go.Lib Go.Proofs.YtecbdhampjmlaaaW.PrintWords Go.Proofs.YtecbdhampjmlaaaW.PrintMore

theorem only_drewN {a w : World} {row : Option Nat} (h : a.grownBy w row) (n : Nat) : a.grownBy (w.drewN n) row := ⟨h.os, h.tape, h.output, h.size, h.block⟩
theorem only_setCell {a w : World} {g : Nat} (h : a.grownBy w (some g)) {p : Addr} (hp : p.block = g ∨ a.heap.size ≤ p.block) (u : Value) : a.grownBy (w.setCell p u) (some g) :=
  ⟨h.os, h.tape, h.output, by simpa [World.setCell] using h.size, fun i hi hne => (Below.heap_setCell w p u i (by
    rintro rfl
    rcases hp with hp | hp
    · exact hne (by rw [hp])
    · omega)).trans (h.block i hi hne)⟩
theorem only_of_below {a w : World} (h : Below a.heap.size a w) (row : Option Nat) : a.grownBy w row := ⟨h.os, h.tape, h.output, h.size, fun i hi _ => h.block i hi⟩
theorem only_trans {a b c : World} {row : Option Nat} (h : a.grownBy b row) (k : b.grownBy c row) : a.grownBy c row :=
  ⟨k.os.trans h.os, k.tape.trans h.tape, k.output.trans h.output, Nat.le_trans h.size k.size, fun i hi hn => (k.block i (Nat.lt_of_lt_of_le hi h.size) hn).trans (h.block i hi hn)⟩
theorem TRow.put {w : World} {R B : Nat} {l : List Sl} {g : Int} (h : TRow w R B l g) {i j : Nat} {v : Value} {s' : Sl} (hi : i < l.length) (hj : j < 7) (he : csl s' = (csl (atS l i)).set j v) (hg : 0 ≤ s'.gen ∧ s'.gen ≤ 65535) :
    TRow (w.setCell ⟨B, i * 7 + j, none⟩ v) R B (l.set i s') g := by
  refine ⟨?_, ?_, h.ne, by rw [List.length_set]; exact h.n, h.g, fun k => ?_⟩
  · obtain ⟨c, hc, e⟩ := h.t
    exact ⟨c, by rw [List.length_set]; exact hc, by rw [Below.heap_setCell w ⟨B, i * 7 + j, none⟩ v R h.ne, e, List.length_set]⟩
  · obtain ⟨rest, e⟩ := h.b
    exact ⟨rest, by rw [blk_set e, List.setIfInBounds_toArray, List.set_append_left _ _ (by rw [csls_len]; omega), csls_set l i j v s' hi hj he]⟩
  · rw [atS_set]
    split
    · exact hg
    · exact h.gens k
theorem TRow.putAll {w : World} {R B : Nat} {l : List Sl} {g : Int} (h : TRow w R B l g) {i : Nat} (hi : i < l.length) {gen obj rr owner us ug : Int} {c : Cp} {b : Bool} (hs : atS l i = ⟨gen, b, ⟨obj, rr, owner, us, ug⟩⟩) (hg : gen < g) :
    TRow (((((((w.setCell ⟨B, i * 7, none⟩ (.int .i64 (gen + 1))).setCell ⟨B, i * 7 + 1, none⟩ (.bool true)).setCell ⟨B, i * 7 + 2, none⟩ (.int .i64 c.obj)).setCell ⟨B, i * 7 + 2 + 1, none⟩ (.int .i64 c.rights)).setCell ⟨B, i * 7 + 2 + 2, none⟩ (.int .i64 c.owner)).setCell ⟨B, i * 7 + 2 + 3, none⟩ (.int .i64 c.us)).setCell ⟨B, i * 7 + 2 + 4, none⟩ (.int .i64 c.ug)) R B (l.set i ⟨gen + 1, true, c⟩) g := by
  have hgb := h.g
  have hgg := h.gens i
  rw [hs] at hgg
  simp only at hgg
  have bd : 0 ≤ gen + 1 ∧ gen + 1 ≤ 65535 := by omega
  have at1 : ∀ (l : List Sl) (s : Sl), i < l.length → atS (l.set i s) i = s := fun l s hi => by rw [atS_set, if_pos ⟨rfl, hi⟩]
  have h1 := h.put (j := 0) (v := .int .i64 (gen + 1)) (s' := ⟨gen + 1, b, ⟨obj, rr, owner, us, ug⟩⟩) hi (by decide) (by rw [hs]; rfl) bd
  have l1 : i < (l.set i ⟨gen + 1, b, ⟨obj, rr, owner, us, ug⟩⟩).length := by rw [List.length_set]; exact hi
  have h2 := h1.put (j := 1) (v := .bool true) (s' := ⟨gen + 1, true, ⟨obj, rr, owner, us, ug⟩⟩) l1 (by decide) (by rw [at1 _ _ hi]; rfl) bd
  rw [List.set_set] at h2
  have h3 := h2.put (i := i) (j := 2) (v := .int .i64 c.obj) (s' := ⟨gen + 1, true, ⟨c.obj, rr, owner, us, ug⟩⟩) (by rw [List.length_set]; exact hi) (by decide) (by rw [at1 _ _ hi]; rfl) bd
  rw [List.set_set] at h3
  have h4 := h3.put (i := i) (j := 3) (v := .int .i64 c.rights) (s' := ⟨gen + 1, true, ⟨c.obj, c.rights, owner, us, ug⟩⟩) (by rw [List.length_set]; exact hi) (by decide) (by rw [at1 _ _ hi]; rfl) bd
  rw [List.set_set] at h4
  have h5 := h4.put (i := i) (j := 4) (v := .int .i64 c.owner) (s' := ⟨gen + 1, true, ⟨c.obj, c.rights, c.owner, us, ug⟩⟩) (by rw [List.length_set]; exact hi) (by decide) (by rw [at1 _ _ hi]; rfl) bd
  rw [List.set_set] at h5
  have h6 := h5.put (i := i) (j := 5) (v := .int .i64 c.us) (s' := ⟨gen + 1, true, ⟨c.obj, c.rights, c.owner, c.us, ug⟩⟩) (by rw [List.length_set]; exact hi) (by decide) (by rw [at1 _ _ hi]; rfl) bd
  rw [List.set_set] at h6
  have h7 := h6.put (i := i) (j := 6) (v := .int .i64 c.ug) (s' := ⟨gen + 1, true, c⟩) (by rw [List.length_set]; exact hi) (by decide) (by rw [at1 _ _ hi]; rfl) bd
  rw [List.set_set] at h7
  exact h7
theorem only_drew {a w : World} {row : Option Nat} (h : a.grownBy w row) : a.grownBy w.drew row := ⟨h.os, h.tape, h.output, h.size, h.block⟩
theorem TRow.far {w : World} {R B : Nat} {l : List Sl} {g : Int} (h : TRow w R B l g) {p : Addr} (h1 : R ≠ p.block) (h2 : B ≠ p.block) (u : Value) : TRow (w.setCell p u) R B l g :=
  h.kept (Below.heap_setCell w p u R h1) (Below.heap_setCell w p u B h2)
theorem TRow.drew {w : World} {R B : Nat} {l : List Sl} {g : Int} (h : TRow w R B l g) : TRow w.drew R B l g := h.kept rfl rfl
theorem give_end {w w2 : World} {R B : Nat} {l : List Sl} {g : Int} {i T : Nat} (hT : TRow w2 R B l g) (hG : w.grownBy w2 (some B)) (hTR : T ≠ R) (hTB : T ≠ B) (hTn : w.heap.size ≤ T) (hi : i < l.length) {gen obj rr owner us ug : Int} {c : Cp} {b : Bool} (hs : atS l i = ⟨gen, b, ⟨obj, rr, owner, us, ug⟩⟩) (hg : gen < g) (x y : Value) :
    TRow (((((((((w2.setCell ⟨B, i * 7, none⟩ (.int .i64 (gen + 1))).setCell ⟨B, i * 7 + 1, none⟩ (.bool true)).setCell ⟨B, i * 7 + 2, none⟩ (.int .i64 c.obj)).setCell ⟨B, i * 7 + 2 + 1, none⟩ (.int .i64 c.rights)).setCell ⟨B, i * 7 + 2 + 2, none⟩ (.int .i64 c.owner)).setCell ⟨B, i * 7 + 2 + 3, none⟩ (.int .i64 c.us)).setCell ⟨B, i * 7 + 2 + 4, none⟩ (.int .i64 c.ug)).setCell ⟨T, 0, none⟩ x).setCell ⟨T, 1, none⟩ y).drew R B (l.set i ⟨gen + 1, true, c⟩) g ∧
    w.grownBy (((((((((w2.setCell ⟨B, i * 7, none⟩ (.int .i64 (gen + 1))).setCell ⟨B, i * 7 + 1, none⟩ (.bool true)).setCell ⟨B, i * 7 + 2, none⟩ (.int .i64 c.obj)).setCell ⟨B, i * 7 + 2 + 1, none⟩ (.int .i64 c.rights)).setCell ⟨B, i * 7 + 2 + 2, none⟩ (.int .i64 c.owner)).setCell ⟨B, i * 7 + 2 + 3, none⟩ (.int .i64 c.us)).setCell ⟨B, i * 7 + 2 + 4, none⟩ (.int .i64 c.ug)).setCell ⟨T, 0, none⟩ x).setCell ⟨T, 1, none⟩ y).drew (some B) := by
  refine ⟨TRow.drew (TRow.far (TRow.far (hT.putAll hi hs hg) (Ne.symm hTR) (Ne.symm hTB) x) (Ne.symm hTR) (Ne.symm hTB) y), only_drew ?_⟩
  exact only_setCell (only_setCell (only_setCell (only_setCell (only_setCell (only_setCell (only_setCell (only_setCell (only_setCell hG (.inl rfl) _) (.inl rfl) _) (.inl rfl) _) (.inl rfl) _) (.inl rfl) _) (.inl rfl) _) (.inl rfl) _) (.inr hTn) _) (.inr hTn) _
abbrev WG (w : World) (c : Cp) : World := (w.alloc (.cells #[.int .i64 c.obj, .int .i64 c.rights, .int .i64 c.owner, .int .i64 c.us, .int .i64 c.ug] 37)).alloc (.cells #[.int .i64 0, .int .i64 0] 28)
theorem find_first {g : Int} {l : List Sl} {k : Nat} (hk : k < l.length) (h : ∀ j, j < k → freeS g (atS l j) = false) (hf : freeS g (atS l k) = true) : l.findIdx? (freeS g) = some k := by
  rw [List.findIdx?_eq_some_iff_getElem]
  refine ⟨hk, by rw [← atS_lt hk]; exact hf, fun j hj => ?_⟩
  have := h j hj
  rw [atS_lt (by omega)] at this
  simp [this]
theorem find_none {g : Int} {l : List Sl} (h : ∀ j, j < l.length → freeS g (atS l j) = false) : l.findIdx? (freeS g) = none := by
  rw [List.findIdx?_eq_none_iff]
  intro x hx
  obtain ⟨j, hj, rfl⟩ := List.getElem_of_mem hx
  have := h j hj
  rwa [atS_lt hj] at this
def GiveP (w : World) (R B : Nat) (g : Int) (z : List Sl × Int × Int × Int) (e : Ending) (w' : World) : Prop :=
  e = .returned (.tuple #[vK z.2.1 z.2.2.1, .int .i64 z.2.2.2]) ∧ TRow w' R B z.1 g ∧ w.grownBy w' (some B)
set_option maxRecDepth 100000 in
set_option maxHeartbeats 8000000 in
theorem give_w (R B : Nat) (l : List Sl) (g : Int) (c : Cp) (w : World) (h : TRow w R B l g) :
    Calls Try.prog 29 #[.pointer (some ⟨R, 0, none⟩), vC c] w (GiveP w R B g (giveZ g l c)) := by
  have ltR := h.ltR
  have ltB := h.ltB
  have n := h.n
  obtain ⟨cc0, hcc0, c0⟩ := h.c0
  obtain ⟨obj, rights, owner, us, ug⟩ := c
  have hB0 : Below w.heap.size w (WG w ⟨obj, rights, owner, us, ug⟩) := ((Below.refl _ _).alloc (Nat.le_refl _) _).alloc (by simp) _
  have hTb := Aside0.mk (fun w1 (hb : Below (WG w ⟨obj, rights, owner, us, ug⟩).heap.size (WG w ⟨obj, rights, owner, us, ug⟩) w1) => h.below (hB0.trans (hb.mono hB0.size)))
  have HX := Aside0.mk (fun (w1 : World) (hb : Below (WG w ⟨obj, rights, owner, us, ug⟩).heap.size (WG w ⟨obj, rights, owner, us, ug⟩) w1) =>
    (show w1.heap[w.heap.size]? = some (.cells #[.int .i64 obj, .int .i64 rights, .int .i64 owner, .int .i64 us, .int .i64 ug] 37 (0, 0)) ∧ w1.heap[w.heap.size + 1]? = some (.cells #[.int .i64 0, .int .i64 0] 28 (0, 0)) from
      ⟨(hb.block _ (by simp; omega)).trans ((Below.heap_alloc _ _ _ (by simp)).trans (heap_alloc_new _ _)), (hb.block _ (by simp)).trans (by have := heap_alloc_new (w.alloc (.cells #[.int .i64 obj, .int .i64 rights, .int .i64 owner, .int .i64 us, .int .i64 ug] 37)) (.cells #[.int .i64 0, .int .i64 0] 28); simpa using this)⟩))
  have HB0 := Aside0.mk hB0
  clear hB0 h
  go_enter Try.func29, Try.ntmps29
  go_wp2
  go_loopw [13] (fun i wr => ∃ k : Nat, k ≤ l.length ∧ i = .int .i64 k ∧ Aside0 (Below (WG w ⟨obj, rights, owner, us, ug⟩).heap.size (WG w ⟨obj, rights, owner, us, ug⟩) wr) ∧ Aside0 (∀ j, j < k → freeS g (atS l j) = false)) (fun i _ => l.length - (intOf i).toNat)
  case atStart => exact ⟨0, Nat.zero_le _, rfl, ⟨Below.refl _ _⟩, ⟨fun j hj => by omega⟩⟩
  case round =>
    obtain ⟨k, hk, rfl, HB, HK⟩ := hrel
    have hlt0 : (WG w ⟨obj, rights, owner, us, ug⟩).heap.size = w.heap.size + 2 := by simp
    have hR := hTb.out wr HB.out
    have hLt := Aside0.mk HB.out.size
    by_cases hlt : k < l.length
    · obtain ⟨gen, alive, o2, r2, ow, u2, v2, hs⟩ := slEx (atS l k)
      obtain ⟨d0, d1, d2, d3, d4, d5, d6⟩ := hR.cs hlt hs
      obtain ⟨cc0, hcc0, c0⟩ := hR.c0
      have c1 := hR.c1
      obtain ⟨hc, hf⟩ := bcell HB.out
      have HF := Aside0.mk (fun w1 (hb : Below wr.heap.size wr w1) => free_w R B l g (atS l k) w1 (hR.below hb))
      have HR := Aside0.mk hR
      have hgn := hR.gens k
      rw [hs] at hgn
      simp only at hgn
      obtain ⟨hg0, hg1⟩ := hgn
      clear hR
      rw [hs] at HF
      have HS := Aside0.mk hs
      clear hs
      cases hfr : freeS g ⟨gen, alive, ⟨o2, r2, ow, u2, v2⟩⟩
      · rw [hfr] at HF
        have HFR := Aside0.mk hfr
        clear hfr
        go_wp2_with (go_at_call 34; (with_reducible refine (HF.out _ ?sf).mono ?_); (case sf => exact Below.refl _ _); rintro e w2 ⟨rfl, hb2⟩)
        exact ⟨⟨k + 1, by omega, by go_num, ⟨HB.out.trans (hb2.mono HB.out.size)⟩, ⟨fun j hj => by
          by_cases e : j = k
          · subst e; rw [HS.out]; exact HFR.out
          · exact HK.out j (by omega)⟩⟩, by simp [intOf]; omega⟩
      · rw [hfr] at HF
        have HFR := Aside0.mk hfr
        clear hfr
        go_wp2_with (go_at_call 34; (with_reducible refine (HF.out _ ?sf).mono ?_); (case sf => exact Below.refl _ _); rintro e w2 ⟨rfl, hb2⟩; have hB2 := HB.out.trans (hb2.mono HB.out.size); have HR2 := Aside0.mk (HR.out.below hb2); obtain ⟨x0, x1⟩ := HX.out w2 hB2; have HB2 := Aside0.mk hB2; obtain ⟨d0, d1, d2, d3, d4, d5, d6⟩ := HR2.out.cs hlt HS.out; have f0 := HR2.out.frozen (k * 7); have f1 := HR2.out.frozen (k * 7 + 1); have f2 := HR2.out.frozen (k * 7 + 2); have f3 := HR2.out.frozen (k * 7 + 2 + 1); have f4 := HR2.out.frozen (k * 7 + 2 + 2); have f5 := HR2.out.frozen (k * 7 + 2 + 3); have f6 := HR2.out.frozen (k * 7 + 2 + 4); have b0 := cell_of_row w2 w.heap.size 0 _ _ _ x0; have b1 := cell_of_row w2 w.heap.size 1 _ _ _ x0; have b2 := cell_of_row w2 w.heap.size 2 _ _ _ x0; have b3 := cell_of_row w2 w.heap.size 3 _ _ _ x0; have b4 := cell_of_row w2 w.heap.size 4 _ _ _ x0; have t0 := cell_of_row w2 (w.heap.size + 1) 0 _ _ _ x1; have t1 := cell_of_row w2 (w.heap.size + 1) 1 _ _ _ x1; have u0 := frozen_of_row w2 (w.heap.size + 1) 0 _ _ x1; have u1 := frozen_of_row w2 (w.heap.size + 1) 1 _ _ x1; simp only [List.getElem?_toArray, List.getElem?_cons_zero, List.getElem?_cons_succ] at b0 b1 b2 b3 b4 t0 t1; have X0 := Aside0.mk x0; have X1 := Aside0.mk x1; clear x0 x1 hB2 hb2)
        go_region
        go_wp2
        have hgg : gen < g := by
          have := HFR.out
          unfold freeS at this
          rw [Bool.and_eq_true, decide_eq_true_eq] at this
          exact this.2
        have ez : giveZ g l ⟨obj, rights, owner, us, ug⟩ = (l.set k ⟨gen + 1, true, ⟨obj, rights, owner, us, ug⟩⟩, (k : Int), gen + 1, 0) := by
          unfold giveZ
          rw [find_first hlt HK.out (by rw [HS.out]; exact HFR.out)]
          simp only
          rw [HS.out]
        rw [ez]
        have hRB : R < w2.heap.size ∧ B < w2.heap.size := ⟨HR2.out.ltR, HR2.out.ltB⟩
        have hend := give_end (T := w.heap.size + 1) (c := ⟨obj, rights, owner, us, ug⟩) HR2.out (only_of_below (HB0.out.trans (HB2.out.mono HB0.out.size)) (some B)) (by omega) (by omega) (Nat.le_succ _) hlt HS.out hgg (.int .i64 (k : Int)) (.int .i64 (gen + 1))
        exact bodyPost_ret (v := .tuple #[vK (k : Int) (gen + 1), .int .i64 0]) (by simp [results, Try.results29, go_sem, t0, t1]) rfl ⟨rfl, hend.1, hend.2⟩
    · obtain rfl : k = l.length := by omega
      obtain ⟨x0, x1⟩ := HX.out wr HB.out
      have t0 := cell_of_row wr (w.heap.size + 1) 0 _ _ _ x1
      have t1 := cell_of_row wr (w.heap.size + 1) 1 _ _ _ x1
      have u0 := frozen_of_row wr (w.heap.size + 1) 0 _ _ x1
      have u1 := frozen_of_row wr (w.heap.size + 1) 1 _ _ x1
      simp only [List.getElem?_toArray, List.getElem?_cons_zero, List.getElem?_cons_succ] at t0 t1
      have ez : giveZ g l ⟨obj, rights, owner, us, ug⟩ = (l, 0, 0, 4) := by
        unfold giveZ
        rw [find_none HK.out]
      have EZ := Aside0.mk ez
      have HR := Aside0.mk hR
      have hRB : R < wr.heap.size ∧ B < wr.heap.size := ⟨hR.ltR, hR.ltB⟩
      clear hR ez x0 x1
      go_wp2
      rw [EZ.out]
      have hG := only_of_below (HB0.out.trans (HB.out.mono HB0.out.size)) (some B)
      exact bodyPost_ret (v := .tuple #[vK 0 0, .int .i64 4]) (by simp [results, Try.results29, go_sem, t0, t1]) rfl ⟨rfl, TRow.far (TRow.far HR.out (p := ⟨w.heap.size + 1, 0, none⟩) (by show R ≠ w.heap.size + 1; omega) (by show B ≠ w.heap.size + 1; omega) _) (p := ⟨w.heap.size + 1, 1, none⟩) (by show R ≠ w.heap.size + 1; omega) (by show B ≠ w.heap.size + 1; omega) _, only_setCell (only_setCell hG (p := ⟨w.heap.size + 1, 0, none⟩) (.inr (Nat.le_succ _)) _) (p := ⟨w.heap.size + 1, 1, none⟩) (.inr (Nat.le_succ _)) _⟩

end Go.Proofs.Ytecbdhampjmlaaa.Ext
