/- The law RegsNobody, by its walk. -/
import Derived.Test.YtbcbfmhcoemnpaaExt09N
import Derived.Test.YtbcbfmhcoemnpaaExt09K
import Derived.Test.YtbcbfmhcoemnpaaXRRx2
import Derived.Test.YtbcbfmhcoemnpaaXRRx3
import Derived.Test.YtbcbfmhcoemnpaaXRRx4
import Derived.Test.YtbcbfmhcoemnpaaXRRx0
import Derived.Test.YtbcbfmhcoemnpaaXRNx0
import Derived.Test.YtbcbfmhcoemnpaaWMore
import Derived.WalkKit
import Derived.WalkMore
import Derived.Below
import Derived.KernelRfl
import Derived.LoopTactic
import Derived.Deep.RegionWith
import Derived.Deep.RegionHeld3
import Derived.IntWalk
import Derived.Deep.DeepCutAuto
import Derived.Deep.CutBlock
import Derived.BigQuiet
import Derived.Laws.RangeString
import Derived.Laws.RangeAny
import Derived.Laws.Rows
import Derived.Laws.Runes
import Derived.Lib.OthersKept
import Derived.OpenShut
set_option linter.unusedVariables false
set_option linter.unusedSimpArgs false
namespace Go.Proofs.Ytbcbfmhcoemnpaa.Ext
open Go.RowKit Go.Lib Go.Proofs.YtbcbfmhcoemnpaaW.PrintWords Go.Proofs.YtbcbfmhcoemnpaaW.PrintMore Go.Proofs.Ytbcbfmhcoemnpaa.XRR

/-- What the law's first loop has about it. -/
structure NR (w W : World) (Y Z : Nat) (av zv : Array Value) : Prop where
  bl : Below w.heap.size w W
  ax : W.heap[w.heap.size]? = some (.cells av 42 (0, 0))
  y : W.heap[Y]? = some (.cells #[.pointer none, .pointer (some ⟨Z, 0, none⟩)] 24 (0, 0))
  z : W.heap[Z]? = some (.cells zv 53 (0, 0))
theorem NR.below {w W W' : World} {Y Z : Nat} {av zv : Array Value} (h : NR w W Y Z av zv) (hb : Below W.heap.size W W') : NR w W' Y Z av zv :=
  ⟨below_step h.bl hb, (hb.block _ (blk_lt h.ax)).trans h.ax, (hb.block _ (blk_lt h.y)).trans h.y, (hb.block _ (blk_lt h.z)).trans h.z⟩
theorem NR.facts {w W : World} {Y Z : Nat} {n : Int} {s : ByteArray} {v : Value} {b cut wide : Bool} {zv : Array Value} (h : NR w W Y Z #[.int .i32 n, .string s, v, .bool b, .bool cut, .bool wide] zv) : W.cell? ⟨w.heap.size, 0, none⟩ = some (.int .i32 n) ∧ W.cell? ⟨w.heap.size, 1, none⟩ = some (.string s) ∧ W.cell? ⟨w.heap.size, 2, none⟩ = some v ∧ W.cell? ⟨w.heap.size, 3, none⟩ = some (.bool b) ∧ W.cell? ⟨w.heap.size, 5, none⟩ = some (.bool wide) ∧ w.heap.size < W.heap.size :=
  ⟨cell_of_row _ _ 0 _ _ _ h.ax, cell_of_row _ _ 1 _ _ _ h.ax, cell_of_row _ _ 2 _ _ _ h.ax, cell_of_row _ _ 3 _ _ _ h.ax, cell_of_row _ _ 5 _ _ _ h.ax, blk_lt h.ax⟩
theorem nil_C (W : World) : Kd.C k58 W none ([] : List Rn).length [] := by
  obtain ⟨A, c, e, -, h⟩ := Kd.R_reads (Kd.R_nil k58 58 W 0 (fun _ => True))
  injection e with e _ _
  subst e
  exact h
abbrev oneR1 (W : World) (base : Nat) (A : Option Addr) (c : Nat) : Prop := Kd.R k58 58 W base (fun _ => True) (.slice A 1 c) ([⟨1, 1⟩] : List Rn)
theorem one_row {W : World} {base c : Nat} {A : Option Addr} (h : oneR1 W base A c) : ∃ X, A = some ⟨X, 0, none⟩ ∧ base ≤ X ∧ X < W.heap.size ∧ (∃ cells, W.heap[X]? = some (.cells cells 58 (0, 0))) ∧ W.cell? ⟨X, 0, none⟩ = some (.int .u64 1) ∧ W.cell? ⟨X, 1, none⟩ = some (.int .i64 1) := by
  obtain ⟨ad, c1, e1⟩ := Kd.R_slice1 h (by decide)
  injection e1 with e1 _ _
  subst e1
  obtain ⟨X, rfl⟩ := Kd.R_head h
  obtain ⟨-, hb, hlt, q, hq, cells, hc⟩ := (Kd.R_bound h).1 X rfl
  have hq : q = 58 := by
    rcases List.mem_cons.1 hq with e | e
    · exact e
    · exact (List.not_mem_nil e).elim
  subst hq
  obtain ⟨ad2, cs, eA, hl, hK, hcell⟩ := Kd.C_get (Kd.R_reads' h).2.2 (⟨0, 0⟩ : Rn) 0 (by decide) (by decide)
  injection eA with eA
  subst eA
  rw [show ([⟨1, 1⟩] : List Rn).getD (0 : Int).toNat ⟨0, 0⟩ = ⟨1, 1⟩ from rfl] at hK
  have hcs := k58_open hK
  subst hcs
  exact ⟨X, rfl, hb, hlt, ⟨cells, hc⟩, hcell 0 _ rfl, hcell 1 _ rfl⟩
theorem RG.nil_base {W : World} {B : Nat} (h : RG 0 W B (List.replicate 38 hz) (List.replicate 38 nilS)) : RG W.heap.size W B (List.replicate 38 hz) (List.replicate 38 nilS) :=
  ⟨h.x, h.n, h.m, fun i hi => by
    rw [vd, gd, List.getD_eq_getElem?_getD, List.getD_eq_getElem?_getD, List.getElem?_replicate, List.getElem?_replicate, if_pos hi, if_pos hi]
    exact Kd.R_nil _ _ _ _ _, Nat.le_refl _⟩
/-- A store into a block that is older than all the registers' own. -/
theorem RG.older {bs : Nat} {w w' : World} {B X : Nat} {g : List Hs} {vs : List Value} (h : RG bs w B g vs) (hX : X < bs) (hne : X ≠ B) (hG : w.grownBy w' (some X)) : RG bs w' B g vs :=
  ⟨blk_grown h.x hG (fun e => hne (by injection e with e; exact e.symm)), h.n, h.m, fun i hi => Kd.R_mono (Kd.R_step (Kd.R_bound (h.r i hi)) (fun k hk hlt => hG.block k hlt (fun e => by
    injection e with e
    have := hk.2.1
    omega))) (fun _ _ => trivial), Nat.le_trans h.lb hG.size⟩
theorem set_grown (w : World) (X j : Nat) (v : Value) : w.grownBy (w.setCell ⟨X, j, none⟩ v) (some X) := ⟨rfl, rfl, rfl, by simp [World.setCell], fun k hk hne => heap_setCell_other w ⟨X, j, none⟩ k v (fun e => hne (by rw [e]))⟩
def nbG : List Hs := (yankM (List.replicate 38 hz) 97 (oneE 97)).1
theorem nb1 : (yankM (List.replicate 38 hz) 97 (oneE 97)).2 = 0 := by kernel_rfl
theorem nb2 : getM nbG 97 = (oneE 97, 0) := by kernel_rfl
theorem nb3 : getM nbG 34 = (oneE 97, 0) := by kernel_rfl
set_option maxRecDepth 100000 in
set_option maxHeartbeats 16000000 in
theorem Nobody_w (n : Int) (s : ByteArray) (A : Option Addr) (m c : Nat) (b cut wide : Bool) (w : World) (h0 : -2147483648 ≤ n) (h1 : n ≤ 2147483647) :
    Calls Try.prog 6 #[aV n s (.slice A m c) b cut wide] w fun e w' => e = .returned (.bool true) ∧ Below w.heap.size w w' := by
  have HAL := Aside0.mk (fun (w1 : World) => alive_w w1)
  have kz := zeroRegs
  obtain ⟨R0, h0⟩ : ∃ R0, R0 = rowC (List.replicate 38 hz) (List.replicate 38 nilS) := ⟨_, rfl⟩
  rw [← h0] at kz
  clear h0
  go_enter Try.func6, Try.ntmps6
  go_wp2_with (first | (go_at_call 7; (with_reducible refine (HAL.out _).mono ?_); rintro e w1 ⟨rfl, hb1⟩; have HB1 := Aside0.mk (below_step (below_alloc (Below.refl w.heap.size w) _) hb1); have HA := Aside0.mk ((hb1.block w.heap.size (by simp)).trans (heap_alloc_new w _)); clear hb1))
  have hb3 := below_alloc (below_alloc (Below.refl w1.heap.size w1) (.cells (Value.bool false :: R0).toArray 53)) (.cells #[.pointer none, .pointer (some ⟨w1.heap.size, 0, none⟩)] 24)
  have hN : NR w ((w1.alloc (.cells (Value.bool false :: R0).toArray 53)).alloc (.cells #[.pointer none, .pointer (some ⟨w1.heap.size, 0, none⟩)] 24)) (w1.heap.size + 1) w1.heap.size #[.int .i32 n, .string s, .slice A m c, .bool b, .bool cut, .bool wide] (Value.bool false :: R0).toArray :=
    ⟨below_step HB1.out hb3, (hb3.block _ (blk_lt HA.out)).trans HA.out, by
      have := heap_alloc_new (w1.alloc (.cells (Value.bool false :: R0).toArray 53)) (.cells #[.pointer none, .pointer (some ⟨w1.heap.size, 0, none⟩)] 24)
      simpa using this, (Below.heap_alloc _ _ _ (by simp)).trans (heap_alloc_new _ _)⟩
  have HN0 := Aside0.mk hN
  clear hN hb3 kz
  go_loopw [21] (fun ii wr => ∃ q : Nat, ii = .int .i64 q ∧ q ≤ 2 ∧ Aside0 (NR w wr (w1.heap.size + 1) w1.heap.size #[.int .i32 n, .string s, .slice A m c, .bool b, .bool cut, .bool wide] (Value.bool false :: R0).toArray)) (fun ii _ => 2 - (intOf ii).toNat)
  case atStart => exact ⟨0, rfl, by decide, HN0⟩
  case round =>
    obtain ⟨q, rfl, hq, HN⟩ := hrel
    by_cases hq2 : q < 2
    · obtain ⟨p, hp, hbp⟩ : ∃ p : Option Addr, wr.cell? ⟨w1.heap.size + 1, q, none⟩ = some (.pointer p) ∧ ∀ W, NR w W (w1.heap.size + 1) w1.heap.size #[.int .i32 n, .string s, .slice A m c, .bool b, .bool cut, .bool wide] (Value.bool false :: R0).toArray → BadR W p := by
        obtain rfl | rfl : q = 0 ∨ q = 1 := by omega
        · exact ⟨none, cell_of_row _ _ 0 _ _ _ HN.out.y, fun W _ => bad_nil W⟩
        · exact ⟨some ⟨w1.heap.size, 0, none⟩, cell_of_row _ _ 1 _ _ _ HN.out.y, fun W h => bad_zero W _ _ h.z rfl⟩
      have HBP := Aside0.mk hbp
      have HSA : Aside0 (∀ W : World, Calls Try.prog 18 #[eV ⟨#[]⟩ (.slice none 0 0) false, eV ⟨#[]⟩ (.slice none 0 0) false] W fun e w' => e = .returned (.bool true) ∧ Below W.heap.size W w') := ⟨fun (W : World) => bureauref09_Same.calls 1 ⟨#[]⟩ none 0 [] false ⟨#[]⟩ none 0 [] false true W (nil_C W) (Nat.le_refl _) (nil_C W) (Nat.le_refl _) (same9 ⟨#[]⟩ [] false (by decide))⟩
      obtain ⟨x0, x1, x2, x3, x5, lx⟩ := HN.out.facts
      clear hbp
      have hq' : (q : Int) < 2 := by omega
      go_wp2_with (first | (go_at_call 12; (with_reducible refine (Get_bad _ p (HBP.out _ HN.out) n h0 h1).mono ?_); rintro e w2 ⟨rfl, hb2⟩; have HN := Aside0.mk (HN.out.below hb2); clear hb2; clear x0 x1 x2 x3 x5 lx; obtain ⟨x0, x1, x2, x3, x5, lx⟩ := HN.out.facts) | (go_at_call 19; (with_reducible refine (Yank_bad _ p (HBP.out _ (HN.out.below (by repeat (first | (with_reducible first | exact Below.refl _ _ | apply pw_below_drewN | apply below_alloc | apply below_drew) | exact Below.refl _ _)))) s A m c b n h0 h1).mono ?_); rintro e w3 ⟨rfl, hb3⟩; have HE9 := Aside0.mk ((EX.new w2 ⟨#[]⟩ (.slice none 0 0) false).below (below_step (by repeat (first | (with_reducible first | exact Below.refl _ _ | apply pw_below_drewN | apply below_alloc | apply below_drew) | exact Below.refl _ _)) hb3)); have HN := Aside0.mk (HN.out.below (below_step (by repeat (first | (with_reducible first | exact Below.refl _ _ | apply pw_below_drewN | apply below_alloc | apply below_drew) | exact Below.refl _ _)) hb3)); clear hb3; clear x0 x1 x2 x3 x5 lx; obtain ⟨x0, x1, x2, x3, x5, lx⟩ := HN.out.facts; obtain ⟨e0, e1, e2⟩ := HE9.out.limbs) | (go_at_call 10; (with_reducible refine (Delete_bad _ p (HBP.out _ (HN.out.below (by repeat (first | (with_reducible first | exact Below.refl _ _ | apply pw_below_drewN | apply below_alloc | apply below_drew) | exact Below.refl _ _)))) s A m c b wide n h0 h1).mono ?_); rintro e w4 ⟨rfl, hb4⟩; have HE9 := Aside0.mk (HE9.out.below (below_step (by repeat (first | (with_reducible first | exact Below.refl _ _ | apply pw_below_drewN | apply below_alloc | apply below_drew) | exact Below.refl _ _)) hb4)); have HN := Aside0.mk (HN.out.below (below_step (by repeat (first | (with_reducible first | exact Below.refl _ _ | apply pw_below_drewN | apply below_alloc | apply below_drew) | exact Below.refl _ _)) hb4)); clear hb4; clear x0 x1 x2 x3 x5 lx; obtain ⟨x0, x1, x2, x3, x5, lx⟩ := HN.out.facts; clear e0 e1 e2; obtain ⟨e0, e1, e2⟩ := HE9.out.limbs) | (go_at_call 18; (with_reducible refine (HSA.out _).mono ?_); rintro e w5 ⟨rfl, hb5⟩; have HN := Aside0.mk (HN.out.below (below_step (by repeat (first | (with_reducible first | exact Below.refl _ _ | apply pw_below_drewN | apply below_alloc | apply below_drew) | exact Below.refl _ _)) hb5)); clear hb5; clear x0 x1 x2 x3 x5 lx; obtain ⟨x0, x1, x2, x3, x5, lx⟩ := HN.out.facts) | (go_at_call 17; (with_reducible refine (Copy_bad _ p (HBP.out _ (HN.out.below (by repeat (first | (with_reducible first | exact Below.refl _ _ | apply pw_below_drewN | apply below_alloc | apply below_drew) | exact Below.refl _ _))))).mono ?_); rintro e w6 ⟨rfl, hb6⟩; have HN := Aside0.mk (HN.out.below (below_step (by repeat (first | (with_reducible first | exact Below.refl _ _ | apply pw_below_drewN | apply below_alloc | apply below_drew) | exact Below.refl _ _)) hb6)); clear hb6; clear x0 x1 x2 x3 x5 lx; obtain ⟨x0, x1, x2, x3, x5, lx⟩ := HN.out.facts))
      exact ⟨⟨q + 1, by go_num, by omega, HN⟩, by simp [intOf]; omega⟩
    · have hq2' : q = 2 := by omega
      subst hq2'
      clear HN0
      have HBL := Aside0.mk HN.out.bl
      have HN0 := Aside0.mk HN.out.bl.size
      clear HN
      generalize w1.heap.size = z1 at *
      go_wp2_with (first | (go_at_call 8; (with_reducible refine (new_w (bs := 0) wr (Nat.zero_le _)).mono ?_); rintro e w7 ⟨rfl, hr7, hb7⟩; have HR7 := Aside0.mk hr7; have HBL := Aside0.mk (below_step HBL.out hb7); have HW7 := Aside0.mk HBL.out.size; clear hr7 hb7) | (go_at_call 20; (with_reducible refine (one_w ⟨#[97]⟩ w7).mono ?_); rintro e w8 ⟨A8, c8, rfl, hr8, hb8⟩; obtain ⟨X, eX, hX1, hX2, hX3, -, -⟩ := one_row hr8; subst eX; have HB9 := below_step hb8 (below_alloc (Below.refl w8.heap.size w8) (.cells #[.string ⟨#[97]⟩, .slice (some ⟨X, 0, none⟩) 1 c8, .bool false] 33)); have HBL := Aside0.mk (below_step HBL.out HB9); have HR9 := Aside0.mk (RG.nil_base (HR7.out.below HB9)); have HX9 := Aside0.mk (Kd.R_below hr8 (below_alloc (Below.refl w8.heap.size w8) (.cells #[.string ⟨#[97]⟩, .slice (some ⟨X, 0, none⟩) 1 c8, .bool false] 33))); have HXL := Aside0.mk (⟨hX1, hX2, HR7.out.lt, hb8.size⟩ : _ ∧ _ ∧ _ ∧ _); have HE9 := Aside0.mk (EX.new w8 ⟨#[97]⟩ (.slice (some ⟨X, 0, none⟩) 1 c8) false); clear hr8 hb8 hX1 hX2 hX3 HB9))
      have HYA := Aside0.mk (Yank_w _ _ _ _ (oneE 97) _ c8 97 HR9.out (RA.of_R HX9.out HR9.out.x) GG.new (by decide) (by decide) (by decide))
      obtain ⟨X2, eX, hX1, hX2, ⟨xc, hX3⟩, hX4, hX5⟩ := one_row HX9.out
      injection eX with eX
      injection eX with eX
      subst eX
      have HXN : Aside0 (X ≠ wr.heap.size) := ⟨fun e => by
        subst e
        rw [HR9.out.x] at hX3
        cases hX3⟩
      have HPN : Aside0 (w8.heap.size ≠ wr.heap.size) := ⟨by have := HXL.out; omega⟩
      have HBW := Aside0.mk (⟨HBL.out, hX2, HN0.out⟩ : _ ∧ _ ∧ w.heap.size ≤ wr.heap.size)
      have HX3 := Aside0.mk hX3
      have HXG : Aside0 (w.heap.size ≤ X) := ⟨Nat.le_trans HW7.out hX1⟩
      have HX45 := Aside0.mk (⟨hX4, hX5⟩ : _ ∧ _)
      clear HR7 HR9 HX9 hX1 hX3 hX4 hX5 HXL hX2
      generalize w8.heap.size = p8 at *
      generalize w8.alloc (.cells #[.string ⟨#[97]⟩, .slice (some ⟨X, 0, none⟩) 1 c8, .bool false] 33) = W9 at *
      have HYA : Aside0 (Calls Try.prog 19 #[.pointer (some ⟨wr.heap.size, 0, none⟩), .int .i32 97, eV ⟨#[97]⟩ (.slice (some ⟨X, 0, none⟩) 1 c8) false] W9 fun e w' => e = .returned (.int .i64 0) ∧ (∃ vs', RG W9.heap.size w' wr.heap.size nbG vs') ∧ W9.grownBy w' (some wr.heap.size)) := ⟨HYA.out.mono (fun e w' h => ⟨h.1.trans (by rw [nb1]), h.2⟩)⟩
      have HGA : Aside0 (∀ W, (∃ vs, RG W9.heap.size W wr.heap.size nbG vs) → Calls Try.prog 12 #[.pointer (some ⟨wr.heap.size, 0, none⟩), .int .i32 97] W fun e w' => ∃ A c, e = .returned (.tuple #[eV ⟨#[97]⟩ (.slice A 1 c) false, .int .i64 0]) ∧ oneR1 w' W.heap.size A c ∧ Below W.heap.size W w') := ⟨fun W ⟨vs, hr⟩ => (Get_w W wr.heap.size nbG vs 97 hr (yankM_GG GG.new _ _) (by decide) (by decide)).mono (by
        rintro e w' ⟨v, rfl, h2, h3⟩
        rw [nb2] at h2 ⊢
        obtain ⟨A, c, e⟩ := Kd.R_slice h2
        subst e
        exact ⟨A, c, rfl, h2, h3⟩)⟩
      have HGQ : Aside0 (∀ W, (∃ vs, RG W9.heap.size W wr.heap.size nbG vs) → Calls Try.prog 12 #[.pointer (some ⟨wr.heap.size, 0, none⟩), .int .i32 34] W fun e w' => ∃ A c, e = .returned (.tuple #[eV ⟨#[97]⟩ (.slice A 1 c) false, .int .i64 0]) ∧ oneR1 w' W.heap.size A c ∧ Below W.heap.size W w') := ⟨fun W ⟨vs, hr⟩ => (Get_w W wr.heap.size nbG vs 34 hr (yankM_GG GG.new _ _) (by decide) (by decide)).mono (by
        rintro e w' ⟨v, rfl, h2, h3⟩
        rw [nb3] at h2 ⊢
        obtain ⟨A, c, e⟩ := Kd.R_slice h2
        subst e
        exact ⟨A, c, rfl, h2, h3⟩)⟩
      have HS9 : Aside0 (∀ W A c A' c' base base', oneR1 W base A c → oneR1 W base' A' c' → Calls Try.prog 18 #[eV ⟨#[97]⟩ (.slice A 1 c) false, eV ⟨#[97]⟩ (.slice A' 1 c') false] W fun e w' => e = .returned (.bool true) ∧ Below W.heap.size W w') := ⟨fun W A c A' c' base base' h h2 => bureauref09_Same.calls 2 ⟨#[97]⟩ A c [⟨1, 1⟩] false ⟨#[97]⟩ A' c' [⟨1, 1⟩] false true W (Kd.R_reads' h).2.2 (Kd.R_reads' h).2.1 (Kd.R_reads' h2).2.2 (Kd.R_reads' h2).2.1 (same9 ⟨#[97]⟩ [⟨1, 1⟩] false (by decide))⟩
      clear HAL HA HB1
      go_wp2_with (first | (go_at_call 19; (with_reducible refine HYA.out.mono ?_); rintro e w10 ⟨rfl, ⟨vs10, hr10⟩, hg10⟩; have HE9 := Aside0.mk (HE9.out.far hg10 HPN.out); obtain ⟨a0, a1, a2, -, -, -⟩ := HE9.out.cells; have hx10 := blk_grown HX3.out hg10 (fun e => HXN.out (by injection e)); have k0 := (cell_grown hg10 HX45.out.1 (fun e => HXN.out (by injection e))); have k1 := (cell_grown hg10 HX45.out.2 (fun e => HXN.out (by injection e))); have kf := frozen_of_row w10 X 1 _ _ hx10; have lx := blk_lt hx10; have HR10 := Aside0.mk hr10; have HBL := Aside0.mk (pw_below_grown HBW.out.1 (some wr.heap.size) HBW.out.1.size hg10 (fun k e => by injection e with e; rw [← e]; exact HBW.out.2.2)); clear hr10 hg10 hx10) | (go_at_call 12; (with_reducible refine (HGA.out _ ?sr).mono ?_); (case sr => exact ⟨_, HR10.out.older HBW.out.2.1 HXN.out (set_grown _ _ _ _)⟩); rintro e w12 ⟨A12, c12, rfl, hr12, hb12⟩; obtain ⟨Y, eY, hY1, hY2, ⟨yc, hY3⟩, hY4, hY5⟩ := one_row hr12; subst eY; have yf := frozen_of_row w12 Y 1 _ _ hY3; have HB12 := Aside0.mk hb12; have HY1 := Aside0.mk hY1; clear hr12 hb12 hY1 hY3 a0 a1 a2 k0 k1 kf lx) | (go_at_call 12; (with_reducible refine (HGA.out _ ?sr).mono ?_); (case sr => exact ⟨_, (HR10.out.older HBW.out.2.1 HXN.out (set_grown _ _ _ _)).below (below_alloc (below_set HB12.out HY1.out) _)⟩); rintro e w15 ⟨A15, c15, rfl, hr15, hb15⟩; have HB15 := Aside0.mk (below_step (below_alloc (below_set HB12.out HY1.out) _) hb15); have HBL := Aside0.mk (below_step (below_alloc (below_set (below_step (below_set HBL.out HXG.out) HB12.out) (Nat.le_trans (below_set HBL.out HXG.out).size HY1.out)) _) hb15); have HZ := Aside0.mk hr15; clear hr15 hb15 hY2 hY4 hY5 yf) | (go_at_call 12; (with_reducible refine (HGQ.out _ ?sr).mono ?_); (case sr => exact ⟨_, (HR10.out.older HBW.out.2.1 HXN.out (set_grown _ _ _ _)).below (below_step HB15.out (by repeat (first | (with_reducible first | exact Below.refl _ _ | apply pw_below_drewN | apply below_alloc | apply below_drew) | exact Below.refl _ _)))⟩); rintro e w16 ⟨A16, c16, rfl, hr16, hb16⟩; have HQB := Aside0.mk (below_step (by repeat (first | (with_reducible first | exact Below.refl _ _ | apply pw_below_drewN | apply below_alloc | apply below_drew) | exact Below.refl _ _)) hb16 : Below w15.heap.size w15 w16); have HBL := Aside0.mk (below_step HBL.out HQB.out); have HZ := Aside0.mk (Kd.R_below HZ.out HQB.out); have HWW := Aside0.mk hr16; have HEZ := Aside0.mk ((EX.new w15 ⟨#[97]⟩ (.slice A15 1 c15) false).below (below_step (by repeat (first | (with_reducible first | exact Below.refl _ _ | apply pw_below_drewN | apply below_alloc | apply below_drew) | exact Below.refl _ _)) hb16)); clear hr16 hb16))
      have hb9 := below_alloc (Below.refl w16.heap.size w16) (.cells #[.string ⟨#[97]⟩, .slice A16 1 c16, .bool false] 33)
      have HBL := Aside0.mk (below_step HBL.out hb9)
      have HZ := Aside0.mk (Kd.R_below HZ.out hb9)
      have HWW := Aside0.mk (Kd.R_below HWW.out hb9)
      have HEZ := Aside0.mk (HEZ.out.below hb9)
      have HEW := Aside0.mk (EX.new w16 ⟨#[97]⟩ (.slice A16 1 c16) false)
      generalize w15.heap.size = p15 at HEZ ⊢
      generalize w16.heap.size = p16 at HEW ⊢
      generalize w16.alloc (.cells #[.string ⟨#[97]⟩, .slice A16 1 c16, .bool false] 33) = W16 at *
      have HP := Aside0.mk (⟨HEZ.out.limbs, HEW.out.limbs⟩ : _ ∧ _)
      obtain ⟨⟨a0, a1, a2⟩, b0, b1, b2⟩ := HP.out
      clear hb9
      go_region_held3 (fun w' => (w'.cell? ⟨p15, 0, none⟩ = some (.string ⟨#[97]⟩) ∧ w'.cell? ⟨p15, 1, none⟩ = some (.slice A15 1 c15) ∧ w'.cell? ⟨p15, 2, none⟩ = some (.bool false)) ∧ (w'.cell? ⟨p16, 0, none⟩ = some (.string ⟨#[97]⟩) ∧ w'.cell? ⟨p16, 1, none⟩ = some (.slice A16 1 c16) ∧ w'.cell? ⟨p16, 2, none⟩ = some (.bool false))) (first | exact HP.out) (first | (go_at_call 20; (with_reducible refine (one_w ⟨#[97]⟩ _).mono ?_); rintro e w17 ⟨A17, c17, rfl, hr17, hb17⟩; have HBL := Aside0.mk (below_step HBL.out (below_step (by repeat (first | (with_reducible first | exact Below.refl _ _ | apply pw_below_drewN | apply below_alloc | apply below_drew) | exact Below.refl _ _)) hb17)); have HZ := Aside0.mk (Kd.R_below HZ.out (below_step (by repeat (first | (with_reducible first | exact Below.refl _ _ | apply pw_below_drewN | apply below_alloc | apply below_drew) | exact Below.refl _ _)) hb17)); have HWW := Aside0.mk (Kd.R_below HWW.out (below_step (by repeat (first | (with_reducible first | exact Below.refl _ _ | apply pw_below_drewN | apply below_alloc | apply below_drew) | exact Below.refl _ _)) hb17)); have HEZ := Aside0.mk (HEZ.out.below (below_step (by repeat (first | (with_reducible first | exact Below.refl _ _ | apply pw_below_drewN | apply below_alloc | apply below_drew) | exact Below.refl _ _)) hb17)); have HEW := Aside0.mk (HEW.out.below (below_step (by repeat (first | (with_reducible first | exact Below.refl _ _ | apply pw_below_drewN | apply below_alloc | apply below_drew) | exact Below.refl _ _)) hb17)); have HP := Aside0.mk (⟨HEZ.out.limbs, HEW.out.limbs⟩ : _ ∧ _); have HON := Aside0.mk (show oneR1 w17 _ A17 c17 from hr17); clear hr17 hb17) | (go_at_call 18; (with_reducible refine (HS9.out _ _ _ _ _ _ _ (Kd.R_below HZ.out ?sb) (Kd.R_below HON.out ?sb2)).mono ?_); (case sb => exact (by repeat (first | (with_reducible first | exact Below.refl _ _ | apply pw_below_drewN | apply below_alloc | apply below_drew) | exact Below.refl _ _))); (case sb2 => exact (by repeat (first | (with_reducible first | exact Below.refl _ _ | apply pw_below_drewN | apply below_alloc | apply below_drew) | exact Below.refl _ _))); rintro e w18 ⟨rfl, hb18⟩; have HBL := Aside0.mk (below_step HBL.out (below_step (by repeat (first | (with_reducible first | exact Below.refl _ _ | apply pw_below_drewN | apply below_alloc | apply below_drew) | exact Below.refl _ _)) hb18)); have HZ := Aside0.mk (Kd.R_below HZ.out (below_step (by repeat (first | (with_reducible first | exact Below.refl _ _ | apply pw_below_drewN | apply below_alloc | apply below_drew) | exact Below.refl _ _)) hb18)); have HWW := Aside0.mk (Kd.R_below HWW.out (below_step (by repeat (first | (with_reducible first | exact Below.refl _ _ | apply pw_below_drewN | apply below_alloc | apply below_drew) | exact Below.refl _ _)) hb18)); have HEZ := Aside0.mk (HEZ.out.below (below_step (by repeat (first | (with_reducible first | exact Below.refl _ _ | apply pw_below_drewN | apply below_alloc | apply below_drew) | exact Below.refl _ _)) hb18)); have HEW := Aside0.mk (HEW.out.below (below_step (by repeat (first | (with_reducible first | exact Below.refl _ _ | apply pw_below_drewN | apply below_alloc | apply below_drew) | exact Below.refl _ _)) hb18)); have HP := Aside0.mk (⟨HEZ.out.limbs, HEW.out.limbs⟩ : _ ∧ _); clear hb18) | (go_at_call 18; (with_reducible refine (HS9.out _ _ _ _ _ _ _ (Kd.R_below HWW.out ?sb) (Kd.R_below HON.out ?sb2)).mono ?_); (case sb => exact (by repeat (first | (with_reducible first | exact Below.refl _ _ | apply pw_below_drewN | apply below_alloc | apply below_drew) | exact Below.refl _ _))); (case sb2 => exact (by repeat (first | (with_reducible first | exact Below.refl _ _ | apply pw_below_drewN | apply below_alloc | apply below_drew) | exact Below.refl _ _))); rintro e w18 ⟨rfl, hb18⟩; have HBL := Aside0.mk (below_step HBL.out (below_step (by repeat (first | (with_reducible first | exact Below.refl _ _ | apply pw_below_drewN | apply below_alloc | apply below_drew) | exact Below.refl _ _)) hb18)); have HZ := Aside0.mk (Kd.R_below HZ.out (below_step (by repeat (first | (with_reducible first | exact Below.refl _ _ | apply pw_below_drewN | apply below_alloc | apply below_drew) | exact Below.refl _ _)) hb18)); have HWW := Aside0.mk (Kd.R_below HWW.out (below_step (by repeat (first | (with_reducible first | exact Below.refl _ _ | apply pw_below_drewN | apply below_alloc | apply below_drew) | exact Below.refl _ _)) hb18)); have HEZ := Aside0.mk (HEZ.out.below (below_step (by repeat (first | (with_reducible first | exact Below.refl _ _ | apply pw_below_drewN | apply below_alloc | apply below_drew) | exact Below.refl _ _)) hb18)); have HEW := Aside0.mk (HEW.out.below (below_step (by repeat (first | (with_reducible first | exact Below.refl _ _ | apply pw_below_drewN | apply below_alloc | apply below_drew) | exact Below.refl _ _)) hb18)); have HP := Aside0.mk (⟨HEZ.out.limbs, HEW.out.limbs⟩ : _ ∧ _); clear hb18))
      all_goals (go_wp2; go_ret; exact ⟨rfl, HBL.out⟩)
def bureaulaw09_RegsNobody.f (a0_0 : Int) (a0_1 : ByteArray) (l0_2 : List XRN.S58) (a0_3 : Bool) (a0_4 : Bool) (a0_5 : Bool) : Option Bool := if -2147483648 ≤ a0_0 ∧ a0_0 ≤ 2147483647 then some true else none
theorem bureaulaw09_RegsNobody.calls (a0_0 : Int) (a0_1 : ByteArray) (A0_2 : Option Addr) (c0_2 : Nat) (l0_2 : List XRN.S58) (a0_3 : Bool) (a0_4 : Bool) (a0_5 : Bool) (r : Bool) (w : World) (hr0_2 : Kd.C XRN.k58 w A0_2 l0_2.length l0_2) (hc0_2 : l0_2.length ≤ c0_2) (h : bureaulaw09_RegsNobody.f a0_0 a0_1 l0_2 a0_3 a0_4 a0_5 = some r) :
    Calls Try.prog 6 #[.agg #[.int .i32 a0_0, .string a0_1, .slice A0_2 l0_2.length c0_2, .bool a0_3, .bool a0_4, .bool a0_5]] w fun e w' => e = .returned (.bool r) ∧ Below w.heap.size w w' := by
  unfold bureaulaw09_RegsNobody.f at h
  by_cases hc : -2147483648 ≤ a0_0 ∧ a0_0 ≤ 2147483647
  · rw [if_pos hc] at h
    cases h
    exact Nobody_w a0_0 a0_1 A0_2 l0_2.length c0_2 a0_3 a0_4 a0_5 w hc.1 hc.2
  · rw [if_neg hc] at h
    cases h

end Go.Proofs.Ytbcbfmhcoemnpaa.Ext
