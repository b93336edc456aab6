/- regs: Copy, by its walk; the law's alive. -/
import Derived.Test.YtbcbfmhcoemnpaaExt09G
import Derived.Test.YtbcbfmhcoemnpaaExt09F
import Derived.Test.YtbcbfmhcoemnpaaXRRx2
import Derived.Test.YtbcbfmhcoemnpaaXRRx3
import Derived.Test.YtbcbfmhcoemnpaaXRRx4
import Derived.Test.YtbcbfmhcoemnpaaXRRx0
import Derived.Test.YtbcbfmhcoemnpaaWMore
import Derived.Deep.WholeRow
import Derived.WalkKit
import Derived.WalkMore
import Derived.Below
import Derived.KernelRfl
import Derived.LoopTactic
import Derived.Deep.RegionWith
import Derived.Deep.RegionHeld3
import Derived.IntWalk
import Derived.Deep.DeepCutAuto
import Derived.Deep.CutBlock
import Derived.BigQuiet
import Derived.Laws.RangeString
import Derived.Laws.RangeAny
import Derived.Laws.Rows
import Derived.Laws.Runes
import Derived.Lib.OthersKept
import Derived.OpenShut
set_option linter.unusedVariables false
set_option linter.unusedSimpArgs false
namespace Go.Proofs.Ytbcbfmhcoemnpaa.Ext
open Go.RowKit Go.Lib Go.Proofs.YtbcbfmhcoemnpaaW.PrintWords Go.Proofs.YtbcbfmhcoemnpaaW.PrintMore Go.Proofs.Ytbcbfmhcoemnpaa.XRR

variable {bs : Nat}
theorem rowC_one : ∀ (g : List Hs) (vs : List Value), (∀ v, v ∈ vs → v.oneCell' = true) → ∀ v, v ∈ rowC g vs → v.oneCell' = true
  | [], _, _, v, h => by simp [rowC] at h
  | h :: g, [], _, v, hv => by simp [rowC] at hv
  | h :: g, u :: vs, hu, v, hv => by
    have e : rowC (h :: g) (u :: vs) = slotC h u ++ rowC g vs := rfl
    rw [e, List.mem_append] at hv
    rcases hv with hv | hv
    · simp only [slotC, List.mem_cons, List.not_mem_nil, or_false] at hv
      rcases hv with rfl | rfl | rfl | rfl
      · rfl
      · rfl
      · exact hu _ List.mem_cons_self
      · rfl
    · exact rowC_one g vs (fun v hv => hu v (List.mem_cons_of_mem _ hv)) v hv
theorem RG.one {w : World} {B : Nat} {g : List Hs} {vs : List Value} (h : RG bs w B g vs) : (regC g vs).all (·.oneCell') = true := by
  apply Array.all_eq_true_iff_forall_mem.2
  intro v hv
  have hv : v ∈ Value.bool true :: rowC g vs := by simpa [regC] using hv
  rcases List.mem_cons.1 hv with e | hv
  · subst e; rfl
  refine rowC_one g vs (fun u hu => ?_) v hv
  obtain ⟨i, hi, e⟩ := List.mem_iff_getElem.1 hu
  have hm := h.m
  have hr := h.r i (by omega)
  have ev : vd vs i = u := by unfold vd; rw [List.getD_eq_getElem?_getD, List.getElem?_eq_getElem hi, e]; rfl
  rw [ev] at hr
  exact (Kd.R_val hr).2
theorem RG.size {w : World} {B : Nat} {g : List Hs} {vs : List Value} (h : RG bs w B g vs) : (regC g vs).size = 153 := by
  show (Value.bool true :: rowC g vs).length = 153
  rw [List.length_cons, rowC_len g vs (by rw [h.m, h.n]), h.n]
theorem RG.load {w : World} {B : Nat} {g : List Hs} {vs : List Value} (h : RG bs w B g vs) : (loadCellsFrom ⟨B, 0, none⟩ 0 153 #[]).run Try.prog w = .ok (regC g vs) w := by
  have hs := h.size
  have := run_loadCells_list (P := Try.prog) w ⟨B, 0, none⟩ (regC g vs).toList (fun j v hv => by
    have hadd : (⟨B, 0, none⟩ : Addr).add j = ⟨B, j, none⟩ := by unfold Addr.add; split <;> simp_all
    rw [hadd, cell_of_row _ _ j _ _ _ h.x]
    simpa using hv)
  simpa [loadCells, hs] using this
set_option maxRecDepth 100000 in
set_option maxHeartbeats 8000000 in
theorem Copy_w (w : World) (B : Nat) (g : List Hs) (vs : List Value) (h : RG bs w B g vs) :
    Calls Try.prog 17 #[.pointer (some ⟨B, 0, none⟩)] w fun e w' => ∃ C : Nat, e = .returned (.pointer (some ⟨C, 0, none⟩)) ∧ w.heap.size ≤ C ∧ RG bs w' C g vs ∧ Below w.heap.size w w' := by
  have HH := Aside0.mk h
  have lB := h.lt
  have ln := h.size
  have hrg : w.rangeAt B 0 (regC g vs).toList := fun j v hv => by
    rw [Nat.zero_add, cell_of_row _ _ j _ _ _ h.x]
    simpa using hv
  have hi53 : (Try.prog.info? 53).map (·.size) = some 153 := by kernel_rfl
  have kz := zeroRegs
  have lz : (rowC (List.replicate 38 hz) (List.replicate 38 nilS)).length = 152 := by rw [rowC_len] <;> simp
  generalize rowC (List.replicate 38 hz) (List.replicate 38 nilS) = R0 at kz lz
  have hst := run_storeCells_new (P := Try.prog) w 53 (Value.bool false :: R0).toArray (regC g vs) (by rw [ln]; kernel_rfl) (by rw [ln]; simp [lz]) h.one
  have HX : Aside0 (Below w.heap.size w (w.alloc (.cells (regC g vs) 53)) ∧ RG bs (w.alloc (.cells (regC g vs) 53)) w.heap.size g vs) := ⟨below_alloc (Below.refl _ _) _, ⟨heap_alloc_new _ _, h.n, h.m, fun i hi => Kd.R_below (h.r i hi) (below_alloc (Below.refl _ _) _), Nat.le_trans h.lb (below_alloc (Below.refl _ _) _).size⟩⟩
  generalize regC g vs = RC at *
  have HRG : Aside0 (w.rangeAt B 0 RC.toList ∧ (Try.prog.info? 53).map (·.size) = some RC.toList.length) := ⟨hrg, by rw [hi53, Array.length_toList, ln]⟩
  clear h hrg hi53
  go_enter Try.func17, Try.ntmps17
  go_wp2_with (first | (go_at_call 26; (with_reducible refine (good_w _ B g vs HH.out).mono ?_); rintro e w3 ⟨rfl, rfl⟩) | (with_reducible refine wp_load_mid 53 (.tmp 8) rfl B 0 rfl RC.toList _ HRG.out.1 Try.underlying53 rfl HRG.out.2 ?_) | (with_reducible refine wpList_load_mid rfl 53 (.tmp 8) rfl B 0 rfl RC.toList _ HRG.out.1 Try.underlying53 rfl HRG.out.2 ?_))
  go_ret
  exact ⟨_, rfl, Nat.le_refl _, HX.out.2, HX.out.1⟩
/-- Registers of the walk's own making, in any world behind. -/
structure ST (w W : World) (B : Nat) (g : List Hs) : Prop where
  bl : Below w.heap.size w W
  le : w.heap.size ≤ B
  gg : GG g
  rg : ∃ vs, RG 0 W B g vs
theorem ST.lt {w W : World} {B : Nat} {g : List Hs} (h : ST w W B g) : B < W.heap.size := by
  obtain ⟨vs, hr⟩ := h.rg
  exact hr.lt
theorem ST.below {w W W' : World} {B : Nat} {g : List Hs} (h : ST w W B g) (hb : Below W.heap.size W W') : ST w W' B g :=
  ⟨below_step h.bl hb, h.le, h.gg, by
    obtain ⟨vs, hr⟩ := h.rg
    exact ⟨vs, hr.below hb⟩⟩
theorem ST.turn {w W W' : World} {B : Nat} {g g' : List Hs} (h : ST w W B g) (hg : GG g') (hr : ∃ vs, RG 0 W' B g' vs) (hb : W.grownBy W' (some B)) : ST w W' B g' :=
  ⟨pw_below_grown h.bl (some B) h.bl.size hb (fun k e => by injection e with e; rw [← e]; exact h.le), h.le, hg, hr⟩
/-- Other registers, made beside. -/
theorem ST.beside {w W W' : World} {B C : Nat} {g g2 : List Hs} (h : ST w W C g2) (hr : ∃ vs, RG 0 W' C g2 vs) (hb : W.grownBy W' (some B)) (hB : w.heap.size ≤ B) : ST w W' C g2 :=
  ⟨pw_below_grown h.bl (some B) h.bl.size hb (fun k e => by injection e with e; rw [← e]; exact hB), h.le, h.gg, hr⟩
theorem RG.beside {w w' : World} {B C : Nat} {g g2 : List Hs} {vs vs2 : List Value} (h : RG bs w C g2 vs2) (hB : RG bs w B g vs) (hne : C ≠ B) (hG : w.grownBy w' (some B)) : RG bs w' C g2 vs2 :=
  ⟨blk_grown h.x hG (fun e => hne (by injection e)), h.n, h.m, fun i hi => keep_runs (h.r i hi) hB.x hG, Nat.le_trans h.lb hG.size⟩
theorem new_s (w W : World) (hb : Below w.heap.size w W) : Calls Try.prog 8 #[] W fun e w' => e = .returned (.pointer (some ⟨W.heap.size, 0, none⟩)) ∧ ST w w' W.heap.size (List.replicate 38 hz) ∧ Below W.heap.size W w' := by
  refine (new_w (bs := 0) W (Nat.zero_le _)).mono ?_
  rintro e w' ⟨rfl, hr, h2⟩
  exact ⟨rfl, ⟨below_step hb h2, hb.size, GG.new, _, hr⟩, h2⟩
theorem yank_s {w W : World} {B : Nat} {g : List Hs} (hs : ST w W B g) (x : En) (A : Option Addr) (c : Nat) (n : Int) (hx : RA W B A c x.l) (hl : x.l.length ≤ 100000) (h0 : -2147483648 ≤ n) (h1 : n ≤ 2147483647) :
    Calls Try.prog 19 #[.pointer (some ⟨B, 0, none⟩), .int .i32 n, eV x.s (.slice A x.l.length c) x.b] W fun e w' => e = .returned (.int .i64 (yankM g n x).2) ∧ ST w w' B (yankM g n x).1 ∧ W.grownBy w' (some B) := by
  obtain ⟨vs, hr⟩ := hs.rg
  refine (Yank_w W B g vs x A c n hr hx hs.gg hl h0 h1).mono ?_
  rintro e w' ⟨rfl, h2, h3⟩
  exact ⟨rfl, hs.turn (yankM_GG hs.gg n x) h2 h3, h3⟩
theorem delete_s {w W : World} {B : Nat} {g : List Hs} (hs : ST w W B g) (x : En) (A : Option Addr) (c : Nat) (n : Int) (wide : Bool) (hx : RA W B A c x.l) (hl : x.l.length ≤ 100000) (h0 : -2147483648 ≤ n) (h1 : n ≤ 2147483647) :
    Calls Try.prog 10 #[.pointer (some ⟨B, 0, none⟩), .int .i32 n, eV x.s (.slice A x.l.length c) x.b, .bool wide] W fun e w' => e = .returned (.int .i64 (delM g n x wide).2) ∧ ST w w' B (delM g n x wide).1 ∧ W.grownBy w' (some B) := by
  obtain ⟨vs, hr⟩ := hs.rg
  refine (Delete_w W B g vs x A c n wide hr hx hs.gg hl h0 h1).mono ?_
  rintro e w' ⟨rfl, h2, h3⟩
  exact ⟨rfl, hs.turn (delM_GG hs.gg n x wide) h2 h3, h3⟩
theorem get_s {w W : World} {B : Nat} {g : List Hs} (hs : ST w W B g) (n : Int) (h0 : -2147483648 ≤ n) (h1 : n ≤ 2147483647) :
    Calls Try.prog 12 #[.pointer (some ⟨B, 0, none⟩), .int .i32 n] W fun e w' => ∃ A c, e = .returned (.tuple #[eV (getM g n).1.s (.slice A (getM g n).1.l.length c) (getM g n).1.b, .int .i64 (getM g n).2]) ∧ Kd.R k58 58 w' W.heap.size (fun _ => True) (.slice A (getM g n).1.l.length c) (getM g n).1.l ∧ Below W.heap.size W w' := by
  obtain ⟨vs, hr⟩ := hs.rg
  refine (Get_w W B g vs n hr hs.gg h0 h1).mono ?_
  rintro e w' ⟨v, rfl, h2, h3⟩
  obtain ⟨A, c, e⟩ := Kd.R_slice h2
  subst e
  exact ⟨A, c, rfl, h2, h3⟩
theorem ra_of {w W : World} {B base : Nat} {g : List Hs} {A : Option Addr} {c : Nat} {l : List Rn} (hs : ST w W B g) (h : Kd.R k58 58 W base (fun _ => True) (.slice A l.length c) l) : RA W B A c l := by
  obtain ⟨vs, hr⟩ := hs.rg
  exact RA.of_R h hr.x
theorem one_w (s : ByteArray) (W : World) : Calls Try.prog 20 #[.string s] W fun e w' => ∃ A c, e = .returned (eV s (.slice A ([⟨1, 1⟩] : List Rn).length c) false) ∧ Kd.R k58 58 w' W.heap.size (fun _ => True) (.slice A ([⟨1, 1⟩] : List Rn).length c) ([⟨1, 1⟩] : List Rn) ∧ Below W.heap.size W w' := by
  refine (bureaulaw09_one.calls s s [⟨1, 1⟩] false W rfl).mono ?_
  rintro e w' ⟨v, rfl, h2, h3⟩
  obtain ⟨A, c, e⟩ := Kd.R_slice h2
  subst e
  exact ⟨A, c, rfl, h2, h3⟩
def oneE (b : UInt8) : En := ⟨⟨#[b]⟩, [⟨1, 1⟩], false⟩
def alG1 : List Hs := (yankM (List.replicate 38 hz) 113 (oneE 101)).1
def alG2 : List Hs := (yankM alG1 81 (oneE 102)).1
def alG3 : List Hs := (delM alG2 0 (oneE 98) true).1
theorem al1 : (yankM (List.replicate 38 hz) 113 (oneE 101)).2 = 0 := by kernel_rfl
theorem al2 : (yankM alG1 81 (oneE 102)).2 = 0 := by kernel_rfl
theorem al3 : (delM alG2 0 (oneE 98) true).2 = 0 := by kernel_rfl
theorem al4 : (getM alG3 113).2 = 0 := by kernel_rfl
theorem al5 : (getM alG3 0).2 = 0 := by kernel_rfl
theorem al6 : (getM alG3 113).1.s = ⟨#[101, 102]⟩ := by kernel_rfl
theorem al7 : (getM alG3 0).1.s = ⟨#[98]⟩ := by kernel_rfl

end Go.Proofs.Ytbcbfmhcoemnpaa.Ext
