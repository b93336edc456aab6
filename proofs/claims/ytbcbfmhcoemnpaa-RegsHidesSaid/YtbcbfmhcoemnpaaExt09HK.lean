/- regs: Copy, by its walk; the law's alive. regs: the laws' alive, by its walk. The laws' does, and what the acts leave, in plain words. -/
import Derived.Test.YtbcbfmhcoemnpaaExt09G
import Derived.Test.YtbcbfmhcoemnpaaExt09F
import Derived.Test.YtbcbfmhcoemnpaaXRRx2
import Derived.Test.YtbcbfmhcoemnpaaXRRx3
import Derived.Test.YtbcbfmhcoemnpaaXRRx4
import Derived.Test.YtbcbfmhcoemnpaaXRRx0
import Derived.Test.YtbcbfmhcoemnpaaWMore
import Derived.Deep.WholeRow
import Derived.WalkKit
import Derived.WalkMore
import Derived.Below
import Derived.KernelRfl
import Derived.LoopTactic
import Derived.Deep.RegionWith
import Derived.Deep.RegionHeld3
import Derived.IntWalk
import Derived.Deep.DeepCutAuto
import Derived.Deep.CutBlock
import Derived.BigQuiet
import Derived.Laws.RangeString
import Derived.Laws.RangeAny
import Derived.Laws.Rows
import Derived.Laws.Runes
import Derived.Lib.OthersKept
import Derived.OpenShut
set_option linter.unusedVariables false
set_option linter.unusedSimpArgs false
namespace Go.Proofs.Ytbcbfmhcoemnpaa.Ext
open Go.RowKit Go.Lib Go.Proofs.YtbcbfmhcoemnpaaW.PrintWords Go.Proofs.YtbcbfmhcoemnpaaW.PrintMore Go.Proofs.Ytbcbfmhcoemnpaa.XRR

variable {bs : Nat}
theorem rowC_one : ∀ (g : List Hs) (vs : List Value), (∀ v, v ∈ vs → v.oneCell' = true) → ∀ v, v ∈ rowC g vs → v.oneCell' = true
  | [], _, _, v, h => by simp [rowC] at h
  | h :: g, [], _, v, hv => by simp [rowC] at hv
  | h :: g, u :: vs, hu, v, hv => by
    have e : rowC (h :: g) (u :: vs) = slotC h u ++ rowC g vs := rfl
    rw [e, List.mem_append] at hv
    rcases hv with hv | hv
    · simp only [slotC, List.mem_cons, List.not_mem_nil, or_false] at hv
      rcases hv with rfl | rfl | rfl | rfl
      · rfl
      · rfl
      · exact hu _ List.mem_cons_self
      · rfl
    · exact rowC_one g vs (fun v hv => hu v (List.mem_cons_of_mem _ hv)) v hv
theorem RG.one {w : World} {B : Nat} {g : List Hs} {vs : List Value} (h : RG bs w B g vs) : (regC g vs).all (·.oneCell') = true := by
  apply Array.all_eq_true_iff_forall_mem.2
  intro v hv
  have hv : v ∈ Value.bool true :: rowC g vs := by simpa [regC] using hv
  rcases List.mem_cons.1 hv with e | hv
  · subst e; rfl
  refine rowC_one g vs (fun u hu => ?_) v hv
  obtain ⟨i, hi, e⟩ := List.mem_iff_getElem.1 hu
  have hm := h.m
  have hr := h.r i (by omega)
  have ev : vd vs i = u := by unfold vd; rw [List.getD_eq_getElem?_getD, List.getElem?_eq_getElem hi, e]; rfl
  rw [ev] at hr
  exact (Kd.R_val hr).2
theorem RG.size {w : World} {B : Nat} {g : List Hs} {vs : List Value} (h : RG bs w B g vs) : (regC g vs).size = 153 := by
  show (Value.bool true :: rowC g vs).length = 153
  rw [List.length_cons, rowC_len g vs (by rw [h.m, h.n]), h.n]
theorem RG.load {w : World} {B : Nat} {g : List Hs} {vs : List Value} (h : RG bs w B g vs) : (loadCellsFrom ⟨B, 0, none⟩ 0 153 #[]).run Try.prog w = .ok (regC g vs) w := by
  have hs := h.size
  have := run_loadCells_list (P := Try.prog) w ⟨B, 0, none⟩ (regC g vs).toList (fun j v hv => by
    have hadd : (⟨B, 0, none⟩ : Addr).add j = ⟨B, j, none⟩ := by unfold Addr.add; split <;> simp_all
    rw [hadd, cell_of_row _ _ j _ _ _ h.x]
    simpa using hv)
  simpa [loadCells, hs] using this
set_option maxRecDepth 100000 in
set_option maxHeartbeats 8000000 in
theorem Copy_w (w : World) (B : Nat) (g : List Hs) (vs : List Value) (h : RG bs w B g vs) :
    Calls Try.prog 17 #[.pointer (some ⟨B, 0, none⟩)] w fun e w' => ∃ C : Nat, e = .returned (.pointer (some ⟨C, 0, none⟩)) ∧ w.heap.size ≤ C ∧ RG bs w' C g vs ∧ Below w.heap.size w w' := by
  have HH := Aside0.mk h
  have lB := h.lt
  have ln := h.size
  have hrg : w.rangeAt B 0 (regC g vs).toList := fun j v hv => by
    rw [Nat.zero_add, cell_of_row _ _ j _ _ _ h.x]
    simpa using hv
  have hi53 : (Try.prog.info? 53).map (·.size) = some 153 := by kernel_rfl
  have kz := zeroRegs
  have lz : (rowC (List.replicate 38 hz) (List.replicate 38 nilS)).length = 152 := by rw [rowC_len] <;> simp
  generalize rowC (List.replicate 38 hz) (List.replicate 38 nilS) = R0 at kz lz
  have hst := run_storeCells_new (P := Try.prog) w 53 (Value.bool false :: R0).toArray (regC g vs) (by rw [ln]; kernel_rfl) (by rw [ln]; simp [lz]) h.one
  have HX : Aside0 (Below w.heap.size w (w.alloc (.cells (regC g vs) 53)) ∧ RG bs (w.alloc (.cells (regC g vs) 53)) w.heap.size g vs) := ⟨below_alloc (Below.refl _ _) _, ⟨heap_alloc_new _ _, h.n, h.m, fun i hi => Kd.R_below (h.r i hi) (below_alloc (Below.refl _ _) _), Nat.le_trans h.lb (below_alloc (Below.refl _ _) _).size⟩⟩
  generalize regC g vs = RC at *
  have HRG : Aside0 (w.rangeAt B 0 RC.toList ∧ (Try.prog.info? 53).map (·.size) = some RC.toList.length) := ⟨hrg, by rw [hi53, Array.length_toList, ln]⟩
  clear h hrg hi53
  go_enter Try.func17, Try.ntmps17
  go_wp2_with (first | (go_at_call 26; (with_reducible refine (good_w _ B g vs HH.out).mono ?_); rintro e w3 ⟨rfl, rfl⟩) | (with_reducible refine wp_load_mid 53 (.tmp 8) rfl B 0 rfl RC.toList _ HRG.out.1 Try.underlying53 rfl HRG.out.2 ?_) | (with_reducible refine wpList_load_mid rfl 53 (.tmp 8) rfl B 0 rfl RC.toList _ HRG.out.1 Try.underlying53 rfl HRG.out.2 ?_))
  go_ret
  exact ⟨_, rfl, Nat.le_refl _, HX.out.2, HX.out.1⟩
/-- Registers of the walk's own making, in any world behind. -/
structure ST (w W : World) (B : Nat) (g : List Hs) : Prop where
  bl : Below w.heap.size w W
  le : w.heap.size ≤ B
  gg : GG g
  rg : ∃ vs, RG 0 W B g vs
theorem ST.lt {w W : World} {B : Nat} {g : List Hs} (h : ST w W B g) : B < W.heap.size := by
  obtain ⟨vs, hr⟩ := h.rg
  exact hr.lt
theorem ST.below {w W W' : World} {B : Nat} {g : List Hs} (h : ST w W B g) (hb : Below W.heap.size W W') : ST w W' B g :=
  ⟨below_step h.bl hb, h.le, h.gg, by
    obtain ⟨vs, hr⟩ := h.rg
    exact ⟨vs, hr.below hb⟩⟩
theorem ST.turn {w W W' : World} {B : Nat} {g g' : List Hs} (h : ST w W B g) (hg : GG g') (hr : ∃ vs, RG 0 W' B g' vs) (hb : W.grownBy W' (some B)) : ST w W' B g' :=
  ⟨pw_below_grown h.bl (some B) h.bl.size hb (fun k e => by injection e with e; rw [← e]; exact h.le), h.le, hg, hr⟩
/-- Other registers, made beside. -/
theorem ST.beside {w W W' : World} {B C : Nat} {g g2 : List Hs} (h : ST w W C g2) (hr : ∃ vs, RG 0 W' C g2 vs) (hb : W.grownBy W' (some B)) (hB : w.heap.size ≤ B) : ST w W' C g2 :=
  ⟨pw_below_grown h.bl (some B) h.bl.size hb (fun k e => by injection e with e; rw [← e]; exact hB), h.le, h.gg, hr⟩
theorem RG.beside {w w' : World} {B C : Nat} {g g2 : List Hs} {vs vs2 : List Value} (h : RG bs w C g2 vs2) (hB : RG bs w B g vs) (hne : C ≠ B) (hG : w.grownBy w' (some B)) : RG bs w' C g2 vs2 :=
  ⟨blk_grown h.x hG (fun e => hne (by injection e)), h.n, h.m, fun i hi => keep_runs (h.r i hi) hB.x hG, Nat.le_trans h.lb hG.size⟩
theorem new_s (w W : World) (hb : Below w.heap.size w W) : Calls Try.prog 8 #[] W fun e w' => e = .returned (.pointer (some ⟨W.heap.size, 0, none⟩)) ∧ ST w w' W.heap.size (List.replicate 38 hz) ∧ Below W.heap.size W w' := by
  refine (new_w (bs := 0) W (Nat.zero_le _)).mono ?_
  rintro e w' ⟨rfl, hr, h2⟩
  exact ⟨rfl, ⟨below_step hb h2, hb.size, GG.new, _, hr⟩, h2⟩
theorem yank_s {w W : World} {B : Nat} {g : List Hs} (hs : ST w W B g) (x : En) (A : Option Addr) (c : Nat) (n : Int) (hx : RA W B A c x.l) (hl : x.l.length ≤ 100000) (h0 : -2147483648 ≤ n) (h1 : n ≤ 2147483647) :
    Calls Try.prog 19 #[.pointer (some ⟨B, 0, none⟩), .int .i32 n, eV x.s (.slice A x.l.length c) x.b] W fun e w' => e = .returned (.int .i64 (yankM g n x).2) ∧ ST w w' B (yankM g n x).1 ∧ W.grownBy w' (some B) := by
  obtain ⟨vs, hr⟩ := hs.rg
  refine (Yank_w W B g vs x A c n hr hx hs.gg hl h0 h1).mono ?_
  rintro e w' ⟨rfl, h2, h3⟩
  exact ⟨rfl, hs.turn (yankM_GG hs.gg n x) h2 h3, h3⟩
theorem delete_s {w W : World} {B : Nat} {g : List Hs} (hs : ST w W B g) (x : En) (A : Option Addr) (c : Nat) (n : Int) (wide : Bool) (hx : RA W B A c x.l) (hl : x.l.length ≤ 100000) (h0 : -2147483648 ≤ n) (h1 : n ≤ 2147483647) :
    Calls Try.prog 10 #[.pointer (some ⟨B, 0, none⟩), .int .i32 n, eV x.s (.slice A x.l.length c) x.b, .bool wide] W fun e w' => e = .returned (.int .i64 (delM g n x wide).2) ∧ ST w w' B (delM g n x wide).1 ∧ W.grownBy w' (some B) := by
  obtain ⟨vs, hr⟩ := hs.rg
  refine (Delete_w W B g vs x A c n wide hr hx hs.gg hl h0 h1).mono ?_
  rintro e w' ⟨rfl, h2, h3⟩
  exact ⟨rfl, hs.turn (delM_GG hs.gg n x wide) h2 h3, h3⟩
theorem get_s {w W : World} {B : Nat} {g : List Hs} (hs : ST w W B g) (n : Int) (h0 : -2147483648 ≤ n) (h1 : n ≤ 2147483647) :
    Calls Try.prog 12 #[.pointer (some ⟨B, 0, none⟩), .int .i32 n] W fun e w' => ∃ A c, e = .returned (.tuple #[eV (getM g n).1.s (.slice A (getM g n).1.l.length c) (getM g n).1.b, .int .i64 (getM g n).2]) ∧ Kd.R k58 58 w' W.heap.size (fun _ => True) (.slice A (getM g n).1.l.length c) (getM g n).1.l ∧ Below W.heap.size W w' := by
  obtain ⟨vs, hr⟩ := hs.rg
  refine (Get_w W B g vs n hr hs.gg h0 h1).mono ?_
  rintro e w' ⟨v, rfl, h2, h3⟩
  obtain ⟨A, c, e⟩ := Kd.R_slice h2
  subst e
  exact ⟨A, c, rfl, h2, h3⟩
theorem ra_of {w W : World} {B base : Nat} {g : List Hs} {A : Option Addr} {c : Nat} {l : List Rn} (hs : ST w W B g) (h : Kd.R k58 58 W base (fun _ => True) (.slice A l.length c) l) : RA W B A c l := by
  obtain ⟨vs, hr⟩ := hs.rg
  exact RA.of_R h hr.x
theorem one_w (s : ByteArray) (W : World) : Calls Try.prog 20 #[.string s] W fun e w' => ∃ A c, e = .returned (eV s (.slice A ([⟨1, 1⟩] : List Rn).length c) false) ∧ Kd.R k58 58 w' W.heap.size (fun _ => True) (.slice A ([⟨1, 1⟩] : List Rn).length c) ([⟨1, 1⟩] : List Rn) ∧ Below W.heap.size W w' := by
  refine (bureaulaw09_one.calls s s [⟨1, 1⟩] false W rfl).mono ?_
  rintro e w' ⟨v, rfl, h2, h3⟩
  obtain ⟨A, c, e⟩ := Kd.R_slice h2
  subst e
  exact ⟨A, c, rfl, h2, h3⟩
def oneE (b : UInt8) : En := ⟨⟨#[b]⟩, [⟨1, 1⟩], false⟩
def alG1 : List Hs := (yankM (List.replicate 38 hz) 113 (oneE 101)).1
def alG2 : List Hs := (yankM alG1 81 (oneE 102)).1
def alG3 : List Hs := (delM alG2 0 (oneE 98) true).1
theorem al1 : (yankM (List.replicate 38 hz) 113 (oneE 101)).2 = 0 := by kernel_rfl
theorem al2 : (yankM alG1 81 (oneE 102)).2 = 0 := by kernel_rfl
theorem al3 : (delM alG2 0 (oneE 98) true).2 = 0 := by kernel_rfl
theorem al4 : (getM alG3 113).2 = 0 := by kernel_rfl
theorem al5 : (getM alG3 0).2 = 0 := by kernel_rfl
theorem al6 : (getM alG3 113).1.s = ⟨#[101, 102]⟩ := by kernel_rfl
theorem al7 : (getM alG3 0).1.s = ⟨#[98]⟩ := by kernel_rfl

end Go.Proofs.Ytbcbfmhcoemnpaa.Ext

set_option linter.unusedVariables false
set_option linter.unusedSimpArgs false
namespace Go.Proofs.Ytbcbfmhcoemnpaa.Ext
open Go.RowKit Go.Lib Go.Proofs.YtbcbfmhcoemnpaaW.PrintWords Go.Proofs.YtbcbfmhcoemnpaaW.PrintMore Go.Proofs.Ytbcbfmhcoemnpaa.XRR

abbrev oneR (W : World) (base : Nat) (A : Option Addr) (c : Nat) : Prop := Kd.R k58 58 W base (fun _ => True) (.slice A ([⟨1, 1⟩] : List Rn).length c) ([⟨1, 1⟩] : List Rn)
set_option maxRecDepth 100000 in
set_option maxHeartbeats 8000000 in
theorem alive_w (w : World) : Calls Try.prog 7 #[] w fun e w' => e = .returned (.bool true) ∧ Below w.heap.size w w' := by
  have HB0 := Aside0.mk (Below.refl w.heap.size w)
  have HY1 : Aside0 (∀ W B A c base, ST w W B (List.replicate 38 hz) → oneR W base A c → Calls Try.prog 19 #[.pointer (some ⟨B, 0, none⟩), .int .i32 113, eV ⟨#[101]⟩ (.slice A 1 c) false] W fun e w' => e = .returned (.int .i64 0) ∧ ST w w' B alG1) := ⟨fun W B A c base hs hr => (yank_s hs (oneE 101) A c 113 (ra_of hs hr) (by decide) (by decide) (by decide)).mono (by rintro e w' ⟨rfl, h, -⟩; exact ⟨by rw [al1], h⟩)⟩
  have HY2 : Aside0 (∀ W B A c base, ST w W B alG1 → oneR W base A c → Calls Try.prog 19 #[.pointer (some ⟨B, 0, none⟩), .int .i32 81, eV ⟨#[102]⟩ (.slice A 1 c) false] W fun e w' => e = .returned (.int .i64 0) ∧ ST w w' B alG2) := ⟨fun W B A c base hs hr => (yank_s hs (oneE 102) A c 81 (ra_of hs hr) (by decide) (by decide) (by decide)).mono (by rintro e w' ⟨rfl, h, -⟩; exact ⟨by rw [al2], h⟩)⟩
  have HY3 : Aside0 (∀ W B A c base, ST w W B alG2 → oneR W base A c → Calls Try.prog 10 #[.pointer (some ⟨B, 0, none⟩), .int .i32 0, eV ⟨#[98]⟩ (.slice A 1 c) false, .bool true] W fun e w' => e = .returned (.int .i64 0) ∧ ST w w' B alG3) := ⟨fun W B A c base hs hr => (delete_s hs (oneE 98) A c 0 true (ra_of hs hr) (by decide) (by decide) (by decide)).mono (by rintro e w' ⟨rfl, h, -⟩; exact ⟨by rw [al3], h⟩)⟩
  have HG1 : Aside0 (∀ W B, ST w W B alG3 → Calls Try.prog 12 #[.pointer (some ⟨B, 0, none⟩), .int .i32 113] W fun e w' => ∃ A c, e = .returned (.tuple #[eV ⟨#[101, 102]⟩ (.slice A (getM alG3 113).1.l.length c) (getM alG3 113).1.b, .int .i64 0]) ∧ ST w w' B alG3) := ⟨fun W B hs => (get_s hs 113 (by decide) (by decide)).mono (by rintro e w' ⟨A, c, rfl, -, h⟩; exact ⟨A, c, by rw [al4, al6], hs.below h⟩)⟩
  have HG2 : Aside0 (∀ W B, ST w W B alG3 → Calls Try.prog 12 #[.pointer (some ⟨B, 0, none⟩), .int .i32 0] W fun e w' => ∃ A c, e = .returned (.tuple #[eV ⟨#[98]⟩ (.slice A (getM alG3 0).1.l.length c) (getM alG3 0).1.b, .int .i64 0]) ∧ ST w w' B alG3 ∧ Below W.heap.size W w') := ⟨fun W B hs => (get_s hs 0 (by decide) (by decide)).mono (by rintro e w' ⟨A, c, rfl, -, h⟩; exact ⟨A, c, by rw [al5, al7], hs.below h, h⟩)⟩
  generalize (getM alG3 0).1.l.length = n1 at HG2
  generalize (getM alG3 0).1.b = b1 at HG2
  generalize (getM alG3 113).1.l.length = n2 at HG1
  generalize (getM alG3 113).1.b = b2 at HG1
  go_enter Try.func7, Try.ntmps7
  go_wp2_with (first | (go_at_call 20; (with_reducible refine (one_w _ _).mono ?_); rintro e w2 ⟨A2, c2, rfl, hr2, hb2⟩; have HS := Aside0.mk (HS.out.below hb2); have HR2 := Aside0.mk hr2; clear hr2 hb2) | (go_at_call 8; (with_reducible refine (new_s w _ HB0.out).mono ?_); rintro e w1 ⟨rfl, hs1, hb1⟩; have HS := Aside0.mk hs1; clear hs1 hb1) | (go_at_call 19; (with_reducible refine (HY1.out _ _ _ _ _ HS.out HR2.out).mono ?_); rintro e w3 ⟨rfl, hs3⟩; have HS := Aside0.mk hs3; clear hs3) | (go_at_call 19; (with_reducible refine (HY2.out _ _ _ _ _ HS.out HR2.out).mono ?_); rintro e w3 ⟨rfl, hs3⟩; have HS := Aside0.mk hs3; clear hs3) | (go_at_call 10; (with_reducible refine (HY3.out _ _ _ _ _ HS.out HR2.out).mono ?_); rintro e w3 ⟨rfl, hs3⟩; have HS := Aside0.mk hs3; clear hs3) | (go_at_call 12; (with_reducible refine (HG1.out _ _ HS.out).mono ?_); rintro e w4 ⟨A4, c4, rfl, hs4⟩; have HS := Aside0.mk hs4; clear hs4) | (go_at_call 12; (with_reducible refine (HG2.out _ _ (HS.out.below (below_alloc (Below.refl _ _) _))).mono ?_); rintro e w5 ⟨A5, c5, rfl, hs5, hb5⟩; have HS := Aside0.mk hs5; have bx5 := (hb5.block w4.heap.size (by simp)).trans (heap_alloc_new w4 _); have x0 := cell_of_row w5 w4.heap.size 0 _ _ _ bx5; have lx := blk_lt bx5; clear hs5 hb5 bx5))
  go_ret
  exact ⟨rfl, below_alloc HS.out.bl _⟩

end Go.Proofs.Ytbcbfmhcoemnpaa.Ext

set_option linter.unusedVariables false
set_option linter.unusedSimpArgs false
namespace Go.Proofs.Ytbcbfmhcoemnpaa.Ext
open Go.RowKit Go.Lib Go.Proofs.YtbcbfmhcoemnpaaW.PrintWords Go.Proofs.YtbcbfmhcoemnpaaW.PrintMore Go.Proofs.Ytbcbfmhcoemnpaa.XRR

theorem C_map {α β : Type} {d : Kd α} {d' : Kd β} (f : α → β) (hs : d.sz = d'.sz) (h : ∀ w x cs, d.K w x cs → d'.K w (f x) cs) {w : World} {A : Option Addr} {n : Nat} {xs : List α} (hc : d.C w A n xs) : d'.C w A n (xs.map f) := by
  obtain ⟨h1, h2, h3⟩ := hc
  refine ⟨by rw [List.length_map]; exact h1, h2, fun hn => ?_⟩
  obtain ⟨ad, hA, hcell⟩ := h3 hn
  refine ⟨ad, hA, fun j p hj => ?_⟩
  rw [List.getElem?_map] at hj
  cases e : xs[j]? with
  | none => rw [e] at hj; cases hj
  | some x =>
    rw [e] at hj
    cases hj
    obtain ⟨c, hl, hk, hcc⟩ := hcell j x e
    rw [hs] at hl hcc
    exact ⟨c, hl, h w x c hk, hcc⟩
def fitB (s : ByteArray) (m : List Rn) : Bool := decide (s.size ≤ 5000 ∧ m.length ≤ 5000)
theorem fit_f (s : ByteArray) (m : List Rn) : bureaulaw04_Fits.f s m = some (fitB s m) := by
  unfold bureaulaw04_Fits.f fitB
  by_cases c : (s.size : Int) ≤ 5000
  · rw [if_pos c]
    congr 1
    exact decide_eq_decide.2 (by constructor <;> intro h <;> omega)
  · rw [if_neg c, decide_eq_false (by omega)]
def doM (g : List Hs) (n : Int) (x : En) (cut wide : Bool) : List Hs × Int := if cut = true then delM g n x wide else yankM g n x
abbrev aV (n : Int) (s : ByteArray) (v : Value) (b cut wide : Bool) : Value := .agg #[.int .i32 n, .string s, v, .bool b, .bool cut, .bool wide]
set_option maxRecDepth 100000 in
set_option maxHeartbeats 8000000 in
theorem does_w {w W : World} {B : Nat} {g : List Hs} (hs : ST w W B g) (x : En) (A : Option Addr) (c : Nat) (n : Int) (cut wide : Bool) (hx : RA W B A c x.l) (hl : x.l.length ≤ 100000) (h0 : -2147483648 ≤ n) (h1 : n ≤ 2147483647) :
    Calls Try.prog 15 #[.pointer (some ⟨B, 0, none⟩), aV n x.s (.slice A x.l.length c) x.b cut wide] W fun e w' => e = .returned (.int .i64 (doM g n x cut wide).2) ∧ ST w w' B (doM g n x cut wide).1 ∧ W.grownBy w' (some B) := by
  have HB := below_alloc (Below.refl W.heap.size W) (.cells #[.int .i32 n, .string x.s, .slice A x.l.length c, .bool x.b, .bool cut, .bool wide] 42)
  have HDE := Aside0.mk (delete_s (hs.below HB) x A c n wide (hx.below HB) hl h0 h1)
  have HYA := Aside0.mk (yank_s (hs.below HB) x A c n (hx.below HB) hl h0 h1)
  have HB2 := Aside0.mk HB
  clear hs hx hl HB
  cases cut
  · have e : doM g n x false wide = yankM g n x := if_neg (by decide)
    rw [e]
    clear e HDE
    go_enter Try.func15, Try.ntmps15
    go_wp2_with (first | (go_at_call 19; (with_reducible refine HYA.out.mono ?_); rintro e w2 ⟨rfl, hs2, hg2⟩; have HS2 := Aside0.mk hs2; have HG2 := Aside0.mk hg2; clear hs2 hg2))
    go_ret
    exact ⟨rfl, HS2.out, two_grown (grown_of_below HB2.out _) HG2.out⟩
  · have e : doM g n x true wide = delM g n x wide := if_pos rfl
    rw [e]
    clear e HYA
    go_enter Try.func15, Try.ntmps15
    go_wp2_with (first | (go_at_call 10; (with_reducible refine HDE.out.mono ?_); rintro e w2 ⟨rfl, hs2, hg2⟩; have HS2 := Aside0.mk hs2; have HG2 := Aside0.mk hg2; clear hs2 hg2))
    go_ret
    exact ⟨rfl, HS2.out, two_grown (grown_of_below HB2.out _) HG2.out⟩
theorem doM_GG {g : List Hs} (hG : GG g) (n : Int) (x : En) (cut wide : Bool) : GG (doM g n x cut wide).1 := by
  unfold doM
  split
  · exact delM_GG hG n x wide
  · exact yankM_GG hG n x
/-! What a call leaves as it was. -/
theorem letM_err {g : List Hs} {n : Int} {x : En} (h : (letM g n x).2.2 ≠ 0) : (letM g n x).1 = g := by
  unfold letM at h ⊢
  split at h
  · rename_i c; rw [if_pos c]
  · rename_i c; rw [if_neg c]
    split at h
    · rename_i c2; rw [if_pos c2]
    · rename_i c2; rw [if_neg c2]
      split at h
      · rename_i c3; rw [if_pos c3]
        split at h
        · rename_i c4; rw [if_pos c4]
        · exact absurd rfl h
      · exact absurd rfl h
theorem doM_err {g : List Hs} {n : Int} {x : En} {cut wide : Bool} (h : (doM g n x cut wide).2 ≠ 0) : (doM g n x cut wide).1 = g := by
  unfold doM at h ⊢
  cases hd : (letM g n x).2.1
  · have hk := letM_good hd
    split at h
    · exfalso
      unfold delM at h
      rw [if_neg (by rw [hd]; decide)] at h
      split at h <;> exact h rfl
    · exfalso
      unfold yankM at h
      rw [if_neg (by rw [hd]; decide)] at h
      exact h hk.2.1
  · split at h
    · rename_i c; rw [if_pos c]; rw [delM_1 hd] at h ⊢; exact letM_err h
    · rename_i c; rw [if_neg c]
      have e : yankM g n x = ((letM g n x).1, (letM g n x).2.2) := if_pos hd
      rw [e] at h ⊢
      exact letM_err h
theorem doM_done {g : List Hs} {n : Int} {x : En} {cut wide : Bool} (hd : (letM g n x).2.1 = true) : (doM g n x cut wide).1 = (letM g n x).1 := by
  unfold doM
  split
  · rw [delM_1 hd]
  · have e : yankM g n x = ((letM g n x).1, (letM g n x).2.2) := if_pos hd
    rw [e]
theorem doM_us {g : List Hs} {x : En} {cut wide : Bool} : (doM g 95 x cut wide).1 = g := by
  have hp : pIs 95 = false := by decide
  cases hg : goodT x.s x.l
  · have e : letM g 95 x = (g, true, 2) := if_pos (.inr hg)
    rw [doM_done (by rw [e]), e]
  · have e : letM g 95 x = (g, true, 0) := by unfold letM; rw [if_neg (by simp [hg]), if_pos hp]; rfl
    rw [doM_done (by rw [e]), e]
theorem put2_gd (g : List Hs) (x : En) (k i : Nat) (h1 : i ≠ k) (h2 : i ≠ 37) : gd (putM g x [k, 37]) i = gd g i := by
  show gd ((g.set k _).set 37 _) i = _
  rw [gd_set, if_neg (fun h => h2 h.1.symm), gd_set, if_neg (fun h => h1 h.1.symm)]
theorem doM_letter {g : List Hs} {n : Int} {x : En} {cut wide : Bool} (hp : pIs n = true) (i : Nat) (h1 : i ≠ pAt n) (h2 : i ≠ 37) : gd (doM g n x cut wide).1 i = gd g i := by
  have hd : (letM g n x).2.1 = true := by
    unfold letM
    split
    · rfl
    · split
      · rename_i c; rw [hp] at c; cases c
      · split
        · split <;> rfl
        · rfl
  rw [doM_done hd]
  unfold letM
  split
  · rfl
  · split
    · rfl
    · split
      · split
        · rfl
        · exact put2_gd _ _ _ _ h1 h2
      · exact put2_gd _ _ _ _ h1 h2
/-- The name that the law compares with. -/
def lowN (n : Int) : Int := if 65 ≤ n ∧ n ≤ 90 then n + 32 else n
theorem beside {g : List Hs} {n : Int} {x : En} {cut wide : Bool} {k : Int} (hk : k = 34 ∨ k = 45 ∨ (48 ≤ k ∧ k ≤ 57) ∨ (97 ≤ k ∧ k ≤ 122))
    (h1 : ¬ ((doM g n x cut wide).2 = 0 ∧ lowN n ≠ 95 ∧ (lowN n < 97 ∨ lowN n > 122))) (h2 : ¬ ((doM g n x cut wide).2 = 0 ∧ lowN n ≠ 95 ∧ (k = lowN n ∨ k = 34))) :
    getM (doM g n x cut wide).1 k = getM g k := by
  by_cases he : (doM g n x cut wide).2 = 0
  · by_cases hu : lowN n = 95
    · have hn : n = 95 := by unfold lowN at hu; split at hu <;> omega
      subst hn
      rw [doM_us]
    · have hz : 97 ≤ lowN n ∧ lowN n ≤ 122 := by
        by_cases a : 97 ≤ lowN n
        · by_cases b : lowN n ≤ 122
          · exact ⟨a, b⟩
          · exact absurd ⟨he, hu, .inr (by omega)⟩ h1
        · exact absurd ⟨he, hu, .inl (by omega)⟩ h1
      have hp : pIs n = true := by
        unfold pIs
        unfold lowN at hz
        split at hz <;> simp <;> omega
      have hat : (pAt n : Int) = lowN n - 87 := by
        unfold pAt lowN at *
        split <;> (try split) <;> (try split at hz) <;> omega
      have hne : ¬ (k = lowN n ∨ k = 34) := fun h => h2 ⟨he, hu, h⟩
      have key : ∀ i, getI k = some i → i ≠ pAt n ∧ i ≠ 37 := by
        intro i hi
        unfold getI at hi
        split at hi
        · rename_i hpk
          have e : i = pAt k := by injection hi with hi; exact hi.symm
          have : pIs k = true := hpk
          have hk2 : 97 ≤ k ∧ k ≤ 122 := by
            rcases hk with h | h | h | h
            · subst h; revert hpk; decide
            · subst h; revert hpk; decide
            · exfalso; revert hpk; unfold pIs; simp; omega
            · exact h
          have e2 : (i : Int) = k - 87 := by rw [e]; unfold pAt; rw [if_pos hk2]; omega
          exact ⟨fun h => hne (.inl (by omega)), by omega⟩
        · split at hi
          · rename_i hpk c
            exfalso
            rcases c with c | c
            · omega
            · exact hne (.inr c)
          · split at hi
            · have e : i = 36 := by injection hi with hi; exact hi.symm
              exact ⟨by omega, by omega⟩
            · split at hi
              · have e : i = (k - 48).toNat := by injection hi with hi; exact hi.symm
                exact ⟨by omega, by omega⟩
              · cases hi
      unfold getM
      cases hi : getI k with
      | none => rfl
      | some i =>
        obtain ⟨a, b⟩ := key i hi
        simp only [doM_letter hp i a b]
  · rw [doM_err he]
/-- The document's sameness, of one entry and the same. -/
theorem same9 (s : ByteArray) (l : List Rn) (b : Bool) (hl : l.length ≤ 100000) : bureauref09_Same.f (l.length + 1) s l b s l b = some true := by
  unfold bureauref09_Same.f bureauref04_Same.f
  rw [if_pos rfl, dSame l l (by omega) _ (by omega), Option.bind_some, decide_eq_true rfl, Option.bind_some, if_pos rfl]
  cases b <;> rfl
theorem same4 (s : ByteArray) (l : List Rn) (hl : l.length ≤ 100000) : bureauref04_Same.f (l.length + 1) s l s l = some true := by
  unfold bureauref04_Same.f
  rw [if_pos rfl, dSame l l (by omega) _ (by omega), Option.bind_some, decide_eq_true rfl]

end Go.Proofs.Ytbcbfmhcoemnpaa.Ext
