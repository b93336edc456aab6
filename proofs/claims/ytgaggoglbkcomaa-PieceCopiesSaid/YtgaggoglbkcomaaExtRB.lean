/- runs: gather's add, by its walk. -/
import Derived.Test.YtgaggoglbkcomaaExtRA
import Derived.Test.YtgaggoglbkcomaaXRRx0
import Derived.Test.YtgaggoglbkcomaaWMore
import Derived.WalkKit
import Derived.WalkMore
import Derived.Below
import Derived.KernelRfl
import Derived.LoopTactic
import Derived.Deep.RegionWith
import Derived.Deep.RegionHeld3
import Derived.IntWalk
import Derived.Deep.DeepCutAuto
import Derived.Deep.CutBlock
import Derived.BigQuiet
import Derived.Laws.RangeString
import Derived.Laws.RangeAny
import Derived.Laws.Rows
import Derived.Laws.Runes
import Derived.Lib.OthersKept
import Derived.OpenShut
set_option linter.unusedVariables false
set_option linter.unusedSimpArgs false
namespace Go.Proofs.Ytgaggoglbkcomaa.Ext
open Go.RowKit Go.Lib Go.Proofs.YtgaggoglbkcomaaW.PrintWords Go.Proofs.YtgaggoglbkcomaaW.PrintMore Go.Proofs.Ytgaggoglbkcomaa.XRR

structure Gs (w0 w : World) (base b : Nat) (xs : List Rn) : Prop where
  lb : base ≤ b
  sz : base ≤ w.heap.size
  hb : Below base w0 w
  out : ∃ v, w.heap[b]? = some (.cells #[v] 22 (0, 0)) ∧ Kd.R k29 29 w base (fun _ => True) v xs
theorem Gs.lt {w0 w : World} {base b : Nat} {xs : List Rn} (h : Gs w0 w base b xs) : b < w.heap.size := by
  obtain ⟨v, e, _⟩ := h.out
  exact (Array.getElem?_eq_some_iff.1 e).1
theorem Gs.below {w0 w w' : World} {base b : Nat} {xs : List Rn} (h : Gs w0 w base b xs) (hb : Below w.heap.size w w') : Gs w0 w' base b xs := by
  obtain ⟨v, e, hr⟩ := h.out
  exact ⟨h.lb, Nat.le_trans h.sz hb.size, ⟨hb.os.trans h.hb.os, hb.tape.trans h.hb.tape, hb.output.trans h.hb.output, Nat.le_trans h.hb.size hb.size, fun k hk => (hb.block k (Nat.lt_of_lt_of_le hk h.sz)).trans (h.hb.block k hk)⟩, v, (hb.block b (Array.getElem?_eq_some_iff.1 e).1).trans e, Kd.R_below hr hb⟩
theorem tyR {α : Type} {d : Kd α} {e : TypeId} {w : World} {base : Nat} {ok : Nat → Prop} {v : Value} {xs : List α} (h : d.R e w base ok v xs) : ∀ k, v.ownBlock = some k → ∃ cells, w.heap[k]? = some (.cells cells e (0, 0)) := by
  obtain ⟨inner, ho⟩ := Kd.R_own h
  exact fun k hk => own_typed ho k hk
/-- All but a variable and a row stay. -/
structure KeepV (w w' : World) (b : Nat) (v : Value) : Prop where
  sz : w.heap.size ≤ w'.heap.size
  k : ∀ i, i < w.heap.size → i ≠ b → some i ≠ v.ownBlock → w'.heap[i]? = w.heap[i]?
/-- What gather's add leaves: all but its own variable and its row. -/
def Keep (w w' : World) (b : Nat) : Prop := ∀ v, w.heap[b]? = some (.cells #[v] 22 (0, 0)) → KeepV w w' b v
theorem KeepV.of {w w' : World} {b : Nat} {v : Value} (h : Below w.heap.size w w') : KeepV w w' b v := ⟨h.size, fun i hi _ _ => h.block i hi⟩
theorem KeepV.trans {a w w' : World} {b : Nat} {v : Value} (h : KeepV a w b v) (k : KeepV w w' b v) : KeepV a w' b v :=
  ⟨Nat.le_trans h.sz k.sz, fun i hi hb ht => (k.k i (Nat.lt_of_lt_of_le hi h.sz) hb ht).trans (h.k i hi hb ht)⟩
theorem KeepV.grown {w w' : World} {b : Nat} {v : Value} (hg : w.grownBy w' v.ownBlock) : KeepV w w' b v := ⟨hg.size, fun i hi _ ht => hg.block i hi ht⟩
theorem KeepV.setb (w : World) (b j : Nat) (u v : Value) : KeepV w (w.setCell ⟨b, j, none⟩ u) b v :=
  ⟨by simp [World.setCell], fun i _ hb _ => Below.heap_setCell w ⟨b, j, none⟩ u i hb⟩
theorem KeepV.setg {w : World} {b g j : Nat} {v u : Value} (hv : v.ownBlock = some g) : KeepV w ((w.setCell ⟨g, j, none⟩ u).drew) b v :=
  ⟨by simp [World.setCell], fun i _ _ ht => (Below.heap_setCell w ⟨g, j, none⟩ u i (fun e => ht (by rw [hv]; exact congrArg some e)))⟩
theorem KeepV.keep {w w' : World} {b : Nat} {v : Value} (hx : w.heap[b]? = some (.cells #[v] 22 (0, 0))) (h : KeepV w w' b v) : Keep w w' b := fun v' hv' => by
  rw [hx] at hv'
  injection hv' with hv'
  injection hv' with hv'
  injection hv' with hv'
  injection hv' with hv'
  subst hv'
  exact h
theorem Keep.of {w w' : World} {b : Nat} (h : Below w.heap.size w w') : Keep w w' b := fun _ _ => KeepV.of h
theorem Gs.put {w0 w : World} {base b : Nat} {xs : List Rn} {u v : Value} (hx : w.heap[b]? = some (.cells #[u] 22 (0, 0))) (hr : Kd.R k29 29 w base (fun _ => True) v xs) (lb : base ≤ b) (sz : base ≤ w.heap.size) (hb : Below base w0 w) : Gs w0 (w.setCell ⟨b, 0, none⟩ v) base b xs :=
  ⟨lb, by simpa [World.setCell] using sz, ⟨by simpa [World.setCell] using hb.os, by simpa [World.setCell] using hb.tape, by simpa [World.setCell] using hb.output, by simpa [World.setCell] using hb.size, fun k hk => (Below.heap_setCell w ⟨b, 0, none⟩ v k (by simp only; omega)).trans (hb.block k hk)⟩, v, one_setCell hx, Kd.R_set hr hx (by decide) _ _⟩
theorem Gs.bump {w0 w : World} {base b g j : Nat} {xs ys : List Rn} {u v y : Value} (hx : w.heap[b]? = some (.cells #[u] 22 (0, 0))) (hr : Kd.R k29 29 w base (fun _ => True) v xs) (h : Gs w0 w base b xs) (hs : Kd.R k29 29 (w.setCell ⟨g, j, none⟩ y) base (fun _ => True) u ys) (hg : base ≤ g) (hv : v.ownBlock = some g) : Gs w0 ((w.setCell ⟨g, j, none⟩ y).drew) base b ys := by
  have hne : b ≠ g := fun e => Kd.R_ne hr hx (by decide) (by rw [hv, e])
  have hb := h.hb
  refine ⟨h.lb, by simpa [World.setCell] using h.sz, below_drew ⟨by simpa [World.setCell] using hb.os, by simpa [World.setCell] using hb.tape, by simpa [World.setCell] using hb.output, by simpa [World.setCell] using hb.size, fun k hk => (Below.heap_setCell w ⟨g, j, none⟩ y k (by simp only; omega)).trans (hb.block k hk)⟩, u, ?_, Kd.R_drew hs⟩
  exact (Below.heap_setCell w ⟨g, j, none⟩ y b hne).trans hx
theorem getLast_get {xs : List Rn} {n : Nat} (hn : xs.length = n + 1) : xs.getLast? = some (xs[n]'(by omega)) := by
  rw [List.getLast?_eq_getElem?, show xs.length - 1 = n by omega, List.getElem?_eq_getElem (by omega)]
theorem rd43 (L : List Rn) (j : Nat) (h : j < L.length) : rd_T29 L (j : Int) = L[j] := by
  unfold rd_T29
  rw [Int.toNat_natCast, List.getD_eq_getElem?_getD, List.getElem?_eq_getElem h]
  rfl
theorem set_last {xs : List Rn} {n : Nat} (hn : xs.length = n + 1) (y : Rn) : xs.set n y = xs.dropLast ++ [y] := by
  have h : xs = xs.dropLast ++ [xs[n]'(by omega)] := last_split (getLast_get hn)
  have hl : xs.dropLast.length = n := by rw [List.length_dropLast]; omega
  rw [h]
  generalize xs.dropLast = d at hl
  rw [List.dropLast_concat, List.set_append_right _ _ (by omega), hl, Nat.sub_self]
  rfl
theorem addR_new {xs : List Rn} {r : Rn} (hr : 1 ≤ r.f1) (h : ∀ x, xs.getLast? = some x → x.f0 ≠ r.f0) : addR xs r = xs ++ [r] := by
  unfold addR
  rw [if_neg (by omega)]
  cases e : xs.getLast? with
  | none => rfl
  | some x => simp only; rw [if_neg (h x e)]
theorem addR_bump {xs : List Rn} {n : Nat} (hn : xs.length = n + 1) {r : Rn} (hr : 1 ≤ r.f1) (h : (xs[n]'(by omega)).f0 = r.f0) : addR xs r = xs.set n ⟨(xs[n]'(by omega)).f0, (xs[n]'(by omega)).f1 + r.f1⟩ := by
  unfold addR
  rw [if_neg (by omega), getLast_get hn]
  simp only
  rw [if_pos h, set_last hn]
theorem seg_last (W : World) (base g cap : Nat) (xs : List Rn) (n : Nat) (hn : xs.length = n + 1) (m : Int) (h : Kd.R k29 29 W base (fun _ => True) (.slice (some ⟨g, 0, none⟩) xs.length cap) xs) :
    W.cell? ⟨g, n * 2, none⟩ = some (.int .u64 (xs[n]'(by omega)).f0) ∧ W.cell? ⟨g, n * 2 + 1, none⟩ = some (.int .i64 (xs[n]'(by omega)).f1) ∧ W.frozen? ⟨g, n * 2 + 1, none⟩ = false ∧ Kd.R k29 29 (W.setCell ⟨g, n * 2 + 1, none⟩ (.int .i64 m)) base (fun _ => True) (.slice (some ⟨g, 0, none⟩) xs.length cap) (xs.set n ⟨(xs[n]'(by omega)).f0, m⟩) ∧ W.grownBy (W.setCell ⟨g, n * 2 + 1, none⟩ (.int .i64 m)) (some g) := by
  have hni : (n : Int) < (xs.length : Int) := by omega
  obtain ⟨ce, hcl, hM, hcc, hfr⟩ := Kd.R_elem h z29 (n : Int) (by omega) hni
  have hM2 := k29_openM hM
  subst hM2
  have hrd := rd43 xs n (by omega)
  unfold rd_T29 at hrd
  rw [hrd] at hcc
  have hs := Kd.R_seg h (n : Int) (by omega) hni (seg := [.int .i64 m]) (j := 1) (c := [.int .u64 (xs[n]'(by omega)).f0, .int .i64 (xs[n]'(by omega)).f1]) rfl hcc (show 2 ≤ 2 from by decide) (x' := (⟨(xs[n]'(by omega)).f0, m⟩ : Rn)) (okp := fun _ => False) (k29_mkM _ _ _ (⟨(xs[n]'(by omega)).f0, m⟩ : Rn)) (fun _ hk => hk.elim)
  rw [Int.toNat_natCast] at hs
  refine ⟨by have h := hcc 0 _ rfl; rwa [Int.toNat_natCast] at h, by have h := hcc 1 _ rfl; rwa [Int.toNat_natCast] at h, by have h := hfr 1; rwa [Int.toNat_natCast] at h, ?_, ?_⟩
  · exact hs.1
  · exact hs.2
set_option maxRecDepth 100000 in
set_option maxHeartbeats 8000000 in
theorem add_lt (w0 w : World) (base b : Nat) (xs : List Rn) (r0 r1 : Int) (h : Gs w0 w base b xs) (hr : r1 < 1) :
    Calls Try.prog 59 #[.agg #[.int .u64 r0, .int .i64 r1], .pointer (some ⟨b, 0, none⟩)] w fun e w' => e = .returned (.tuple #[]) ∧ Gs w0 w' base b (addR xs ⟨r0, r1⟩) ∧ Keep w w' b := by
  have ez : addR xs ⟨r0, r1⟩ = xs := by unfold addR; rw [if_pos hr]
  rw [ez]
  have HS := Aside0.mk h
  have cr : decide (r1 < 1) = true := decide_eq_true hr
  clear ez h hr
  go_enter Try.func59, Try.ntmps59
  go_wp2
  exact bodyPost_ret (v := .tuple #[]) (by simp [results, Try.results59, go_sem]) rfl ⟨rfl, HS.out.below (below_alloc (Below.refl _ _) _), Keep.of (below_alloc (Below.refl _ _) _)⟩
set_option maxRecDepth 100000 in
set_option maxHeartbeats 8000000 in
theorem add_ge (w0 w : World) (base b : Nat) (xs : List Rn) (r0 r1 : Int) (h : Gs w0 w base b xs) (hr : 1 ≤ r1) (hl : xs.length ≤ 100000) (hx : ∀ x, x ∈ xs → 0 ≤ x.f1 ∧ x.f1 + r1 ≤ 9000000000000000000) :
    Calls Try.prog 59 #[.agg #[.int .u64 r0, .int .i64 r1], .pointer (some ⟨b, 0, none⟩)] w fun e w' => e = .returned (.tuple #[]) ∧ Gs w0 w' base b (addR xs ⟨r0, r1⟩) ∧ Keep w w' b := by
  have cr : decide (r1 < 1) = false := decide_eq_false (by omega)
  have hlb := h.lt
  obtain ⟨v, hxv, hrv⟩ := h.out
  obtain ⟨Av, cv, ev⟩ := Kd.R_slice hrv
  subst ev
  have HS1 := Aside0.mk (h.below (below_alloc (Below.refl _ _) (.cells #[.int .u64 r0, .int .i64 r1] 29)))
  have HX1 := Aside0.mk ((Below.heap_alloc w (.cells #[.int .u64 r0, .int .i64 r1] 29) b hlb).trans hxv)
  have HR1 := Aside0.mk (Kd.R_alloc hrv (.cells #[.int .u64 r0, .int .i64 r1] 29))
  have HRR := Aside0.mk hr
  have ccb := cell_of_one hxv
  have HXV := Aside0.mk hxv
  clear hxv h hr
  by_cases hemp : xs.length = 0
  · have hz : addR xs ⟨r0, r1⟩ = xs ++ [⟨r0, r1⟩] := addR_new HRR.out (fun x hx => by rw [List.eq_nil_of_length_eq_zero hemp] at hx; cases hx)
    rw [hz]
    have cb : decide (0 < xs.length) = false := decide_eq_false (by omega)
    clear hz hx hrv hemp
    go_enter Try.func59, Try.ntmps59
    go_upto_region 3 with (fail)
    go_cut [21] from 9 to 21 (fun bb wc => ∃ wc1, wc1 = wc ∧ bb = .bool false ∧ Aside0 (Below ((w.alloc (.cells #[.int .u64 r0, .int .i64 r1] 29))).heap.size ((w.alloc (.cells #[.int .u64 r0, .int .i64 r1] 29))) wc1))
    case first =>
      go_quiet (fail)
      go_wp2
      go_meet
      exact ⟨_, rfl, rfl, ⟨pw_below_drewN (Below.refl _ _) _⟩⟩
    case rest =>
      obtain ⟨wc, rfl, rfl, HB3⟩ := hcut
      have HS3 := Aside0.mk ((HS1.out.below HB3.out)); have hx3 := (HB3.out.block b HS1.out.lt).trans HX1.out; have HX3 := Aside0.mk hx3; have HR3 := Aside0.mk (Kd.R_below HR1.out HB3.out); have cc3 := cell_of_one hx3; have fz3 := free_of_one hx3; have hbox := (HB3.out.block w.heap.size (by simp)).trans (heap_alloc_new w (.cells #[.int .u64 r0, .int .i64 r1] 29)); have bx0 : wc.cell? ⟨w.heap.size, 0, none⟩ = some (.int .u64 r0) := (by rw [cell_of_row _ _ _ _ _ _ hbox]; rfl); have bx1 : wc.cell? ⟨w.heap.size, 1, none⟩ = some (.int .i64 r1) := (by rw [cell_of_row _ _ _ _ _ _ hbox]; rfl); have lb3 : b < wc.heap.size := (Array.getElem?_eq_some_iff.1 hx3).1; have lw3 : w.heap.size < wc.heap.size := (Array.getElem?_eq_some_iff.1 hbox).1; clear hx3 hbox
      go_wp2_with (first | ((with_reducible refine gate_builtin (b := .append) (xs := #[.tmp 33, .tmp 35]) rfl ?_); at_builtin; refine Kd.R_append k29 (w0 := w0) base rfl (.tmp 33) (.tmp 35) 22 29 (.agg #[(.int .u64 0), (.int .i64 0)]) 16 rfl Try.underlying22 (by kernel_rfl) rfl (by decide) (by omega) _ xs (⟨r0, r1⟩ : Rn) [.int .u64 r0, .int .i64 r1] (fun _ => True) (fun _ => False) rfl ?aX ?aP (fun _ hk => hk.elim) ?aF ?aO ?aB ?aS ?aL ?_; (case aX => simp [Act.eval]); (case aP => exact k29_mkM _ _ _ (⟨r0, r1⟩ : Rn)); (case aB => exact HS3.out.hb); (case aF => exact fun _ _ => trivial); (case aO => exact HR3.out); (case aS => exact HS3.out.sz); (case aL => omega); intro v1 w7 ho hb7 hg hat; have hx7 := (hg.block b HS3.out.lt (Kd.R_ne HR3.out HX3.out (by decide))).trans HX3.out; have ln7 : b < w7.heap.size := (Array.getElem?_eq_some_iff.1 hx7).1; have fz7 := free_of_one hx7; have cc7 := cell_of_one hx7; have HO7 := Aside0.mk ho; have HX7 := Aside0.mk hx7; have HB7 := Aside0.mk hb7; obtain ⟨A7, c7, e7⟩ := Kd.R_slice ho; rw [List.length_append, List.length_singleton] at e7; subst e7; have HK7 := Aside0.mk (KeepV.grown (b := b) hg); have HSZ7 := Aside0.mk (Nat.le_trans HS3.out.sz hg.size); clear ho hb7 hg hat hx7))
      go_end0
      exact ⟨rfl, Gs.put HX7.out HO7.out HS3.out.lb HSZ7.out HB7.out, ((((KeepV.of (below_alloc (Below.refl _ _) _)).trans (KeepV.of HB3.out)).trans HK7.out).trans (KeepV.setb _ _ _ _ _)).keep HXV.out⟩
  · obtain ⟨n, hn⟩ : ∃ n, xs.length = n + 1 := ⟨xs.length - 1, by omega⟩
    have hnl : n < xs.length := by omega
    obtain ⟨g, cap, ev, hbg, hlg, _⟩ := Kd.R_form hrv (by omega)
    cases ev
    have hxl := hx _ (List.getElem_mem hnl)
    have hsub : IntKind.i64.wrap ((xs.length : Int) - 1) = (n : Int) := by rw [show IntKind.i64.wrap ((xs.length : Int) - 1) = wrap64 ((xs.length : Int) - 1) from by unfold wrap64; exact IntKind.wrap_i64 _, IntWalk.wrap64_in _ ⟨by omega, by omega⟩]; omega
    have cb : decide (0 < xs.length) = true := decide_eq_true (by omega)
    have hni : (n : Int) < (xs.length : Int) := by omega
    have HNL := Aside0.mk hn
    obtain ⟨ce, hcl, hM, hcc, hfr⟩ := Kd.R_elem HR1.out z29 (n : Int) (by omega) hni
    have hM2 := k29_openM hM
    subst hM2
    have hrd := rd43 xs n hnl
    unfold rd_T29 at hrd
    rw [hrd] at hcc
    have y0 : ((w.alloc (.cells #[.int .u64 r0, .int .i64 r1] 29))).cell? ⟨g, n * 2, none⟩ = some (.int .u64 xs[n].f0) := by have h := hcc 0 _ rfl; rwa [Int.toNat_natCast] at h
    have y1 : ((w.alloc (.cells #[.int .u64 r0, .int .i64 r1] 29))).cell? ⟨g, n * 2 + 1, none⟩ = some (.int .i64 xs[n].f1) := by have h := hcc 1 _ rfl; rwa [Int.toNat_natCast] at h
    by_cases hL : xs[n].f0 = r0
    · have hz : addR xs ⟨r0, r1⟩ = xs.set n ⟨xs[n].f0, xs[n].f1 + r1⟩ := addR_bump hn HRR.out hL
      rw [hz]
      have hsum : IntKind.i64.wrap (xs[n].f1 + r1) = xs[n].f1 + r1 := by rw [show IntKind.i64.wrap (xs[n].f1 + r1) = wrap64 (xs[n].f1 + r1) from by unfold wrap64; exact IntKind.wrap_i64 _, IntWalk.wrap64_in _ ⟨by have := HRR.out; omega, by omega⟩]
      have HXN := Aside0.mk (show xs[n] = xs[n] from rfl)
      have HSEG := Aside0.mk (fun (W : World) (hr : Kd.R k29 29 W base (fun _ => True) (.slice (some ⟨g, 0, none⟩) xs.length cv) xs) => seg_last W base g cv xs n hn (xs[n].f1 + r1) hr)
      generalize xs[n] = x at *
      clear hz hx hrv hemp hn hcl hM hcc hfr hrd HXN
      go_enter Try.func59, Try.ntmps59
      go_upto_region 3 with (fail)
      go_cut [21] from 9 to 21 (fun bb wc => ∃ wc1, wc1 = wc ∧ bb = .bool true ∧ Aside0 (Below ((w.alloc (.cells #[.int .u64 r0, .int .i64 r1] 29))).heap.size ((w.alloc (.cells #[.int .u64 r0, .int .i64 r1] 29))) wc1))
      case first =>
        go_quiet (fail)
        go_wp2
        go_meet
        exact ⟨_, rfl, rfl, ⟨pw_below_drewN (Below.refl _ _) _⟩⟩
      case rest =>
        obtain ⟨wc, rfl, rfl, HB3⟩ := hcut
        have HS3 := Aside0.mk ((HS1.out.below HB3.out)); have hx3 := (HB3.out.block b HS1.out.lt).trans HX1.out; have HX3 := Aside0.mk hx3; have HR3 := Aside0.mk (Kd.R_below HR1.out HB3.out); have cc3 := cell_of_one hx3; have fz3 := free_of_one hx3; have hbox := (HB3.out.block w.heap.size (by simp)).trans (heap_alloc_new w (.cells #[.int .u64 r0, .int .i64 r1] 29)); have bx0 : wc.cell? ⟨w.heap.size, 0, none⟩ = some (.int .u64 r0) := (by rw [cell_of_row _ _ _ _ _ _ hbox]; rfl); have bx1 : wc.cell? ⟨w.heap.size, 1, none⟩ = some (.int .i64 r1) := (by rw [cell_of_row _ _ _ _ _ _ hbox]; rfl); have lb3 : b < wc.heap.size := (Array.getElem?_eq_some_iff.1 hx3).1; have lw3 : w.heap.size < wc.heap.size := (Array.getElem?_eq_some_iff.1 hbox).1; clear hx3 hbox
        have hrd := HSEG.out wc HR3.out
        obtain ⟨y0, y1, f1, hset, hgr⟩ := hrd
        have HSET := Aside0.mk hset
        have HGR := Aside0.mk hgr
        clear hset hgr
        go_wp2
        go_region
        go_wp2
        exact bodyPost_ret (v := .tuple #[]) (by simp [results, Try.results59, go_sem]) rfl ⟨rfl, Gs.bump HX3.out HR3.out HS3.out HSET.out hbg rfl, (((KeepV.of (below_alloc (Below.refl _ _) _)).trans (KeepV.of HB3.out)).trans (KeepV.setg rfl)).keep HXV.out⟩
    · have hz : addR xs ⟨r0, r1⟩ = xs ++ [⟨r0, r1⟩] := addR_new HRR.out (fun x hx => by rw [getLast_get hn] at hx; cases hx; exact hL)
      rw [hz]
      generalize xs[n] = x at *
      clear hz hx hrv hemp hn hcl hM hcc hfr hrd
      go_enter Try.func59, Try.ntmps59
      go_upto_region 3 with (fail)
      go_cut [21] from 9 to 21 (fun bb wc => ∃ wc1, wc1 = wc ∧ bb = .bool false ∧ Aside0 (Below ((w.alloc (.cells #[.int .u64 r0, .int .i64 r1] 29))).heap.size ((w.alloc (.cells #[.int .u64 r0, .int .i64 r1] 29))) wc1))
      case first =>
        go_quiet (fail)
        go_wp2
        go_meet
        exact ⟨_, rfl, by rw [beq_eq_false_iff_ne.2 hL], ⟨pw_below_drewN (Below.refl _ _) _⟩⟩
      case rest =>
        obtain ⟨wc, rfl, rfl, HB3⟩ := hcut
        have HS3 := Aside0.mk ((HS1.out.below HB3.out)); have hx3 := (HB3.out.block b HS1.out.lt).trans HX1.out; have HX3 := Aside0.mk hx3; have HR3 := Aside0.mk (Kd.R_below HR1.out HB3.out); have cc3 := cell_of_one hx3; have fz3 := free_of_one hx3; have hbox := (HB3.out.block w.heap.size (by simp)).trans (heap_alloc_new w (.cells #[.int .u64 r0, .int .i64 r1] 29)); have bx0 : wc.cell? ⟨w.heap.size, 0, none⟩ = some (.int .u64 r0) := (by rw [cell_of_row _ _ _ _ _ _ hbox]; rfl); have bx1 : wc.cell? ⟨w.heap.size, 1, none⟩ = some (.int .i64 r1) := (by rw [cell_of_row _ _ _ _ _ _ hbox]; rfl); have lb3 : b < wc.heap.size := (Array.getElem?_eq_some_iff.1 hx3).1; have lw3 : w.heap.size < wc.heap.size := (Array.getElem?_eq_some_iff.1 hbox).1; clear hx3 hbox
        go_wp2_with (first | ((with_reducible refine gate_builtin (b := .append) (xs := #[.tmp 33, .tmp 35]) rfl ?_); at_builtin; refine Kd.R_append k29 (w0 := w0) base rfl (.tmp 33) (.tmp 35) 22 29 (.agg #[(.int .u64 0), (.int .i64 0)]) 16 rfl Try.underlying22 (by kernel_rfl) rfl (by decide) (by omega) _ xs (⟨r0, r1⟩ : Rn) [.int .u64 r0, .int .i64 r1] (fun _ => True) (fun _ => False) rfl ?aX ?aP (fun _ hk => hk.elim) ?aF ?aO ?aB ?aS ?aL ?_; (case aX => simp [Act.eval]); (case aP => exact k29_mkM _ _ _ (⟨r0, r1⟩ : Rn)); (case aB => exact HS3.out.hb); (case aF => exact fun _ _ => trivial); (case aO => exact HR3.out); (case aS => exact HS3.out.sz); (case aL => omega); intro v1 w7 ho hb7 hg hat; have hx7 := (hg.block b HS3.out.lt (Kd.R_ne HR3.out HX3.out (by decide))).trans HX3.out; have ln7 : b < w7.heap.size := (Array.getElem?_eq_some_iff.1 hx7).1; have fz7 := free_of_one hx7; have cc7 := cell_of_one hx7; have HO7 := Aside0.mk ho; have HX7 := Aside0.mk hx7; have HB7 := Aside0.mk hb7; obtain ⟨A7, c7, e7⟩ := Kd.R_slice ho; rw [List.length_append, List.length_singleton] at e7; subst e7; have HK7 := Aside0.mk (KeepV.grown (b := b) hg); have HSZ7 := Aside0.mk (Nat.le_trans HS3.out.sz hg.size); clear ho hb7 hg hat hx7))
        go_end0
        exact ⟨rfl, Gs.put HX7.out HO7.out HS3.out.lb HSZ7.out HB7.out, ((((KeepV.of (below_alloc (Below.refl _ _) _)).trans (KeepV.of HB3.out)).trans HK7.out).trans (KeepV.setb _ _ _ _ _)).keep HXV.out⟩
/-- gather's add: what is handed on is laid behind what there is. -/
theorem add_w (w0 w : World) (base b : Nat) (xs : List Rn) (r0 r1 : Int) (h : Gs w0 w base b xs) (hl : xs.length ≤ 100000) (hx : ∀ x, x ∈ xs → 0 ≤ x.f1 ∧ x.f1 ≤ 1000000000) (hr : r1 ≤ 1000000000) :
    Calls Try.prog 59 #[.agg #[.int .u64 r0, .int .i64 r1], .pointer (some ⟨b, 0, none⟩)] w fun e w' => e = .returned (.tuple #[]) ∧ Gs w0 w' base b (addR xs ⟨r0, r1⟩) ∧ Keep w w' b := by
  by_cases c : r1 < 1
  · exact add_lt w0 w base b xs r0 r1 h c
  · exact add_ge w0 w base b xs r0 r1 h (by omega) hl (fun x hm => by have := hx x hm; omega)

end Go.Proofs.Ytgaggoglbkcomaa.Ext
