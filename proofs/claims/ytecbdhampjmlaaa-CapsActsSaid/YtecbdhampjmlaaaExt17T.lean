/- caps: the document's Revoke, by its walk. -/
import Derived.Test.YtecbdhampjmlaaaExt17S
import Derived.Test.YtecbdhampjmlaaaXCapsActsx3
import Derived.Test.YtecbdhampjmlaaaXCapsActsx4
import Derived.Test.YtecbdhampjmlaaaXCapsActsx7
import Derived.Test.YtecbdhampjmlaaaWMore
import Derived.WalkKit
import Derived.WalkMore
import Derived.Below
import Derived.KernelRfl
import Derived.LoopTactic
import Derived.Deep.RegionWith
import Derived.Deep.RegionHeld3
import Derived.IntWalk
import Derived.Deep.DeepCutAuto
import Derived.Deep.CutBlock
import Derived.BigQuiet
import Derived.Laws.RangeString
import Derived.Laws.RangeAny
import Derived.Laws.Rows
import Derived.Laws.Runes
import Derived.Lib.OthersKept
import Derived.OpenShut
set_option linter.unusedVariables false
set_option linter.unusedSimpArgs false
namespace Go.Proofs.Ytecbdhampjmlaaa.Ext
open Go.RowKit Go.Lib Go.Proofs.YtecbdhampjmlaaaW.PrintWords Go.Proofs.YtecbdhampjmlaaaW.PrintMore Go.Proofs.Ytecbdhampjmlaaa.XCapsActs

abbrev v59 (x : S59) : List Value := [.int .i64 x.f0.f0, .int .i64 x.f0.f1, .int .i64 x.f1, .int .i64 x.f2, .int .i64 x.f3, .int .i64 x.f4.f0, .int .i64 x.f4.f1, .bool x.f5]
abbrev vT (v : Value) (a b : Int) : Value := .agg #[v, .int .i64 a, .int .i64 b]
def pr (t : S28) : Int × Int := (t.f0, t.f1)
def upS (G : List S28) (us ug : Int) : Bool := G.any (fun t => us == t.f0 && ug == t.f1)
theorem upS_up (G : List S28) (x : Gv) : isUp (G.map pr) x = upS G x.cap.us x.cap.ug := by
  unfold isUp upS
  rw [List.any_map]
  rfl
theorem upS_take (G : List S28) (a b : Int) (q : Nat) (hq : q < G.length) : upS (G.take (q + 1)) a b = (upS (G.take q) a b || (a == G[q].f0 && b == G[q].f1)) := by
  unfold upS
  rw [List.take_add_one, List.any_append, List.getElem?_eq_getElem hq]
  simp
structure RvS (wb w : World) (gv lv : Value) (G : List S28) (N : List S59) : Prop where
  hb : Below wb.heap.size wb w
  gr : Kd.R k28 28 w wb.heap.size (fun _ => True) gv G
  nr : Kd.R k59 59 w wb.heap.size (fun _ => True) lv N
theorem RvS.below {wb w w' : World} {gv lv : Value} {G : List S28} {N : List S59} (h : RvS wb w gv lv G N) (hb : Below w.heap.size w w') : RvS wb w' gv lv G N := ⟨below_step h.hb hb, Kd.R_below h.gr hb, Kd.R_below h.nr hb⟩
theorem RvS.alloc {wb w : World} {gv lv : Value} {G : List S28} {N : List S59} (h : RvS wb w gv lv G N) (o : Obj) : RvS wb (w.alloc o) gv lv G N := h.below (below_alloc (Below.refl _ _) _)
theorem RvS.set {wb w : World} {gv lv : Value} {G : List S28} {N : List S59} (h : RvS wb w gv lv G N) {T : Nat} (hT : wb.heap.size ≤ T) (hg : some T ≠ gv.ownBlock) (hl : some T ≠ lv.ownBlock) (j : Nat) (u : Value) : RvS wb (w.setCell ⟨T, j, none⟩ u) gv lv G N := by
  refine ⟨below_set h.hb hT, ?_, ?_⟩
  · obtain ⟨h0, inner, ho, hr⟩ := h.gr
    have hk : Kd.R k28 28 w wb.heap.size (fun k => some k = gv.ownBlock) gv G := ⟨fun k hk => hk.symm, inner, ho, hr⟩
    exact Kd.R_mono (Kd.R_far (p := ⟨T, j, none⟩) hk (fun k hk e => hg (by rw [← hk]; exact congrArg some e.symm)) u) (fun _ _ => trivial)
  · obtain ⟨h0, inner, ho, hr⟩ := h.nr
    have hk : Kd.R k59 59 w wb.heap.size (fun k => some k = lv.ownBlock) lv N := ⟨fun k hk => hk.symm, inner, ho, hr⟩
    exact Kd.R_mono (Kd.R_far (p := ⟨T, j, none⟩) hk (fun k hk e => hl (by rw [← hk]; exact congrArg some e.symm)) u) (fun _ _ => trivial)
theorem ty28 {w : World} {base : Nat} {ok : Nat → Prop} {v : Value} {xs : List S28} (h : Kd.R k28 28 w base ok v xs) : ∀ k, v.ownBlock = some k → ∃ cells, w.heap[k]? = some (.cells cells 28 (0, 0)) := by
  obtain ⟨inner, ho⟩ := Kd.R_own h
  exact fun k hk => own_typed ho k hk
theorem ty59 {w : World} {base : Nat} {ok : Nat → Prop} {v : Value} {xs : List S59} (h : Kd.R k59 59 w base ok v xs) : ∀ k, v.ownBlock = some k → ∃ cells, w.heap[k]? = some (.cells cells 59 (0, 0)) := by
  obtain ⟨inner, ho⟩ := Kd.R_own h
  exact fun k hk => own_typed ho k hk
theorem RvS.addG {wb w w' : World} {gv lv v1 : Value} {G G' : List S28} {N : List S59} (h : RvS wb w gv lv G N) (ho : Kd.R k28 28 w' wb.heap.size (fun _ => True) v1 G') (hb : Below wb.heap.size wb w') (hg : w.grownBy w' gv.ownBlock) : RvS wb w' v1 lv G' N :=
  ⟨hb, ho, Kd.R_over' h.nr (ty28 h.gr) (by decide) hg⟩
theorem RvS.addN {wb w w' : World} {gv lv v1 : Value} {G : List S28} {N N' : List S59} (h : RvS wb w gv lv G N) (ho : Kd.R k59 59 w' wb.heap.size (fun _ => True) v1 N') (hb : Below wb.heap.size wb w') (hg : w.grownBy w' lv.ownBlock) : RvS wb w' gv v1 G N' :=
  ⟨hb, Kd.R_over' h.gr (ty59 h.nr) (by decide) hg, ho⟩
theorem g59 {w : World} {A : Option Addr} {n : Nat} {xs : List S59} (hn : n = xs.length) (h : Kd.C k59 w A n xs) (q : Nat) (hq : q < xs.length) : ∃ ad, A = some ad ∧ w.cell? (ad.add (q * 8)) = some (.int .i64 xs[q].f0.f0) ∧ w.cell? ⟨(ad.add (q * 8)).block, (ad.add (q * 8)).off + 1, none⟩ = some (.int .i64 xs[q].f0.f1) ∧ w.cell? ⟨(ad.add (q * 8)).block, (ad.add (q * 8)).off + 2, none⟩ = some (.int .i64 xs[q].f1) ∧ w.cell? ⟨(ad.add (q * 8)).block, (ad.add (q * 8)).off + 3, none⟩ = some (.int .i64 xs[q].f2) ∧ w.cell? ⟨(ad.add (q * 8)).block, (ad.add (q * 8)).off + 4, none⟩ = some (.int .i64 xs[q].f3) ∧ w.cell? ⟨(ad.add (q * 8)).block, (ad.add (q * 8)).off + 5, none⟩ = some (.int .i64 xs[q].f4.f0) ∧ w.cell? ⟨(ad.add (q * 8)).block, (ad.add (q * 8)).off + 6, none⟩ = some (.int .i64 xs[q].f4.f1) ∧ w.cell? ⟨(ad.add (q * 8)).block, (ad.add (q * 8)).off + 7, none⟩ = some (.bool xs[q].f5) := by
  subst hn
  obtain ⟨ad, eA, h0, h1, h2, h3, h4, h5, h6, h7⟩ := at_T59 h (q : Int) (by omega) (by omega)
  rw [rd59 xs q hq, Int.toNat_natCast] at h0 h1 h2 h3 h4 h5 h6 h7
  exact ⟨ad, eA, h0, h1, h2, h3, h4, h5, h6, h7⟩
theorem g28 {w : World} {A : Option Addr} {n : Nat} {xs : List S28} (hn : n = xs.length) (h : Kd.C k28 w A n xs) (q : Nat) (hq : q < xs.length) : ∃ ad, A = some ad ∧ w.cell? (ad.add (q * 2)) = some (.int .i64 xs[q].f0) ∧ w.cell? ⟨(ad.add (q * 2)).block, (ad.add (q * 2)).off + 1, none⟩ = some (.int .i64 xs[q].f1) := by
  subst hn
  obtain ⟨ad, eA, hx0, hx1⟩ := at_T28 h (q : Int) (by omega) (by omega)
  have erd : rd_T28 xs (q : Int) = xs[q] := by
    unfold rd_T28
    rw [Int.toNat_natCast, List.getD_eq_getElem?_getD, List.getElem?_eq_getElem hq]
    rfl
  rw [erd, Int.toNat_natCast] at hx0 hx1
  exact ⟨ad, eA, hx0, hx1⟩
theorem lay3 {w : World} {T : Nat} {a b c : Value} {t : TypeId} (h : w.heap[T]? = some (.cells #[a, b, c] t (0, 0))) : w.cell? ⟨T, 0, none⟩ = some a ∧ w.cell? ⟨T, 1, none⟩ = some b ∧ w.cell? ⟨T, 2, none⟩ = some c ∧ w.frozen? ⟨T, 0, none⟩ = false ∧ w.frozen? ⟨T, 1, none⟩ = false ∧ w.frozen? ⟨T, 2, none⟩ = false :=
  ⟨by rw [cell_of_row w T _ _ _ _ h]; rfl, by rw [cell_of_row w T _ _ _ _ h]; rfl, by rw [cell_of_row w T _ _ _ _ h]; rfl, frozen_of_row w T 0 _ _ h, frozen_of_row w T 1 _ _ h, frozen_of_row w T 2 _ _ h⟩
theorem lay8 {w : World} {T : Nat} {a b c d e f g k : Value} {t : TypeId} (h : w.heap[T]? = some (.cells #[a, b, c, d, e, f, g, k] t (0, 0))) : w.cell? ⟨T, 0, none⟩ = some a ∧ w.cell? ⟨T, 1, none⟩ = some b ∧ w.cell? ⟨T, 2, none⟩ = some c ∧ w.cell? ⟨T, 3, none⟩ = some d ∧ w.cell? ⟨T, 4, none⟩ = some e ∧ w.cell? ⟨T, 5, none⟩ = some f ∧ w.cell? ⟨T, 6, none⟩ = some g ∧ w.cell? ⟨T, 7, none⟩ = some k ∧ w.frozen? ⟨T, 7, none⟩ = false :=
  ⟨by rw [cell_of_row w T _ _ _ _ h]; rfl, by rw [cell_of_row w T _ _ _ _ h]; rfl, by rw [cell_of_row w T _ _ _ _ h]; rfl, by rw [cell_of_row w T _ _ _ _ h]; rfl, by rw [cell_of_row w T _ _ _ _ h]; rfl, by rw [cell_of_row w T _ _ _ _ h]; rfl, by rw [cell_of_row w T _ _ _ _ h]; rfl, by rw [cell_of_row w T _ _ _ _ h]; rfl, frozen_of_row w T 7 _ _ h⟩
abbrev WDoc (w : World) (v : Value) (a b ks kg : Int) : World := ((w.alloc (.cells #[v, .int .i64 a, .int .i64 b] 49)).alloc (.cells #[.int .i64 ks, .int .i64 kg] 28)).alloc (.cells #[.slice none 0 0, .int .i64 0, .int .i64 0] 49)
theorem WDoc_facts (w : World) (v : Value) (a b ks kg : Int) : Below w.heap.size w (WDoc w v a b ks kg) ∧ (WDoc w v a b ks kg).heap[w.heap.size]? = some (.cells #[v, .int .i64 a, .int .i64 b] 49 (0, 0)) ∧ (WDoc w v a b ks kg).heap[w.heap.size + 1]? = some (.cells #[.int .i64 ks, .int .i64 kg] 28 (0, 0)) ∧ (WDoc w v a b ks kg).heap[w.heap.size + 1 + 1]? = some (.cells #[.slice none 0 0, .int .i64 0, .int .i64 0] 49 (0, 0)) ∧ (WDoc w v a b ks kg).heap.size = w.heap.size + 3 := by
  refine ⟨below_alloc (below_alloc (below_alloc (Below.refl _ _) _) _) _, ?_, ?_, ?_, by simp⟩
  · rw [Below.heap_alloc _ _ _ (by simp; omega), Below.heap_alloc _ _ _ (by simp)]
    exact heap_alloc_new _ _
  · rw [Below.heap_alloc _ _ _ (by simp)]
    have := heap_alloc_new (w.alloc (.cells #[v, .int .i64 a, .int .i64 b] 49)) (.cells #[.int .i64 ks, .int .i64 kg] 28)
    simpa using this
  · have := heap_alloc_new ((w.alloc (.cells #[v, .int .i64 a, .int .i64 b] 49)).alloc (.cells #[.int .i64 ks, .int .i64 kg] 28)) (.cells #[.slice none 0 0, .int .i64 0, .int .i64 0] 49)
    simpa using this
set_option maxRecDepth 100000 in
set_option maxHeartbeats 8000000 in
theorem RevD_err {l : List Sl} (A : Option Addr) (c : Nat) (L : List S59) (g ks kg : Int) (w : World) (S : Sim l (L.map cv)) (hl : L.length ≤ 1000) (hr : Kd.C k59 w A L.length L) (hc : L.length ≤ c) (h : findE l ks kg ≠ 0) :
    Calls Try.prog 19 #[vT (.slice A L.length c) l.length g, .agg #[.int .i64 ks, .int .i64 kg]] w fun e w' => e = .returned (.tuple #[vT (.slice A L.length c) l.length g, .int .i64 0, .int .i64 (findE l ks kg)]) ∧ Below w.heap.size w w' := by
  have hfd := find_doc L g S hl ks kg (L.length + 2) (by omega)
  rw [if_pos h] at hfd
  obtain ⟨hb1, hx0, hx1, hx2, hsz⟩ := WDoc_facts w (.slice A L.length c) l.length g ks kg
  have HF := Aside0.mk (bureauref17_find.calls (L.length + 2) A c L l.length g ks kg _ _ _ _ _ _ _ _ _ (WDoc w (.slice A L.length c) l.length g ks kg) (Kd.C_below hr hb1) hc hfd)
  have hfr := findE_range l ks kg
  have cbe : (findE l ks kg != 0) = true := bne_iff_ne.2 h
  clear hfd S hr
  generalize findE l ks kg = er at *
  have HX0 := Aside0.mk hx0
  have HX1 := Aside0.mk hx1
  have HX2 := Aside0.mk hx2
  have HB1 := Aside0.mk hb1
  have HSZ := Aside0.mk hsz
  clear hx0 hx1 hx2 hb1 hsz h
  go_enter Try.func19, Try.ntmps19
  go_wp2_with (first
    | (go_at_call 32; (with_reducible refine HF.out.mono ?_); rintro e w3 ⟨rfl, hb3⟩; have hs3 : w.heap.size + 3 ≤ w3.heap.size := (by have := hb3.size; rw [HSZ.out] at this; exact this); have hx0 := (hb3.block w.heap.size (by rw [HSZ.out]; omega)).trans HX0.out; have hx2 := (hb3.block (w.heap.size + 1 + 1) (by rw [HSZ.out]; omega)).trans HX2.out; obtain ⟨p0, p1, p2, -, -, -⟩ := lay3 hx0; obtain ⟨q0, q1, q2, f0, f1, f2⟩ := lay3 hx2; have HB3 := Aside0.mk (below_step HB1.out hb3); clear hx0 hx2 hb3; have hl0 : w.heap.size < w3.heap.size := (by omega); have hl2 : w.heap.size + 1 + 1 < w3.heap.size := (by omega); clear hs3))
  exact bodyPost_ret (v := .tuple #[vT (.slice A L.length c) l.length g, .int .i64 0, .int .i64 er]) (by simp [results, Try.results19, go_sem, q0, q1, q2, hl2]) rfl ⟨rfl, below_alloc (below_set (below_set (below_set HB3.out (by omega)) (by omega)) (by omega)) _⟩

theorem R_old {α : Type} {d : Kd α} {e base : Nat} {w w1 : World} {ok : Nat → Prop} {v : Value} {xs : List α} (h : d.R e w base ok v xs) (hk : ∀ k, base ≤ k → w1.heap[k]? = w.heap[k]?) : d.R e w1 base ok v xs :=
  Kd.R_mono (Kd.R_move (Kd.R_bound h) (fun k hk2 => hk k hk2.2.1)) (fun _ hk => hk.1)
theorem below_more2 {w wb wr : World} (h : Below w.heap.size w wb) (k : Below wb.heap.size wb wr) : Below w.heap.size w wr := below_step h k
theorem set_far (w : World) (T j : Nat) (u : Value) (k : Nat) (h : k ≠ T) : (w.setCell ⟨T, j, none⟩ u).heap[k]? = w.heap[k]? := Below.heap_setCell w ⟨T, j, none⟩ u k h
theorem rvk_cons (ks kg : Int) (x : Gv) (L : List Gv) (gone : List (Int × Int)) : rvk ks kg (x :: L) gone = if (x.ks == ks && x.kg == kg || isUp gone x) = true then ({ x with alive := false } :: (rvk ks kg L (gone ++ [(x.ks, x.kg)])).1, (if x.alive = true then 1 else 0) + (rvk ks kg L (gone ++ [(x.ks, x.kg)])).2) else (x :: (rvk ks kg L gone).1, (rvk ks kg L gone).2) := rfl
attribute [local go_sem high] eqA28
theorem rvk_no (ks kg : Int) (x : S59) (L : List Gv) (G : List S28) (h : (x.f0.f0 == ks && x.f0.f1 == kg || upS G x.f4.f0 x.f4.f1) = false) : rvk ks kg (cv x :: L) (G.map pr) = (cv x :: (rvk ks kg L (G.map pr)).1, (rvk ks kg L (G.map pr)).2) := by
  rw [rvk_cons, upS_up]
  exact if_neg (by rw [show ((cv x).ks == ks && (cv x).kg == kg || upS G (cv x).cap.us (cv x).cap.ug) = false from h]; decide)
theorem rvk_yes (ks kg : Int) (x : S59) (L : List Gv) (G : List S28) (h : (x.f0.f0 == ks && x.f0.f1 == kg || upS G x.f4.f0 x.f4.f1) = true) : rvk ks kg (cv x :: L) (G.map pr) = ({ cv x with alive := false } :: (rvk ks kg L ((G ++ [x.f0]).map pr)).1, (if x.f5 = true then 1 else 0) + (rvk ks kg L ((G ++ [x.f0]).map pr)).2) := by
  rw [rvk_cons, upS_up, List.map_append]
  exact if_pos h
set_option maxRecDepth 100000 in
set_option maxHeartbeats 16000000 in
theorem RevD_ok {l : List Sl} (A : Option Addr) (c : Nat) (L : List S59) (g ks kg : Int) (w : World) (S : Sim l (L.map cv)) (hl : L.length ≤ 1000) (hr : Kd.C k59 w A L.length L) (hc : L.length ≤ c) (h : findE l ks kg = 0) (M : List Gv) (m : Int) (hM : rvk ks kg (L.map cv) [(ks, kg)] = (M, m)) :
    Calls Try.prog 19 #[vT (.slice A L.length c) l.length g, .agg #[.int .i64 ks, .int .i64 kg]] w fun e w' => ∃ (v0 : Value) (L' : List S59), e = .returned (.tuple #[vT v0 l.length g, .int .i64 m, .int .i64 0]) ∧ Kd.R k59 59 w' w.heap.size (fun _ => True) v0 L' ∧ L'.map cv = M ∧ Below w.heap.size w w' := by
  have hfd := find_doc L g S hl ks kg (L.length + 2) (by omega)
  rw [if_neg (fun x => x h)] at hfd
  obtain ⟨hb1, hx0, hx1, hx2, hsz⟩ := WDoc_facts w (.slice A L.length c) l.length g ks kg
  have HF := Aside0.mk (bureauref17_find.calls (L.length + 2) A c L l.length g ks kg _ _ _ _ _ _ _ _ _ (WDoc w (.slice A L.length c) l.length g ks kg) (Kd.C_below hr hb1) hc hfd)
  generalize atS l ks.toNat = sl at HF
  have HR := Aside0.mk hr
  have HM := Aside0.mk hM
  clear hfd S hr h hM
  have HX0 := Aside0.mk hx0
  have HX1 := Aside0.mk hx1
  have HX2 := Aside0.mk hx2
  have HB1 := Aside0.mk hb1
  have HSZ := Aside0.mk hsz
  clear hx0 hx1 hx2 hb1 hsz
  go_enter Try.func19, Try.ntmps19
  go_upto_region 4 with (first | (go_at_call 32; (with_reducible refine HF.out.mono ?_); rintro e w3 ⟨rfl, hb3⟩; have hs3 : w.heap.size + 3 ≤ w3.heap.size := (by have := hb3.size; rw [HSZ.out] at this; exact this); have hx0 := (hb3.block w.heap.size (by rw [HSZ.out]; omega)).trans HX0.out; have hx1 := (hb3.block (w.heap.size + 1) (by rw [HSZ.out]; omega)).trans HX1.out; have hx2 := (hb3.block (w.heap.size + 1 + 1) (by rw [HSZ.out]; omega)).trans HX2.out; obtain ⟨t0, t1, -, -⟩ := tok_lay hx1; have HB3 := Aside0.mk (below_step HB1.out hb3); have hl0 : w.heap.size < w3.heap.size := (by omega); have hl1 : w.heap.size + 1 < w3.heap.size := (by omega); have hl2 : w.heap.size + 1 + 1 < w3.heap.size := (by omega); have HY0 := Aside0.mk hx0; have HY1 := Aside0.mk hx1; have HY2 := Aside0.mk hx2; clear hs3 hx0 hx1 hx2 hb3))
  have hfresh := below_alloc (Below.refl w3.heap.size w3) (.cells #[.int .i64 ks, .int .i64 kg, .int .i64 sl.cap.obj, .int .i64 sl.cap.rights, .int .i64 sl.cap.owner, .int .i64 sl.cap.us, .int .i64 sl.cap.ug, .bool true] 59)
  have hszb : w3.heap.size < (w3.alloc (.cells #[.int .i64 ks, .int .i64 kg, .int .i64 sl.cap.obj, .int .i64 sl.cap.rights, .int .i64 sl.cap.owner, .int .i64 sl.cap.us, .int .i64 sl.cap.ug, .bool true] 59)).heap.size := by simp
  generalize w3.alloc (.cells #[.int .i64 ks, .int .i64 kg, .int .i64 sl.cap.obj, .int .i64 sl.cap.rights, .int .i64 sl.cap.owner, .int .i64 sl.cap.us, .int .i64 sl.cap.ug, .bool true] 59) = wb at hfresh hszb ⊢
  have HBW := Aside0.mk (below_step HB3.out hfresh)
  have HY0 := Aside0.mk ((hfresh.block _ hl0).trans HY0.out)
  have HY1 := Aside0.mk ((hfresh.block _ hl1).trans HY1.out)
  have HY2 := Aside0.mk ((hfresh.block _ hl2).trans HY2.out)
  have hl0 : w.heap.size < wb.heap.size := by omega
  have hl1 : w.heap.size + 1 < wb.heap.size := by omega
  have hl2 : w.heap.size + 1 + 1 < wb.heap.size := by omega
  clear hfresh hszb t0 t1 HB3 HB1 HX0 HX1 HX2
  obtain ⟨t0, t1, -, -⟩ := tok_lay HY1.out
  go_wp2_with (first | ((with_reducible refine gate_dst (N := 27) rfl ?_); refine Kd.R_lit k28 (w0 := wb) wb.heap.size 28 ?hg (N := 27) ?hd (xs := [(⟨ks, kg⟩ : S28)]) (inner := [.int .i64 ks, .int .i64 kg]) (ok := fun _ => True) (okp := fun _ => True) ?hr ?hp (fun _ hk => hk) trivial (Below.refl _ _) (Nat.le_refl _) (by simp) ?_; (case hd => rfl); (case hg => rfl); (case hr => first | (go_simp; done) | (go_simp; rfl)); (case hp => exact (Reps.c2 (show Kd.M k28 _ _ _ (⟨ks, kg⟩ : S28) [.int .i64 ks, .int .i64 kg] from k28_mkM _ _ _ (⟨ks, kg⟩ : S28)) (Reps.none _ _))); intro gv5 w5 ho hb hg_ hnew_; have HS5 : Aside0 (RvS wb w5 gv5 (.slice none 0 0) [⟨ks, kg⟩] []) := ⟨⟨hb, ho, Kd.R_nil _ _ _ _ _⟩⟩; clear ho hb hg_ hnew_))
  clear t0 t1
  go_loopw [9, 10, 11, 12] (fun gv0 nn lv0 ii wr => ∃ (wr1 : World) (gv lv : Value) (G : List S28) (N : List S59) (q : Nat) (cnt : Int), wr1 = wr ∧ gv = gv0 ∧ nn = .int .i64 cnt ∧ lv = lv0 ∧ ii = .int .i64 q ∧ q ≤ L.length ∧ N.length ≤ q ∧ G.length ≤ q + 1 ∧ 0 ≤ cnt ∧ cnt ≤ q ∧ Aside0 (RvS wb wr1 gv lv G N) ∧ Aside0 (N.map cv ++ (rvk ks kg ((L.drop q).map cv) (G.map pr)).1 = M ∧ cnt + (rvk ks kg ((L.drop q).map cv) (G.map pr)).2 = m)) (fun _ _ _ ii _ => L.length - (intOf ii).toNat)
  case atStart => exact ⟨_, _, _, [⟨ks, kg⟩], [], 0, 0, rfl, rfl, rfl, rfl, rfl, Nat.zero_le _, Nat.le_refl _, Nat.le_refl _, Int.le_refl _, Int.le_refl _, HS5, ⟨by rw [List.drop_zero]; have h := HM.out; constructor <;> simp [pr, h]⟩⟩
  case round =>
    obtain ⟨wr1, gv, lv, G, N, q, cnt, rfl, rfl, rfl, rfl, rfl, hq, hN, hG, hc0, hc1, HS, HE⟩ := hrel
    have hy0 := (HS.out.hb.block _ hl0).trans HY0.out
    obtain ⟨p0, p1, p2, pf0, pf1, pf2⟩ := lay3 hy0
    have hlw0 : w.heap.size < wr1.heap.size := Nat.lt_of_lt_of_le hl0 HS.out.hb.size
    have hlw1 : w.heap.size + 1 < wr1.heap.size := Nat.lt_of_lt_of_le hl1 HS.out.hb.size
    have hlw2 : w.heap.size + 1 + 1 < wr1.heap.size := Nat.lt_of_lt_of_le hl2 HS.out.hb.size
    clear hy0
    by_cases hql : q < L.length
    · obtain ⟨ad, eA, hz0, hz1, hz2, hz3, hz4, hz5, hz6, hz7⟩ := g59 rfl (Kd.C_below HR.out (below_step (HBW.out) ⟨HS.out.hb.os, HS.out.hb.tape, HS.out.hb.output, HS.out.hb.size, fun k hk => HS.out.hb.block k hk⟩)) q hql
      cases eA
      have he := HE.out
      rw [drop59 L q hql, List.map_cons] at he
      generalize L[q] = x at hz0 hz1 hz2 hz3 hz4 hz5 hz6 hz7 he
      obtain ⟨⟨x0, x1⟩, x2, x3, x4, ⟨x5, x6⟩, x7⟩ := x
      simp only at hz0 hz1 hz2 hz3 hz4 hz5 hz6 hz7
      generalize hrest : (L.drop (q + 1)).map cv = rest at he
      have HRE := Aside0.mk hrest
      have HE2 := Aside0.mk he
      have hy1 := (HS.out.hb.block _ hl1).trans HY1.out
      obtain ⟨t0, t1, -, -⟩ := tok_lay hy1
      clear HE he hrest hy1
      obtain ⟨Ag, cg, eg⟩ := Kd.R_slice HS.out.gr
      subst eg
      have HSX := Aside0.mk (HS.out.alloc (.cells #[.int .i64 x0, .int .i64 x1, .int .i64 x2, .int .i64 x3, .int .i64 x4, .int .i64 x5, .int .i64 x6, .bool x7] 59))
      have HX9 := Aside0.mk (heap_alloc_new wr1 (.cells #[.int .i64 x0, .int .i64 x1, .int .i64 x2, .int .i64 x3, .int .i64 x4, .int .i64 x5, .int .i64 x6, .bool x7] 59))
      have HX3 := Aside0.mk (⟨t0, t1⟩ : wr1.cell? ⟨w.heap.size + 1, 0, none⟩ = some (.int .i64 ks) ∧ wr1.cell? ⟨w.heap.size + 1, 1, none⟩ = some (.int .i64 kg))
      go_upto_region 11 with (fail)
      go_cut [14] from 40 to 43 (fun dd wc => wc = wr1.alloc (.cells #[.int .i64 x0, .int .i64 x1, .int .i64 x2, .int .i64 x3, .int .i64 x4, .int .i64 x5, .int .i64 x6, .bool x7] 59) ∧ dd = .bool (x0 == ks && x1 == kg))
      case first =>
        go_wp2
        go_meet
        case rel => exact ⟨rfl, rfl⟩
      case rest =>
      obtain ⟨rfl, rfl⟩ := hcut
      go_wp2
      go_loopw [14, 15] (fun dd jj ww => ∃ (ww1 : World) (j : Nat), ww1 = ww ∧ jj = .int .i64 j ∧ j ≤ G.length ∧ dd = .bool ((x0 == ks && x1 == kg) || upS (G.take j) x5 x6) ∧ Aside0 (Below (wr1.alloc (.cells #[.int .i64 x0, .int .i64 x1, .int .i64 x2, .int .i64 x3, .int .i64 x4, .int .i64 x5, .int .i64 x6, .bool x7] 59)).heap.size (wr1.alloc (.cells #[.int .i64 x0, .int .i64 x1, .int .i64 x2, .int .i64 x3, .int .i64 x4, .int .i64 x5, .int .i64 x6, .bool x7] 59)) ww1)) (fun _ jj _ => G.length - (intOf jj).toNat)
      case atStart => exact ⟨_, 0, rfl, rfl, Nat.zero_le _, by simp [upS], ⟨Below.refl _ _⟩⟩
      case round =>
        obtain ⟨ww1, j, rfl, rfl, hj, rfl, HI⟩ := hrel
        have HSW := Aside0.mk (HSX.out.below HI.out)
        have HXW := Aside0.mk ((HI.out.block wr1.heap.size (by simp)).trans HX9.out)
        obtain ⟨b0, b1, b2, b3, b4, b5, b6, b7, bf7⟩ := lay8 HXW.out
        have hlx : wr1.heap.size < ww1.heap.size := (Array.getElem?_eq_some_iff.1 HXW.out).1
        by_cases hjl : j < G.length
        · obtain ⟨ad2, eA2, hg0, hg1⟩ := g28 rfl (Kd.R_reads' HSW.out.gr).2.2 j hjl
          cases eA2
          have htk := upS_take G x5 x6 j hjl
          generalize G[j] = gg at hg0 hg1 htk
          obtain ⟨g0, g1⟩ := gg
          simp only at hg0 hg1 htk
          have HTK := Aside0.mk htk
          clear htk
          cases hdd : (x0 == ks && x1 == kg || upS (G.take j) x5 x6)
          · go_wp2
            go_quiet (fail)
            go_wp2
            exact ⟨⟨_, j + 1, rfl, by go_num, by omega, by rw [HTK.out, ← Bool.or_assoc, hdd, Bool.false_or], ⟨(by repeat (first | (with_reducible first | exact HI.out | apply pw_below_drewN | apply below_alloc | apply below_drew) | exact HI.out))⟩⟩, by simp [intOf]; omega⟩
          · go_wp2
            go_quiet (fail)
            go_wp2
            exact ⟨⟨_, j + 1, rfl, by go_num, by omega, by rw [HTK.out, ← Bool.or_assoc, hdd, Bool.true_or], ⟨(by repeat (first | (with_reducible first | exact HI.out | apply pw_below_drewN | apply below_alloc | apply below_drew) | exact HI.out))⟩⟩, by simp [intOf]; omega⟩
        · have hjg : G.length ≤ j := by omega
          rw [List.take_of_length_le hjg]
          have he := HE2.out
          cases hdd : (x0 == ks && x1 == kg || upS G x5 x6)
          · rw [rvk_no _ _ _ _ _ hdd] at he
            have HE3 := Aside0.mk he
            clear he hdd
            go_wp2_with (first | ((with_reducible refine gate_builtin (b := .append) (xs := #[.tmp 71, .tmp 73]) rfl ?_); at_builtin; refine Kd.R_append k59 (w0 := wb) wb.heap.size rfl (.tmp 71) (.tmp 73) 47 59 (.agg #[(.int .i64 0), (.int .i64 0), (.int .i64 0), (.int .i64 0), (.int .i64 0), (.int .i64 0), (.int .i64 0), (.bool false)]) 64 rfl Try.underlying47 (by kernel_rfl) rfl (by decide) (by omega) lv N (⟨⟨x0, x1⟩, x2, x3, x4, ⟨x5, x6⟩, x7⟩ : S59) [.int .i64 x0, .int .i64 x1, .int .i64 x2, .int .i64 x3, .int .i64 x4, .int .i64 x5, .int .i64 x6, .bool x7] (fun _ => True) (fun _ => False) rfl ?aX ?aP (fun _ hk => hk.elim) ?aF ?aO ?aB ?aS ?aL ?_; (case aX => simp [Act.eval]); (case aP => exact k59_mkM _ _ _ (⟨⟨x0, x1⟩, x2, x3, x4, ⟨x5, x6⟩, x7⟩ : S59)); (case aB => exact HSW.out.hb); (case aF => exact fun _ _ => trivial); (case aO => exact HSW.out.nr); (case aS => exact HSW.out.hb.size); (case aL => omega); intro v1 w9 ho hb hg hat; have HSZ9 := Aside0.mk (HSW.out.addN ho hb hg); clear ho hb hg hat))
            exact ⟨⟨_, _, v1, G, N ++ [⟨⟨x0, x1⟩, x2, x3, x4, ⟨x5, x6⟩, x7⟩], q + 1, cnt, rfl, rfl, rfl, rfl, by go_num, by omega, by simp; omega, by omega, hc0, by omega, HSZ9, ⟨by rw [HRE.out]; have h := HE3.out; simpa [cv] using h⟩⟩, by simp [intOf]; omega⟩
          · rw [rvk_yes _ _ _ _ _ hdd] at he
            have HE3 := Aside0.mk he
            clear he hdd
            cases x7
            · go_wp2_with (first | ((with_reducible refine gate_builtin (b := .append) (xs := #[.tmp 61, .tmp 64]) rfl ?_); at_builtin; refine Kd.R_append k28 (w0 := wb) wb.heap.size rfl (.tmp 61) (.tmp 64) 23 28 (.agg #[(.int .i64 0), (.int .i64 0)]) 16 rfl Try.underlying23 (by kernel_rfl) rfl (by decide) (by omega) (.slice Ag G.length cg) G (⟨x0, x1⟩ : S28) [.int .i64 x0, .int .i64 x1] (fun _ => True) (fun _ => False) rfl ?aX ?aP (fun _ hk => hk.elim) ?aF ?aO ?aB ?aS ?aL ?_; (case aX => simp [Act.eval]); (case aP => exact k28_mkM _ _ _ (⟨x0, x1⟩ : S28)); (case aB => exact HSW.out.hb); (case aF => exact fun _ _ => trivial); (case aO => exact HSW.out.gr); (case aS => exact HSW.out.hb.size); (case aL => omega); intro v1 w7 ho hb hg hat; have HS7 := Aside0.mk (HSW.out.addG ho hb hg); have hx7 := (hg.block wr1.heap.size hlx (Kd.R_ne HSW.out.gr HXW.out (by decide))).trans HXW.out; clear b0 b1 b2 b3 b4 b5 b6 b7 bf7; obtain ⟨b0, b1, b2, b3, b4, b5, b6, b7, bf7⟩ := lay8 hx7; have hl7 : wr1.heap.size < w7.heap.size := (Array.getElem?_eq_some_iff.1 hx7).1; have HS8 := Aside0.mk (HS7.out.set (T := wr1.heap.size) HS.out.hb.size (Kd.R_ne HS7.out.gr hx7 (by decide)) (Kd.fresh' (Kd.R_lt HS.out.nr) _ (Nat.le_refl _)) 7 (.bool false)); clear ho hb hg hat hx7) | ((with_reducible refine gate_builtin (b := .append) (xs := #[.tmp 71, .tmp 73]) rfl ?_); at_builtin; refine Kd.R_append k59 (w0 := wb) wb.heap.size rfl (.tmp 71) (.tmp 73) 47 59 (.agg #[(.int .i64 0), (.int .i64 0), (.int .i64 0), (.int .i64 0), (.int .i64 0), (.int .i64 0), (.int .i64 0), (.bool false)]) 64 rfl Try.underlying47 (by kernel_rfl) rfl (by decide) (by omega) lv N (⟨⟨x0, x1⟩, x2, x3, x4, ⟨x5, x6⟩, false⟩ : S59) [.int .i64 x0, .int .i64 x1, .int .i64 x2, .int .i64 x3, .int .i64 x4, .int .i64 x5, .int .i64 x6, .bool false] (fun _ => True) (fun _ => False) rfl ?aX ?aP (fun _ hk => hk.elim) ?aF ?aO ?aB ?aS ?aL ?_; (case aX => simp [Act.eval]); (case aP => exact k59_mkM _ _ _ (⟨⟨x0, x1⟩, x2, x3, x4, ⟨x5, x6⟩, false⟩ : S59)); (case aB => exact HS8.out.hb); (case aF => exact fun _ _ => trivial); (case aO => exact HS8.out.nr); (case aS => exact HS8.out.hb.size); (case aL => omega); intro v2 w9 ho hb hg hat; have HSZ9 := Aside0.mk (HS8.out.addN ho hb hg); clear ho hb hg hat))
              exact ⟨⟨_, _, v2, G ++ [⟨x0, x1⟩], N ++ [⟨⟨x0, x1⟩, x2, x3, x4, ⟨x5, x6⟩, false⟩], q + 1, cnt, rfl, rfl, rfl, rfl, by go_num, by omega, by simp; omega, by simp; omega, hc0, by omega, HSZ9, ⟨by rw [HRE.out]; have h := HE3.out; simpa [cv] using h⟩⟩, by simp [intOf]; omega⟩
            · go_wp2_with (first | ((with_reducible refine gate_builtin (b := .append) (xs := #[.tmp 61, .tmp 64]) rfl ?_); at_builtin; refine Kd.R_append k28 (w0 := wb) wb.heap.size rfl (.tmp 61) (.tmp 64) 23 28 (.agg #[(.int .i64 0), (.int .i64 0)]) 16 rfl Try.underlying23 (by kernel_rfl) rfl (by decide) (by omega) (.slice Ag G.length cg) G (⟨x0, x1⟩ : S28) [.int .i64 x0, .int .i64 x1] (fun _ => True) (fun _ => False) rfl ?aX ?aP (fun _ hk => hk.elim) ?aF ?aO ?aB ?aS ?aL ?_; (case aX => simp [Act.eval]); (case aP => exact k28_mkM _ _ _ (⟨x0, x1⟩ : S28)); (case aB => exact HSW.out.hb); (case aF => exact fun _ _ => trivial); (case aO => exact HSW.out.gr); (case aS => exact HSW.out.hb.size); (case aL => omega); intro v1 w7 ho hb hg hat; have HS7 := Aside0.mk (HSW.out.addG ho hb hg); have hx7 := (hg.block wr1.heap.size hlx (Kd.R_ne HSW.out.gr HXW.out (by decide))).trans HXW.out; clear b0 b1 b2 b3 b4 b5 b6 b7 bf7; obtain ⟨b0, b1, b2, b3, b4, b5, b6, b7, bf7⟩ := lay8 hx7; have hl7 : wr1.heap.size < w7.heap.size := (Array.getElem?_eq_some_iff.1 hx7).1; have HS8 := Aside0.mk (HS7.out.set (T := wr1.heap.size) HS.out.hb.size (Kd.R_ne HS7.out.gr hx7 (by decide)) (Kd.fresh' (Kd.R_lt HS.out.nr) _ (Nat.le_refl _)) 7 (.bool false)); clear ho hb hg hat hx7) | ((with_reducible refine gate_builtin (b := .append) (xs := #[.tmp 71, .tmp 73]) rfl ?_); at_builtin; refine Kd.R_append k59 (w0 := wb) wb.heap.size rfl (.tmp 71) (.tmp 73) 47 59 (.agg #[(.int .i64 0), (.int .i64 0), (.int .i64 0), (.int .i64 0), (.int .i64 0), (.int .i64 0), (.int .i64 0), (.bool false)]) 64 rfl Try.underlying47 (by kernel_rfl) rfl (by decide) (by omega) lv N (⟨⟨x0, x1⟩, x2, x3, x4, ⟨x5, x6⟩, false⟩ : S59) [.int .i64 x0, .int .i64 x1, .int .i64 x2, .int .i64 x3, .int .i64 x4, .int .i64 x5, .int .i64 x6, .bool false] (fun _ => True) (fun _ => False) rfl ?aX ?aP (fun _ hk => hk.elim) ?aF ?aO ?aB ?aS ?aL ?_; (case aX => simp [Act.eval]); (case aP => exact k59_mkM _ _ _ (⟨⟨x0, x1⟩, x2, x3, x4, ⟨x5, x6⟩, false⟩ : S59)); (case aB => exact HS8.out.hb); (case aF => exact fun _ _ => trivial); (case aO => exact HS8.out.nr); (case aS => exact HS8.out.hb.size); (case aL => omega); intro v2 w9 ho hb hg hat; have HSZ9 := Aside0.mk (HS8.out.addN ho hb hg); clear ho hb hg hat))
              exact ⟨⟨_, _, v2, G ++ [⟨x0, x1⟩], N ++ [⟨⟨x0, x1⟩, x2, x3, x4, ⟨x5, x6⟩, false⟩], q + 1, cnt + 1, rfl, rfl, by go_num, rfl, by go_num, by omega, by simp; omega, by simp; omega, by omega, by omega, HSZ9, ⟨by rw [HRE.out]; have h := HE3.out; simpa [cv, Int.add_assoc] using h⟩⟩, by simp [intOf]; omega⟩
    · have hqg : L.length ≤ q := by omega
      have hfin : N.map cv = M ∧ cnt = m := by
        have h := HE.out
        rw [List.drop_of_length_le hqg] at h
        simpa [rvk] using h
      have hy2 := (HS.out.hb.block _ hl2).trans HY2.out
      obtain ⟨q0, q1, q2, f0, f1, f2⟩ := lay3 hy2
      have HFIN := Aside0.mk hfin
      clear hfin hy2
      obtain ⟨Al, cl, el⟩ := Kd.R_slice HS.out.nr
      subst el
      go_wp2
      refine bodyPost_ret (v := .tuple #[vT (.slice Al N.length cl) l.length g, .int .i64 cnt, .int .i64 0]) (by simp [results, Try.results19, go_sem, q0, q1, q2, hlw2]) rfl ⟨_, N, by rw [HFIN.out.2], ?_, HFIN.out.1, below_set (below_set (below_set (below_set (below_more2 HBW.out HS.out.hb) (by omega)) (by omega)) (by omega)) (by omega)⟩
      refine Kd.R_lower (R_old HS.out.nr (fun k hk => ?_)) (Nat.le_of_lt hl0)
      rw [set_far _ _ _ _ _ (by omega), set_far _ _ _ _ _ (by omega), set_far _ _ _ _ _ (by omega), set_far _ _ _ _ _ (by omega)]

end Go.Proofs.Ytecbdhampjmlaaa.Ext
