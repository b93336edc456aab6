/- regs: letter where a text goes behind another, by its walk. -/
import Derived.Test.YtbcbfmhcoemnpaaExt09C
import Derived.Test.YtbcbfmhcoemnpaaXRRx2
import Derived.Test.YtbcbfmhcoemnpaaXRRx3
import Derived.Test.YtbcbfmhcoemnpaaXRRx4
import Derived.Test.YtbcbfmhcoemnpaaXRRx0
import Derived.Test.YtbcbfmhcoemnpaaWMore
import Derived.WalkKit
import Derived.WalkMore
import Derived.Below
import Derived.KernelRfl
import Derived.LoopTactic
import Derived.Deep.RegionWith
import Derived.Deep.RegionHeld3
import Derived.IntWalk
import Derived.Deep.DeepCutAuto
import Derived.Deep.CutBlock
import Derived.BigQuiet
import Derived.Laws.RangeString
import Derived.Laws.RangeAny
import Derived.Laws.Rows
import Derived.Laws.Runes
import Derived.Lib.OthersKept
import Derived.OpenShut
set_option linter.unusedVariables false
set_option linter.unusedSimpArgs false
namespace Go.Proofs.Ytbcbfmhcoemnpaa.Ext
open Go.RowKit Go.Lib Go.Proofs.YtbcbfmhcoemnpaaW.PrintWords Go.Proofs.YtbcbfmhcoemnpaaW.PrintMore Go.Proofs.Ytbcbfmhcoemnpaa.XRR

variable {bs : Nat}

/-- The three stores of an entry. -/
abbrev put3 (w : World) (p : Nat) (s : ByteArray) (v : Value) (b : Bool) : World := ((w.setCell ⟨p, 0, none⟩ (.string s)).setCell ⟨p, 1, none⟩ v).setCell ⟨p, 2, none⟩ (.bool b)
theorem put3_far (w : World) (p : Nat) (s : ByteArray) (v : Value) (b : Bool) (k : Nat) (h : k ≠ p) : (put3 w p s v b).heap[k]? = w.heap[k]? := by
  unfold put3
  rw [heap_setCell_other _ _ _ _ (by exact h), heap_setCell_other _ _ _ _ (by exact h), heap_setCell_other _ _ _ _ (by exact h)]
theorem put3_grown (w : World) (p : Nat) (s : ByteArray) (v : Value) (b : Bool) : w.grownBy (put3 w p s v b) (some p) := ⟨rfl, rfl, rfl, by simp [put3], fun k hk hne => put3_far w p s v b k (fun e => hne (by rw [e]))⟩
theorem far_runs {w w' : World} {base p : Nat} {ok : Nat → Prop} {v : Value} {xs : List Rn} {cs : Array Value} (h : Kd.R k58 58 w base ok v xs) (hB : w.heap[p]? = some (.cells cs 33 (0, 0))) (hG : w.grownBy w' (some p)) : Kd.R k58 58 w' base ok v xs :=
  Kd.R_mono (Kd.R_step (Kd.R_types h hB (fun q hq => by
    rcases List.mem_cons.1 hq with e | e
    · rw [e]; decide
    · exact (List.not_mem_nil e).elim)) (fun k hk hlt => hG.block k hlt (fun e => hk.2 (by injection e)))) (fun _ hk => hk.1)
theorem RG.far {w w' : World} {B p : Nat} {g : List Hs} {vs : List Value} {cs : Array Value} (h : RG bs w B g vs) (hp : w.heap[p]? = some (.cells cs 33 (0, 0))) (hG : w.grownBy w' (some p)) : RG bs w' B g vs :=
  ⟨blk_grown h.x hG (fun e => by
    injection e with e
    subst e
    rw [h.x] at hp
    cases hp), h.n, h.m, fun i hi => far_runs (h.r i hi) hp hG, Nat.le_trans h.lb hG.size⟩
theorem EX.put3 {w : World} {p : Nat} {s s' : ByteArray} {v v' : Value} {b b' : Bool} (h : EX w p s v b) : EX (put3 w p s' v' b') p s' v' b' :=
  ⟨heap_setCell_same _ p 2 _ _ (.bool b') (heap_setCell_same _ p 1 _ _ v' (heap_setCell_same w p 0 _ _ (.string s') h.x))⟩
theorem put_call2 {w W : World} {B : Nat} {g : List Hs} {vs : List Value} {x : En} {A : Option Addr} {c : Nat} (hl : x.l.length ≤ 100000) (k m : Nat) (hk : k < 38) (hm : m < 38) (hW : w.grownBy W (some B)) (hr : RG bs W B g vs) (ha : RA W B A c x.l) :
    Calls Try.prog 22 #[.pointer (some ⟨B, 0, none⟩), eV x.s (.slice A x.l.length c) x.b, .slice (some ⟨W.heap.size, 0, none⟩) 2 2] (W.alloc (.cells #[.int .i64 (k : Int), .int .i64 (m : Int)] 3)) fun e w' => e = .returned (.tuple #[]) ∧ (∃ vs', RG bs w' B (putM g x [k, m]) vs') ∧ w.grownBy w' (some B) := by
  have hb : Below W.heap.size W (W.alloc (.cells #[.int .i64 (k : Int), .int .i64 (m : Int)] 3)) := below_alloc (Below.refl _ _) _
  have ha2 := ha.below hb
  refine (put_w _ B W.heap.size g vs x A c k m (hr.below hb) ha2.here ha2.at' ha2.le hl (heap_alloc_new _ _) hk hm).mono ?_
  rintro e w' ⟨rfl, h1, h2⟩
  exact ⟨rfl, h1, two_grown (two_grown hW (grown_of_below hb _)) h2⟩
theorem ra_put3 {w w7 : World} {B p : Nat} {g : List Hs} {vs : List Value} {x : En} {A A7 : Option Addr} {c c7 base : Nat} {t1 : ByteArray} {t2 : List Rn} (hs : LS bs w w7 B p g vs x A c) (hr : Kd.R k58 58 w7 base (fun _ => True) (.slice A7 t2.length c7) t2) {b : Bool} : RA (put3 w7 p t1 (.slice A7 t2.length c7) b) B A7 c7 t2 :=
  have hg := put3_grown w7 p t1 (.slice A7 t2.length c7) b
  RA.of_R (far_runs hr hs.ex.x hg) (hs.rg.far hs.ex.x hg).x
set_option maxRecDepth 100000 in
set_option maxHeartbeats 8000000 in
theorem letter_d3 (w : World) (B : Nat) (g : List Hs) (vs : List Value) (x : En) (A : Option Addr) (c : Nat) (n : Int) (h : RG bs w B g vs) (hx : RA w B A c x.l) (hl : x.l.length ≤ 100000) (h0 : -2147483648 ≤ n) (h1 : n ≤ 2147483647)
    (hp : pIs n = true) (hg : goodT x.s x.l = true) (ha : pAd n = true) (hi : (gd g (pAt n)).is = true) (hgl : (gd g (pAt n)).l.length ≤ 8000000000000000000)
    (he : ((catT (gd g (pAt n)).s (gd g (pAt n)).l x.s x.l).2.2 != 0) = true) :
    Calls Try.prog 21 #[.pointer (some ⟨B, 0, none⟩), .int .i32 n, eV x.s (.slice A x.l.length c) x.b] w (LQ bs w B true (catT (gd g (pAt n)).s (gd g (pAt n)).l x.s x.l).2.2 g) := by
  have hl0 := hl
  have hl : x.l.length ≤ 8000000000000000000 := by omega
  have hS := LS.start h hx
  have HS := Aside0.mk hS
  obtain ⟨l0, l1, l2, a0, a1, a2, f0, f1, f2⟩ := HS.out.facts
  have HPL := Aside0.mk (fun w1 => place_w w1 n h0 h1)
  have HGO := Aside0.mk (fun (w1 : World) (hs : LS bs w w1 B w.heap.size g vs x A c) => strip_Good.calls (x.l.length + 2 + x.l.length) x.s A c x.l _ w1 hs.ra.here hs.ra.le (goodT_k x.s x.l hl _ (Nat.le_refl _)))
  rw [hp, ha] at HPL
  rw [hg] at HGO
  have hk := pAt_lt n
  generalize pAt n = k at *
  obtain ⟨gi, gs, gl, gb, eg⟩ : ∃ gi gs gl gb, gd g k = ⟨gi, gs, gl, gb⟩ := ⟨_, _, _, _, rfl⟩
  rw [eg] at hi hgl he ⊢
  dsimp only at hi hgl he ⊢
  have hR := h.r k (by omega)
  rw [eg] at hR
  obtain ⟨A9, c9, e9⟩ := Kd.R_slice hR
  subst hi
  have HSL : Aside0 (∀ w1, LS bs w w1 B w.heap.size g vs x A c → w1.cell? ⟨B, 1 + k * 4, none⟩ = some (.bool true) ∧ w1.cell? ⟨B, 1 + k * 4 + 1, none⟩ = some (.string gs) ∧ w1.cell? ⟨B, 1 + k * 4 + 2, none⟩ = some (.slice A9 gl.length c9) ∧ w1.cell? ⟨B, 1 + k * 4 + 3, none⟩ = some (.bool gb)) := ⟨fun w1 hs => by
    have := hs.rg.cells k (by omega)
    rw [eg, e9] at this
    exact this⟩
  generalize hz9 : catT gs gl x.s x.l = z9 at *
  obtain ⟨t1, t2, te⟩ := z9
  have HCA : Aside0 (∀ w1, LS bs w w1 B w.heap.size g vs x A c → ∀ o : Obj, Calls Try.prog 33 #[vT gs (.slice A9 gl.length c9), vT x.s (.slice A x.l.length c)] (w1.alloc o) fun e w' => ∃ v0 : Value, e = .returned (.tuple #[vT t1 v0, .int .i64 te]) ∧ Kd.R k58 58 w' (w1.alloc o).heap.size (fun _ => True) v0 t2 ∧ Below (w1.alloc o).heap.size (w1.alloc o) w') := ⟨fun w1 hs o => by
    have hs2 := hs.below (below_alloc (Below.refl _ _) o)
    have hR9 := hs2.rg.r k (by omega)
    rw [eg, e9] at hR9
    obtain ⟨A8, c8, e8, hc8, hr8⟩ := Kd.R_reads hR9
    injection e8 with e8 e81 e82
    subst e8 e82
    have := catT_w (w1.alloc o) gs x.s A9 A c9 c gl x.l hr8 hc8 hs2.ra.here hs2.ra.le hgl hl
    rw [hz9] at this
    exact this⟩
  have k0 : (0 : Int) ≤ (k : Int) := by omega
  have k1 : (k : Int) < 38 := by omega
  clear hS h hx hp hg ha e9 eg hR hgl hz9
  go_enter Try.func21, Try.ntmps21
  go_wp2_with (first | (go_at_call 25; (with_reducible refine (HPL.out _).mono ?_); rintro e w2 ⟨rfl, hd2⟩; have HS := Aside0.mk (HS.out.below (below_step (by repeat (first | (with_reducible first | exact Below.refl _ _ | apply pw_below_drewN | apply below_alloc | apply below_drew) | exact Below.refl _ _)) (drawn_below hd2))); clear hd2 l0 l1 l2 a0 a1 a2 f0 f1 f2; obtain ⟨l0, l1, l2, a0, a1, a2, f0, f1, f2⟩ := HS.out.facts) | (go_at_call 26; (with_reducible refine (good_w _ B g vs HS.out.rg).mono ?_); rintro e w3 ⟨rfl, rfl⟩) | ((go_at_call 32; (with_reducible refine (HGO.out _ HS.out).mono ?_); rintro e w4 ⟨rfl, hb4⟩; have HS := Aside0.mk (HS.out.below (below_step (by repeat (first | (with_reducible first | exact Below.refl _ _ | apply pw_below_drewN | apply below_alloc | apply below_drew) | exact Below.refl _ _)) hb4)); clear hb4 l0 l1 l2 a0 a1 a2 f0 f1 f2; obtain ⟨l0, l1, l2, a0, a1, a2, f0, f1, f2⟩ := HS.out.facts); obtain ⟨s0, s1, s2, s3⟩ := HSL.out _ HS.out) | (go_at_call 33; (with_reducible refine (HCA.out _ HS.out _).mono ?_); rintro e w7 ⟨v7, rfl, hr7, hb7⟩; obtain ⟨A7, c7, e7⟩ := Kd.R_slice hr7; subst e7; have ho7 := (hb7.block w4.heap.size (by simp)).trans (heap_alloc_new w4 _); have o3 := cell_of_row w7 w4.heap.size 3 _ _ _ ho7; have lo := blk_lt ho7; clear ho7; have HS := Aside0.mk (HS.out.below (below_step (by repeat (first | (with_reducible first | exact Below.refl _ _ | apply pw_below_drewN | apply below_alloc | apply below_drew) | exact Below.refl _ _)) hb7)); have HR7 := Aside0.mk hr7; clear hr7 hb7 l0 l1 l2 a0 a1 a2 f0 f1 f2 s0 s1 s2 s3; obtain ⟨l0, l1, l2, a0, a1, a2, f0, f1, f2⟩ := HS.out.facts))
  have hs9 := HS.out.below (below_alloc (Below.refl _ _) (.cells #[.string t1, .slice A7 t2.length c7] 29))
  exact bodyPost_ret (v := .tuple #[.bool true, .int .i64 te]) (by simp [results, Try.results21, go_sem]) rfl ⟨rfl, ⟨vs, hs9.rg⟩, grown_of_below hs9.bl _⟩
set_option maxRecDepth 100000 in
set_option maxHeartbeats 8000000 in
theorem letter_d4 (w : World) (B : Nat) (g : List Hs) (vs : List Value) (x : En) (A : Option Addr) (c : Nat) (n : Int) (h : RG bs w B g vs) (hx : RA w B A c x.l) (hl : x.l.length ≤ 100000) (h0 : -2147483648 ≤ n) (h1 : n ≤ 2147483647)
    (hp : pIs n = true) (hg : goodT x.s x.l = true) (ha : pAd n = true) (hi : (gd g (pAt n)).is = true) (hgl : (gd g (pAt n)).l.length ≤ 8000000000000000000)
    (hbb : (gd g (pAt n)).b = true) (ht : (catT (gd g (pAt n)).s (gd g (pAt n)).l x.s x.l).2.1.length ≤ 100000)
    (he : (catT (gd g (pAt n)).s (gd g (pAt n)).l x.s x.l).2.2 = 0) :
    Calls Try.prog 21 #[.pointer (some ⟨B, 0, none⟩), .int .i32 n, eV x.s (.slice A x.l.length c) x.b] w (LQ bs w B true 0 (putM g ⟨(catT (gd g (pAt n)).s (gd g (pAt n)).l x.s x.l).1, (catT (gd g (pAt n)).s (gd g (pAt n)).l x.s x.l).2.1, true⟩ [pAt n, 37])) := by
  have hl0 := hl
  have hl : x.l.length ≤ 8000000000000000000 := by omega
  have hS := LS.start h hx
  have HS := Aside0.mk hS
  obtain ⟨l0, l1, l2, a0, a1, a2, f0, f1, f2⟩ := HS.out.facts
  have HPL := Aside0.mk (fun w1 => place_w w1 n h0 h1)
  have HGO := Aside0.mk (fun (w1 : World) (hs : LS bs w w1 B w.heap.size g vs x A c) => strip_Good.calls (x.l.length + 2 + x.l.length) x.s A c x.l _ w1 hs.ra.here hs.ra.le (goodT_k x.s x.l hl _ (Nat.le_refl _)))
  rw [hp, ha] at HPL
  rw [hg] at HGO
  have hk := pAt_lt n
  generalize pAt n = k at *
  obtain ⟨gi, gs, gl, gb, eg⟩ : ∃ gi gs gl gb, gd g k = ⟨gi, gs, gl, gb⟩ := ⟨_, _, _, _, rfl⟩
  rw [eg] at hi hgl he hbb ht ⊢
  dsimp only at hi hgl he hbb ht ⊢
  have hR := h.r k (by omega)
  rw [eg] at hR
  obtain ⟨A9, c9, e9⟩ := Kd.R_slice hR
  subst hi
  have HSL : Aside0 (∀ w1, LS bs w w1 B w.heap.size g vs x A c → w1.cell? ⟨B, 1 + k * 4, none⟩ = some (.bool true) ∧ w1.cell? ⟨B, 1 + k * 4 + 1, none⟩ = some (.string gs) ∧ w1.cell? ⟨B, 1 + k * 4 + 2, none⟩ = some (.slice A9 gl.length c9) ∧ w1.cell? ⟨B, 1 + k * 4 + 3, none⟩ = some (.bool gb)) := ⟨fun w1 hs => by
    have := hs.rg.cells k (by omega)
    rw [eg, e9] at this
    exact this⟩
  generalize hz9 : catT gs gl x.s x.l = z9 at *
  obtain ⟨t1, t2, te⟩ := z9
  dsimp only at he ht ⊢
  have HCA : Aside0 (∀ w1, LS bs w w1 B w.heap.size g vs x A c → ∀ o : Obj, Calls Try.prog 33 #[vT gs (.slice A9 gl.length c9), vT x.s (.slice A x.l.length c)] (w1.alloc o) fun e w' => ∃ v0 : Value, e = .returned (.tuple #[vT t1 v0, .int .i64 te]) ∧ Kd.R k58 58 w' (w1.alloc o).heap.size (fun _ => True) v0 t2 ∧ Below (w1.alloc o).heap.size (w1.alloc o) w') := ⟨fun w1 hs o => by
    have hs2 := hs.below (below_alloc (Below.refl _ _) o)
    have hR9 := hs2.rg.r k (by omega)
    rw [eg, e9] at hR9
    obtain ⟨A8, c8, e8, hc8, hr8⟩ := Kd.R_reads hR9
    injection e8 with e8 e81 e82
    subst e8 e82
    have := catT_w (w1.alloc o) gs x.s A9 A c9 c gl x.l hr8 hc8 hs2.ra.here hs2.ra.le hgl hl
    rw [hz9] at this
    exact this⟩
  have k0 : (0 : Int) ≤ (k : Int) := by omega
  have k1 : (k : Int) < 38 := by omega
  subst hbb he
  have HPU : Aside0 (∀ (W : World) (D : Nat) (A7 : Option Addr) (c7 : Nat), W.heap.size = D → w.grownBy W (some B) → RG bs W B g vs → RA W B A7 c7 t2 → Calls Try.prog 22 #[.pointer (some ⟨B, 0, none⟩), eV t1 (.slice A7 t2.length c7) true, .slice (some ⟨D, 0, none⟩) 2 2] (W.alloc (.cells #[.int .i64 (k : Int), .int .i64 37] 3)) fun e w' => e = .returned (.tuple #[]) ∧ (∃ vs', RG bs w' B (putM g ⟨t1, t2, true⟩ [k, 37]) vs') ∧ w.grownBy w' (some B)) := ⟨fun W D A7 c7 hD hW hr ha => hD ▸ put_call2 (x := ⟨t1, t2, true⟩) ht k 37 (by omega) (by decide) hW hr ha⟩
  clear hS h hx hp hg ha e9 eg hR hgl hz9 ht
  go_enter Try.func21, Try.ntmps21
  go_wp2_with (first | (go_at_call 25; (with_reducible refine (HPL.out _).mono ?_); rintro e w2 ⟨rfl, hd2⟩; have HS := Aside0.mk (HS.out.below (below_step (by repeat (first | (with_reducible first | exact Below.refl _ _ | apply pw_below_drewN | apply below_alloc | apply below_drew) | exact Below.refl _ _)) (drawn_below hd2))); clear hd2 l0 l1 l2 a0 a1 a2 f0 f1 f2; obtain ⟨l0, l1, l2, a0, a1, a2, f0, f1, f2⟩ := HS.out.facts) | (go_at_call 26; (with_reducible refine (good_w _ B g vs HS.out.rg).mono ?_); rintro e w3 ⟨rfl, rfl⟩) | ((go_at_call 32; (with_reducible refine (HGO.out _ HS.out).mono ?_); rintro e w4 ⟨rfl, hb4⟩; have HS := Aside0.mk (HS.out.below (below_step (by repeat (first | (with_reducible first | exact Below.refl _ _ | apply pw_below_drewN | apply below_alloc | apply below_drew) | exact Below.refl _ _)) hb4)); clear hb4 l0 l1 l2 a0 a1 a2 f0 f1 f2; obtain ⟨l0, l1, l2, a0, a1, a2, f0, f1, f2⟩ := HS.out.facts); obtain ⟨s0, s1, s2, s3⟩ := HSL.out _ HS.out) | (go_at_call 33; (with_reducible refine (HCA.out _ HS.out _).mono ?_); rintro e w7 ⟨v7, rfl, hr7, hb7⟩; obtain ⟨A7, c7, e7⟩ := Kd.R_slice hr7; subst e7; have ho7 := (hb7.block w4.heap.size (by simp)).trans (heap_alloc_new w4 _); have o3 := cell_of_row w7 w4.heap.size 3 _ _ _ ho7; have lo := blk_lt ho7; clear ho7; have HS := Aside0.mk (HS.out.below (below_step (by repeat (first | (with_reducible first | exact Below.refl _ _ | apply pw_below_drewN | apply below_alloc | apply below_drew) | exact Below.refl _ _)) hb7)); have HR7 := Aside0.mk hr7; clear hr7 hb7 l0 l1 l2 a0 a1 a2 f0 f1 f2 s0 s1 s2 s3; obtain ⟨l0, l1, l2, a0, a1, a2, f0, f1, f2⟩ := HS.out.facts) | (go_at_call 22; (with_reducible refine (HPU.out _ _ _ _ ?p1 ?p2 ?p3 ?p4).mono ?_); (case p1 => exact (by simp)); (case p2 => exact grown_of_below (below_alloc (below_set (below_set (below_set HS.out.bl (Nat.le_refl _)) (Nat.le_refl _)) (Nat.le_refl _)) _) _); (case p3 => exact (HS.out.rg.far HS.out.ex.x (put3_grown _ _ _ _ _)).below (below_alloc (Below.refl _ _) _)); (case p4 => exact (ra_put3 HS.out HR7.out).below (below_alloc (Below.refl _ _) _)); rintro e w8 ⟨rfl, hr8, hg8⟩; have HF8 := Aside0.mk (⟨hr8, hg8⟩ : _ ∧ _); clear hr8 hg8 l0 l1 l2 a0 a1 a2 f0 f1 f2))
  exact bodyPost_ret (v := .tuple #[.bool true, .int .i64 0]) (by simp [results, Try.results21, go_sem]) rfl ⟨rfl, HF8.out⟩
set_option maxRecDepth 100000 in
set_option maxHeartbeats 8000000 in
theorem letter_d5 (w : World) (B : Nat) (g : List Hs) (vs : List Value) (x : En) (A : Option Addr) (c : Nat) (n : Int) (h : RG bs w B g vs) (hx : RA w B A c x.l) (hl : x.l.length ≤ 100000) (h0 : -2147483648 ≤ n) (h1 : n ≤ 2147483647)
    (hp : pIs n = true) (hg : goodT x.s x.l = true) (ha : pAd n = true) (hi : (gd g (pAt n)).is = true) (hgl : (gd g (pAt n)).l.length ≤ 8000000000000000000)
    (hbb : (gd g (pAt n)).b = false) (ht : (catT (gd g (pAt n)).s (gd g (pAt n)).l x.s x.l).2.1.length ≤ 100000)
    (he : (catT (gd g (pAt n)).s (gd g (pAt n)).l x.s x.l).2.2 = 0) :
    Calls Try.prog 21 #[.pointer (some ⟨B, 0, none⟩), .int .i32 n, eV x.s (.slice A x.l.length c) x.b] w (LQ bs w B true 0 (putM g ⟨(catT (gd g (pAt n)).s (gd g (pAt n)).l x.s x.l).1, (catT (gd g (pAt n)).s (gd g (pAt n)).l x.s x.l).2.1, x.b⟩ [pAt n, 37])) := by
  have hl0 := hl
  have hl : x.l.length ≤ 8000000000000000000 := by omega
  have hS := LS.start h hx
  have HS := Aside0.mk hS
  obtain ⟨l0, l1, l2, a0, a1, a2, f0, f1, f2⟩ := HS.out.facts
  have HPL := Aside0.mk (fun w1 => place_w w1 n h0 h1)
  have HGO := Aside0.mk (fun (w1 : World) (hs : LS bs w w1 B w.heap.size g vs x A c) => strip_Good.calls (x.l.length + 2 + x.l.length) x.s A c x.l _ w1 hs.ra.here hs.ra.le (goodT_k x.s x.l hl _ (Nat.le_refl _)))
  rw [hp, ha] at HPL
  rw [hg] at HGO
  have hk := pAt_lt n
  generalize pAt n = k at *
  obtain ⟨gi, gs, gl, gb, eg⟩ : ∃ gi gs gl gb, gd g k = ⟨gi, gs, gl, gb⟩ := ⟨_, _, _, _, rfl⟩
  rw [eg] at hi hgl he hbb ht ⊢
  dsimp only at hi hgl he hbb ht ⊢
  have hR := h.r k (by omega)
  rw [eg] at hR
  obtain ⟨A9, c9, e9⟩ := Kd.R_slice hR
  subst hi
  have HSL : Aside0 (∀ w1, LS bs w w1 B w.heap.size g vs x A c → w1.cell? ⟨B, 1 + k * 4, none⟩ = some (.bool true) ∧ w1.cell? ⟨B, 1 + k * 4 + 1, none⟩ = some (.string gs) ∧ w1.cell? ⟨B, 1 + k * 4 + 2, none⟩ = some (.slice A9 gl.length c9) ∧ w1.cell? ⟨B, 1 + k * 4 + 3, none⟩ = some (.bool gb)) := ⟨fun w1 hs => by
    have := hs.rg.cells k (by omega)
    rw [eg, e9] at this
    exact this⟩
  generalize hz9 : catT gs gl x.s x.l = z9 at *
  obtain ⟨t1, t2, te⟩ := z9
  dsimp only at he ht ⊢
  have HCA : Aside0 (∀ w1, LS bs w w1 B w.heap.size g vs x A c → ∀ o : Obj, Calls Try.prog 33 #[vT gs (.slice A9 gl.length c9), vT x.s (.slice A x.l.length c)] (w1.alloc o) fun e w' => ∃ v0 : Value, e = .returned (.tuple #[vT t1 v0, .int .i64 te]) ∧ Kd.R k58 58 w' (w1.alloc o).heap.size (fun _ => True) v0 t2 ∧ Below (w1.alloc o).heap.size (w1.alloc o) w') := ⟨fun w1 hs o => by
    have hs2 := hs.below (below_alloc (Below.refl _ _) o)
    have hR9 := hs2.rg.r k (by omega)
    rw [eg, e9] at hR9
    obtain ⟨A8, c8, e8, hc8, hr8⟩ := Kd.R_reads hR9
    injection e8 with e8 e81 e82
    subst e8 e82
    have := catT_w (w1.alloc o) gs x.s A9 A c9 c gl x.l hr8 hc8 hs2.ra.here hs2.ra.le hgl hl
    rw [hz9] at this
    exact this⟩
  have k0 : (0 : Int) ≤ (k : Int) := by omega
  have k1 : (k : Int) < 38 := by omega
  subst hbb he
  have HPU : Aside0 (∀ (W : World) (D : Nat) (A7 : Option Addr) (c7 : Nat), W.heap.size = D → w.grownBy W (some B) → RG bs W B g vs → RA W B A7 c7 t2 → Calls Try.prog 22 #[.pointer (some ⟨B, 0, none⟩), eV t1 (.slice A7 t2.length c7) x.b, .slice (some ⟨D, 0, none⟩) 2 2] (W.alloc (.cells #[.int .i64 (k : Int), .int .i64 37] 3)) fun e w' => e = .returned (.tuple #[]) ∧ (∃ vs', RG bs w' B (putM g ⟨t1, t2, x.b⟩ [k, 37]) vs') ∧ w.grownBy w' (some B)) := ⟨fun W D A7 c7 hD hW hr ha => hD ▸ put_call2 (x := ⟨t1, t2, x.b⟩) ht k 37 (by omega) (by decide) hW hr ha⟩
  clear hS h hx hp hg ha e9 eg hR hgl hz9 ht
  go_enter Try.func21, Try.ntmps21
  go_wp2_with (first | (go_at_call 25; (with_reducible refine (HPL.out _).mono ?_); rintro e w2 ⟨rfl, hd2⟩; have HS := Aside0.mk (HS.out.below (below_step (by repeat (first | (with_reducible first | exact Below.refl _ _ | apply pw_below_drewN | apply below_alloc | apply below_drew) | exact Below.refl _ _)) (drawn_below hd2))); clear hd2 l0 l1 l2 a0 a1 a2 f0 f1 f2; obtain ⟨l0, l1, l2, a0, a1, a2, f0, f1, f2⟩ := HS.out.facts) | (go_at_call 26; (with_reducible refine (good_w _ B g vs HS.out.rg).mono ?_); rintro e w3 ⟨rfl, rfl⟩) | ((go_at_call 32; (with_reducible refine (HGO.out _ HS.out).mono ?_); rintro e w4 ⟨rfl, hb4⟩; have HS := Aside0.mk (HS.out.below (below_step (by repeat (first | (with_reducible first | exact Below.refl _ _ | apply pw_below_drewN | apply below_alloc | apply below_drew) | exact Below.refl _ _)) hb4)); clear hb4 l0 l1 l2 a0 a1 a2 f0 f1 f2; obtain ⟨l0, l1, l2, a0, a1, a2, f0, f1, f2⟩ := HS.out.facts); obtain ⟨s0, s1, s2, s3⟩ := HSL.out _ HS.out) | (go_at_call 33; (with_reducible refine (HCA.out _ HS.out _).mono ?_); rintro e w7 ⟨v7, rfl, hr7, hb7⟩; obtain ⟨A7, c7, e7⟩ := Kd.R_slice hr7; subst e7; have ho7 := (hb7.block w4.heap.size (by simp)).trans (heap_alloc_new w4 _); have o3 := cell_of_row w7 w4.heap.size 3 _ _ _ ho7; have lo := blk_lt ho7; clear ho7; have HS := Aside0.mk (HS.out.below (below_step (by repeat (first | (with_reducible first | exact Below.refl _ _ | apply pw_below_drewN | apply below_alloc | apply below_drew) | exact Below.refl _ _)) hb7)); have HR7 := Aside0.mk hr7; clear hr7 hb7 l0 l1 l2 a0 a1 a2 f0 f1 f2 s0 s1 s2 s3; obtain ⟨l0, l1, l2, a0, a1, a2, f0, f1, f2⟩ := HS.out.facts) | (go_at_call 22; (with_reducible refine (HPU.out _ _ _ _ ?p1 ?p2 ?p3 ?p4).mono ?_); (case p1 => exact (by simp)); (case p2 => exact grown_of_below (below_alloc (below_set (below_set (below_set HS.out.bl (Nat.le_refl _)) (Nat.le_refl _)) (Nat.le_refl _)) _) _); (case p3 => exact (HS.out.rg.far HS.out.ex.x (put3_grown _ _ _ _ _)).below (below_alloc (Below.refl _ _) _)); (case p4 => exact (ra_put3 HS.out HR7.out).below (below_alloc (Below.refl _ _) _)); rintro e w8 ⟨rfl, hr8, hg8⟩; have HF8 := Aside0.mk (⟨hr8, hg8⟩ : _ ∧ _); clear hr8 hg8 l0 l1 l2 a0 a1 a2 f0 f1 f2))
  exact bodyPost_ret (v := .tuple #[.bool true, .int .i64 0]) (by simp [results, Try.results21, go_sem]) rfl ⟨rfl, HF8.out⟩

end Go.Proofs.Ytbcbfmhcoemnpaa.Ext
