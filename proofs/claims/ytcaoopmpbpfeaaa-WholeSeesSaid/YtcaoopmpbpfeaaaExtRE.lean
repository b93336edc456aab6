/- runs: the closures of Raise, by their walks. -/
import Derived.Test.YtcaoopmpbpfeaaaExtRD
import Derived.Test.YtcaoopmpbpfeaaaXRRx0
import Derived.Test.YtcaoopmpbpfeaaaWMore
import Derived.WalkKit
import Derived.WalkMore
import Derived.Below
import Derived.KernelRfl
import Derived.LoopTactic
import Derived.Deep.RegionWith
import Derived.Deep.RegionHeld3
import Derived.IntWalk
import Derived.Deep.DeepCutAuto
import Derived.Deep.CutBlock
import Derived.BigQuiet
import Derived.Laws.RangeString
import Derived.Laws.RangeAny
import Derived.Laws.Rows
import Derived.Laws.Runes
import Derived.Lib.OthersKept
import Derived.OpenShut
set_option linter.unusedVariables false
set_option linter.unusedSimpArgs false
namespace Go.Proofs.Ytcaoopmpbpfeaaa.Ext
open Go.RowKit Go.Lib Go.Proofs.YtcaoopmpbpfeaaaW.PrintWords Go.Proofs.YtcaoopmpbpfeaaaW.PrintMore Go.Proofs.Ytcaoopmpbpfeaaa.XRR

def joinL (a b : Int) : Int := Go.bits .or .u64 a b
def upJ (by_ : Int) (r : Rn) : Rn := ⟨joinL r.f0 by_, r.f1⟩
set_option maxRecDepth 100000 in
set_option maxHeartbeats 1000000 in
theorem join_w (a b : Int) (w : World) : Calls Try.prog 30 #[.int .u64 a, .int .u64 b] w fun e w' => e = .returned (.int .u64 (joinL a b)) ∧ w = w' := by
  go_enter Try.func30, Try.ntmps30
  go_wp2
  go_ret
  exact ⟨rfl, rfl⟩
abbrev addJ (pa pb : Nat) : Value := .func (.func 29) #[] #[.pointer (some ⟨pa, 0, none⟩), .pointer (some ⟨pb, 0, none⟩)]
/-- The closure's own variables: add itself, and the label. -/
structure JC (w : World) (base pa pb b : Nat) (by_ : Int) : Prop where
  a : w.heap[pa]? = some (.cells #[addF b] 56 (0, 0))
  b : w.heap[pb]? = some (.cells #[.int .u64 by_] 24 (0, 0))
theorem JC.cells {w : World} {base pa pb b : Nat} {by_ : Int} (h : JC w base pa pb b by_) : w.cell? ⟨pa, 0, none⟩ = some (addF b) ∧ w.cell? ⟨pb, 0, none⟩ = some (.int .u64 by_) := ⟨cell_of_one h.a, cell_of_one h.b⟩
theorem KeepV2 {w w1 w2 : World} {b : Nat} {v : Value} (hx : w.heap[b]? = some (.cells #[v] 26 (0, 0))) (hb : Below w.heap.size w w1) (hk : Keep w1 w2 b) : Keep w w2 b :=
  KeepV.keep hx ((KeepV.of hb).trans (hk v ((hb.block b (Array.getElem?_eq_some_iff.1 hx).1).trans hx)))
theorem JC.below {w w' : World} {base pa pb b : Nat} {by_ : Int} (h : JC w base pa pb b by_) (hb : Below w.heap.size w w') : JC w' base pa pb b by_ :=
  ⟨(hb.block pa (Array.getElem?_eq_some_iff.1 h.a).1).trans h.a, (hb.block pb (Array.getElem?_eq_some_iff.1 h.b).1).trans h.b⟩
theorem JC.keep {w0 w w' : World} {base pa pb b : Nat} {by_ : Int} {xs : List Rn} (h : JC w base pa pb b by_) (hg : Gs w0 w base b xs) (hk : Keep w w' b) : JC w' base pa pb b by_ := by
  obtain ⟨v, e, hr⟩ := hg.out
  have k := hk v e
  have far : ∀ (i : Nat) (cs : Array Value) (t : TypeId), w.heap[i]? = some (.cells cs t (0, 0)) → t ≠ 43 → some i ≠ v.ownBlock := fun i cs t hi ht e2 => by
    obtain ⟨c2, x2⟩ := tyR hr i e2.symm
    exact ty_ne hi x2 ht rfl
  exact ⟨(k.k pa (Array.getElem?_eq_some_iff.1 h.a).1 (ty_ne h.a e (by decide)) (far _ _ _ h.a (by decide))).trans h.a, (k.k pb (Array.getElem?_eq_some_iff.1 h.b).1 (ty_ne h.b e (by decide)) (far _ _ _ h.b (by decide))).trans h.b⟩
/-- A block that was made behind the row stays, too. -/
theorem Gs.keep_new {w0 w w1 w' : World} {base b : Nat} {xs : List Rn} (hg : Gs w0 w base b xs) (hb : Below w.heap.size w w1) (hk : Keep w1 w' b) {i : Nat} {o : Obj} (hi : w.heap.size ≤ i) (hx : w1.heap[i]? = some o) : w'.heap[i]? = some o := by
  obtain ⟨v, e, hr⟩ := hg.out
  have hlb := hg.lt
  have e1 := (hb.block b hlb).trans e
  have k := hk v e1
  exact (k.k i (Array.getElem?_eq_some_iff.1 hx).1 (by omega) (Kd.fresh' (Kd.R_lt hr) i hi)).trans hx
set_option maxRecDepth 100000 in
set_option maxHeartbeats 4000000 in
theorem addJ_w (w0 w : World) (base b pa pb : Nat) (xs : List Rn) (r0 r1 by_ : Int) (h : Gs w0 w base b xs) (hj : JC w base pa pb b by_) (hl : xs.length ≤ 100000) (hx : ∀ x, x ∈ xs → 0 ≤ x.f1 ∧ x.f1 ≤ 1000000000) (hr : r1 ≤ 1000000000) :
    Calls Try.prog 29 #[.agg #[.int .u64 r0, .int .i64 r1], .pointer (some ⟨pa, 0, none⟩), .pointer (some ⟨pb, 0, none⟩)] w fun e w' => e = .returned (.tuple #[]) ∧ Gs w0 w' base b (addR xs ⟨joinL r0 by_, r1⟩) ∧ Keep w w' b := by
  have hj1 := (hj.below (below_alloc (Below.refl _ _) (.cells #[.int .u64 r0, .int .i64 r1] 43))).below (below_drew (Below.refl _ _))
  have c1 := cell_of_one hj.a
  have c2 := cell_of_one hj.b
  have lpa : pa < w.heap.size := (Array.getElem?_eq_some_iff.1 hj.a).1
  have lpb : pb < w.heap.size := (Array.getElem?_eq_some_iff.1 hj.b).1
  have HJO := Aside0.mk (fun w1 => join_w r0 by_ w1)
  have HAD := Aside0.mk (fun (w1 : World) (hb : Below w.heap.size w w1) => add_w w0 w1 base b xs (joinL r0 by_) r1 (h.below hb) hl hx hr)
  obtain ⟨v0, hx0, _⟩ := h.out
  have HX0 := Aside0.mk hx0
  have HJ0 := Aside0.mk hj
  have HG0 := Aside0.mk h
  clear h hj hj1 hx hx0
  go_enter Try.func29, Try.ntmps29
  go_wp2
  go_region_held3 (fun w' => w'.cell? ⟨pa, 0, none⟩ = some (addF b) ∧ w'.cell? ⟨pb, 0, none⟩ = some (.int .u64 by_) ∧ w'.cell? ⟨w.heap.size, 0, none⟩ = some (.int .u64 r0) ∧ w'.cell? ⟨w.heap.size, 1, none⟩ = some (.int .i64 r1)) (first | exact ⟨m1, m2, m3, m4⟩ | go_keep) (first | (go_at_call 30; (with_reducible refine (HJO.out _).mono ?_); rintro e w1 ⟨rfl, rfl⟩) | (go_at_call 33; (with_reducible refine (HAD.out _ ?sb).mono ?_); (case sb => exact (by repeat (first | (with_reducible first | exact Below.refl _ _ | apply pw_below_drewN | apply below_alloc | apply below_drew) | exact Below.refl _ _))); rintro e w2 ⟨rfl, hg2, hk2⟩; have HG2 := Aside0.mk hg2; have HK2 := Aside0.mk ((KeepV2 HX0.out (by repeat (first | (with_reducible first | exact Below.refl _ _ | apply pw_below_drewN | apply below_alloc | apply below_drew) | exact Below.refl _ _)) hk2)); obtain ⟨m1, m2⟩ := (JC.keep (HJ0.out.below (by repeat (first | (with_reducible first | exact Below.refl _ _ | apply pw_below_drewN | apply below_alloc | apply below_drew) | exact Below.refl _ _))) (HG0.out.below (by repeat (first | (with_reducible first | exact Below.refl _ _ | apply pw_below_drewN | apply below_alloc | apply below_drew) | exact Below.refl _ _))) hk2).cells; have hbx := Gs.keep_new HG0.out (by repeat (first | (with_reducible first | exact Below.refl _ _ | apply pw_below_drewN | apply below_alloc | apply below_drew) | exact Below.refl _ _)) hk2 (Nat.le_refl _) (heap_alloc_new _ _); have m3 : w2.cell? ⟨w.heap.size, 0, none⟩ = some (.int .u64 r0) := (by rw [cell_of_row _ _ _ _ _ _ hbx]; rfl); have m4 : w2.cell? ⟨w.heap.size, 1, none⟩ = some (.int .i64 r1) := (by rw [cell_of_row _ _ _ _ _ _ hbx]; rfl); clear hg2 hk2 hbx))
  all_goals (go_wp2; go_end0; exact ⟨rfl, HG2.out, HK2.out⟩)
attribute [local go_sem] mxO_int mnO_int max_two min_two
set_option maxRecDepth 100000 in
set_option maxHeartbeats 8000000 in
theorem someJ_w (w0 w : World) (by_ : Int) (pa pb : Nat)  (A : Option Addr) (c : Nat) (l : List Rn) (f t : Int) (b : Nat) (xs : List Rn) (m : Int) (n : Nat) (hr : Kd.C k43 w0 A l.length l) (h : Gs w0 w w0.heap.size b xs) (hj : JC w w0.heap.size pa pb b by_)
    (hv : ∀ r, r ∈ l → 0 ≤ r.f1 ∧ r.f1 ≤ 5000) (hll : l.length ≤ 5000) (hb : Bd m n xs) (hm : 0 ≤ m ∧ m ≤ 100000000) (hn : n ≤ 50000) (hf : 0 ≤ f ∧ f ≤ 100000) (ht : 0 ≤ t ∧ t ≤ 100000) :
    Calls Try.prog 28 #[.slice A l.length c, .int .i64 f, .int .i64 t, addJ pa pb] w fun e w' => e = .returned (.tuple #[]) ∧ Gs w0 w' w0.heap.size b (someR f t 0 (l.map (upJ by_)) xs) ∧ Bd (m + 5000 * l.length) (n + l.length) (someR f t 0 (l.map (upJ by_)) xs) ∧ KT w w' := by
  have HR := Aside0.mk hr
  have HS := Aside0.mk h
  have HJ := Aside0.mk hj
  have HV := Aside0.mk hv
  have HBD := Aside0.mk hb
  obtain ⟨hf0, hf1⟩ := hf
  obtain ⟨ht0, ht1⟩ := ht
  obtain ⟨hm0, hm1⟩ := hm
  clear hr h hv hb hj
  go_enter Try.func28, Try.ntmps28
  go_wp2
  go_loopw [8, 14] (fun aa ii wr => ∃ (wr1 : World) (q : Nat) (at_ : Int) (ys : List Rn), wr1 = wr ∧ aa = .int .i64 at_ ∧ ii = .int .i64 q ∧ q ≤ l.length ∧ 0 ≤ at_ ∧ at_ ≤ 5000 * q ∧ Aside0 (someR f t at_ ((l.drop q).map (upJ by_)) ys = someR f t 0 (l.map (upJ by_)) xs) ∧ Aside0 (Gs w0 wr1 w0.heap.size b ys) ∧ Aside0 (JC wr1 w0.heap.size pa pb b by_) ∧ Aside0 (Bd (m + 5000 * q) (n + q) ys) ∧ Aside0 (KT w wr1)) (fun _ ii _ => l.length - (intOf ii).toNat)
  case atStart => exact ⟨_, 0, 0, xs, rfl, rfl, rfl, Nat.zero_le _, Int.le_refl _, by omega, ⟨by rw [List.drop_zero]⟩, HS, HJ, ⟨by have := HBD.out; simpa using this⟩, ⟨KT.of (Below.refl _ _)⟩⟩
  case round =>
    obtain ⟨wr1, q, at_, ys, rfl, rfl, rfl, hq, ha0, ha1, HE, HG, HJ1, HB, HKT⟩ := hrel
    by_cases hql : q < l.length
    · obtain ⟨ad, eA, hz0, hz1⟩ := g43 rfl (Kd.C_below HR.out HG.out.hb) q hql
      cases eA
      have hvv := HV.out _ (List.getElem_mem hql)
      have he := HE.out
      rw [List.drop_eq_getElem_cons hql, List.map_cons] at he
      generalize l[q] = x at hz0 hz1 hvv he
      obtain ⟨x0, x1⟩ := x
      simp only [someR, upJ] at hz0 hz1 hvv he
      have hmn : 0 ≤ mnO (at_ + x1) t ∧ mnO (at_ + x1) t ≤ at_ + x1 := by rw [mnO_eq]; omega
      have hmx : at_ ≤ mxO at_ f ∧ mxO at_ f ≤ 100000000 := by rw [mxO_eq]; omega
      rw [← mnO_eq, ← mxO_eq] at he
      obtain ⟨hmn0, hmn1⟩ := hmn
      obtain ⟨hmx0, hmx1⟩ := hmx
      obtain ⟨d, hd⟩ : ∃ d, d = mnO (at_ + x1) t - mxO at_ f := ⟨_, rfl⟩
      have hdb : d ≤ 5000 := by rw [hd]; omega
      rw [← hd] at he
      have HDD := Aside0.mk hd
      have HE2 := Aside0.mk he
      clear hd
      have HAD := Aside0.mk (fun (w1 : World) (hb : Below wr1.heap.size wr1 w1) => addJ_w w0 w1 w0.heap.size b pa pb ys x0 d by_ (HG.out.below hb) (HJ1.out.below hb) (by have := HB.out.len; omega) (fun y hy => by have := HB.out.val y hy; omega) (by omega))
      have HB2 : Aside0 (Bd (m + 5000 * ((q + 1 : Nat) : Int)) (n + (q + 1)) (addR ys ⟨joinL x0 by_, d⟩)) := ⟨⟨by have := addR_len ys ⟨joinL x0 by_, d⟩; have := HB.out.len; omega, fun y hy => by have := addR_bound HB.out.val (by omega) (by omega : (0 : Int) ≤ 5000) (r := ⟨joinL x0 by_, d⟩) (by simp only; omega) y hy; omega⟩⟩
      obtain ⟨hv0, hv1⟩ := hvv
      rw [HDD.out] at HAD HB2 HE2
      clear HE he
      go_wp2_with (first | (go_at_call 29; (with_reducible refine (HAD.out _ ?sb).mono ?_); (case sb => exact below_alloc (Below.refl _ _) _); rintro e w2 ⟨rfl, hg2, hk2⟩; have HG2 := Aside0.mk hg2; have HJ2 := Aside0.mk ((HJ1.out.below (below_alloc (Below.refl _ _) _)).keep (HG.out.below (below_alloc (Below.refl _ _) _)) hk2); have HK2 := Aside0.mk ((HKT.out.trans (KT.of (below_alloc (Below.refl _ _) _))).trans (KT.keep (HG.out.below (below_alloc (Below.refl _ _) _)) hk2)); clear hg2 hk2))
      exact ⟨⟨_, q + 1, at_ + x1, _, rfl, rfl, by go_num, by omega, by omega, by omega, HE2, HG2, HJ2, HB2, HK2⟩, by simp [intOf]; omega⟩
    · have hqg : l.length ≤ q := by omega
      have hfin : ys = someR f t 0 (l.map (upJ by_)) xs := by
        have h := HE.out
        rw [List.drop_of_length_le hqg] at h
        exact h
      have hqe : q = l.length := by omega
      have HFIN := Aside0.mk hfin
      have HQE := Aside0.mk hqe
      clear hfin hqe
      go_wp2
      go_end0
      exact ⟨rfl, by rw [← HFIN.out]; exact HG.out, by rw [← HFIN.out, ← HQE.out]; exact HB.out, HKT.out⟩
theorem JC.kt {w w' : World} {base pa pb b : Nat} {by_ : Int} (h : JC w base pa pb b by_) (hk : KT w w') : JC w' base pa pb b by_ := ⟨hk.k _ _ _ h.a (by decide) (by decide), hk.k _ _ _ h.b (by decide) (by decide)⟩
def rai (l : List Rn) (f t by_ : Int) : List Rn := someR t 4096 0 l (someR f t 0 (l.map (upJ by_)) (someR 0 f 0 l []))
set_option maxRecDepth 100000 in
set_option maxHeartbeats 4000000 in
theorem raise1_w (w0 w : World) (A : Option Addr) (c : Nat) (l : List Rn) (f t by_ : Int) (b p1 p2 p3 p4 : Nat) (hr : Kd.C k43 w0 A l.length l) (h1 : Cap w0 p1 (.slice A l.length c) 26) (h2 : Cap w0 p2 (.int .i64 f) 3) (h3 : Cap w0 p3 (.int .i64 t) 3) (h4 : Cap w0 p4 (.int .u64 by_) 24) (h : Gs w0 w w0.heap.size b []) (hl : okL l) (hf : 0 ≤ f ∧ f ≤ 100000) (ht : 0 ≤ t ∧ t ≤ 100000) :
    Calls Try.prog 27 #[addF b, .pointer (some ⟨p1, 0, none⟩), .pointer (some ⟨p2, 0, none⟩), .pointer (some ⟨p3, 0, none⟩), .pointer (some ⟨p4, 0, none⟩)] w fun e w' => e = .returned (.tuple #[]) ∧ Gs w0 w' w0.heap.size b (rai l f t by_) := by
  have hll := hl.2
  have hg1 := h.below (below_alloc (Below.refl _ _) (.cells #[addF b] 56))
  have hx5 := heap_alloc_new w (.cells #[addF b] 56)
  have hj1 : JC (w.alloc (.cells #[addF b] 56)) w0.heap.size w.heap.size p4 b by_ := ⟨hx5, (hg1.hb.block p4 (Array.getElem?_eq_some_iff.1 h4.x).1).trans h4.x⟩
  have k1 := h1.cell h.hb
  have k2 := h2.cell h.hb
  have lp1 : p1 < w.heap.size := Nat.lt_of_lt_of_le (Array.getElem?_eq_some_iff.1 h1.x).1 h.hb.size
  have lp2 : p2 < w.heap.size := Nat.lt_of_lt_of_le (Array.getElem?_eq_some_iff.1 h2.x).1 h.hb.size
  have HC := Aside0.mk (fun (w1 : World) (hb : Below w0.heap.size w0 w1) => (⟨h1.cell hb, h2.cell hb, h3.cell hb⟩ : _ ∧ _ ∧ _))
  have HJ1 := Aside0.mk hj1
  have HS1 := Aside0.mk (some_w w0 _ A c l 0 f b [] 0 0 hr hg1 hl.1 hl.2 Bd.nil (by decide) (by decide) (by decide) hf)
  have HS2 := Aside0.mk (fun (w1 : World) (hg : Gs w0 w1 w0.heap.size b (someR 0 f 0 l [])) (hj : JC w1 w0.heap.size w.heap.size p4 b by_) (hb : Bd (0 + 5000 * l.length) (0 + l.length) (someR 0 f 0 l [])) => someJ_w w0 w1 by_ w.heap.size p4 A c l f t b _ _ _ hr hg hj hl.1 hl.2 hb (by omega) (by omega) hf ht)
  have HS3 := Aside0.mk (fun (w1 : World) (xs : List Rn) (hg : Gs w0 w1 w0.heap.size b xs) (hb : Bd (0 + 5000 * l.length + 5000 * l.length) (0 + l.length + l.length) xs) => some_w w0 w1 A c l t 4096 b _ _ _ hr hg hl.1 hl.2 hb (by omega) (by omega) ht (by decide))
  clear hr h h1 h2 h3 h4 hg1 hx5 hj1
  go_enter Try.func27, Try.ntmps27
  go_wp2_with (first
    | (go_at_call 28; (with_reducible refine HS1.out.mono ?_); rintro e w2 ⟨rfl, hg2, hb2, hk2⟩; have HG2 := Aside0.mk hg2; have HB2 := Aside0.mk hb2; have HJ2 := Aside0.mk (HJ1.out.kt hk2); obtain ⟨d1, d2, d3⟩ := HC.out _ hg2.hb; have d5 := (HJ1.out.kt hk2).cells.1; clear hg2 hb2 hk2)
    | (go_at_call 28; (with_reducible refine (HS2.out _ HG2.out HJ2.out HB2.out).mono ?_); rintro e w3 ⟨rfl, hg3, hb3, hk3⟩; have HG3 := Aside0.mk hg3; have HB3 := Aside0.mk hb3; obtain ⟨e1, e2, e3⟩ := HC.out _ hg3.hb; have e5 := (HJ2.out.kt hk3).cells.1; clear hg3 hb3 hk3)
    | (go_at_call 28; (with_reducible refine (HS3.out _ _ HG3.out HB3.out).mono ?_); rintro e w4 ⟨rfl, hg4, -, -⟩; have HG4 := Aside0.mk hg4; clear hg4))
  go_end0
  exact ⟨rfl, HG4.out⟩
set_option maxRecDepth 100000 in
set_option maxHeartbeats 4000000 in
theorem gather_raise (w : World) (p1 p2 p3 p4 : Nat) (res : List Rn) (H : ∀ (w1 : World), Gs w w1 w.heap.size w.heap.size [] → Calls Try.prog 27 #[addF w.heap.size, .pointer (some ⟨p1, 0, none⟩), .pointer (some ⟨p2, 0, none⟩), .pointer (some ⟨p3, 0, none⟩), .pointer (some ⟨p4, 0, none⟩)] w1 fun e w' => e = .returned (.tuple #[]) ∧ Gs w w' w.heap.size w.heap.size res) :
    Calls Try.prog 26 #[.func (.func 27) #[] #[.pointer (some ⟨p1, 0, none⟩), .pointer (some ⟨p2, 0, none⟩), .pointer (some ⟨p3, 0, none⟩), .pointer (some ⟨p4, 0, none⟩)]] w fun e w' => ∃ v : Value, e = .returned v ∧ Kd.R k43 43 w' w.heap.size (fun _ => True) v res ∧ Below w.heap.size w w' := by
  have HL := Aside0.mk (H _ (gs_start w))
  clear H
  go_enter Try.func26, Try.ntmps26
  go_wp2_with (first | (go_at_call 27; (with_reducible refine HL.out.mono ?_); rintro e w2 ⟨rfl, hg2⟩; have hb2 := hg2.hb; obtain ⟨v, hx, hr⟩ := hg2.out; have cc := cell_of_one hx; have HR2 := Aside0.mk hr; have HB2 := Aside0.mk hb2; obtain ⟨Av, cv, ev⟩ := Kd.R_slice hr; subst ev; clear hg2 hx hr hb2))
  go_ret
  exact ⟨_, rfl, HR2.out, HB2.out⟩

end Go.Proofs.Ytcaoopmpbpfeaaa.Ext
