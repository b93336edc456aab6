/- runs: some, with gather's add, by its walk. -/
import Derived.Test.YtgaggoglbkcomaaExtRB
import Derived.Test.YtgaggoglbkcomaaXRRx0
import Derived.Test.YtgaggoglbkcomaaWMore
import Derived.WalkKit
import Derived.WalkMore
import Derived.Below
import Derived.KernelRfl
import Derived.LoopTactic
import Derived.Deep.RegionWith
import Derived.Deep.RegionHeld3
import Derived.IntWalk
import Derived.Deep.DeepCutAuto
import Derived.Deep.CutBlock
import Derived.BigQuiet
import Derived.Laws.RangeString
import Derived.Laws.RangeAny
import Derived.Laws.Rows
import Derived.Laws.Runes
import Derived.Lib.OthersKept
import Derived.OpenShut
set_option linter.unusedVariables false
set_option linter.unusedSimpArgs false
namespace Go.Proofs.Ytgaggoglbkcomaa.Ext
open Go.RowKit Go.Lib Go.Proofs.YtgaggoglbkcomaaW.PrintWords Go.Proofs.YtgaggoglbkcomaaW.PrintMore Go.Proofs.Ytgaggoglbkcomaa.XRR

theorem addR_bound {xs : List Rn} {r : Rn} {m k : Int} (h : ∀ x, x ∈ xs → 0 ≤ x.f1 ∧ x.f1 ≤ m) (hm : 0 ≤ m) (hk : 0 ≤ k) (hr : r.f1 ≤ k) : ∀ x, x ∈ addR xs r → 0 ≤ x.f1 ∧ x.f1 ≤ m + k := by
  intro x hx
  unfold addR at hx
  by_cases c : r.f1 < 1
  · rw [if_pos c] at hx
    have := h x hx
    omega
  · rw [if_neg c] at hx
    have snoc : x ∈ xs ++ [r] → 0 ≤ x.f1 ∧ x.f1 ≤ m + k := fun hx => by
      rcases List.mem_append.1 hx with hx | hx
      · have := h x hx; omega
      · rw [List.mem_singleton.1 hx]; omega
    cases e : xs.getLast? with
    | none => rw [e] at hx; exact snoc hx
    | some y =>
      rw [e] at hx
      simp only at hx
      by_cases c2 : y.f0 = r.f0
      · rw [if_pos c2] at hx
        rcases List.mem_append.1 hx with hx | hx
        · have := h x (List.dropLast_subset _ hx); omega
        · have := h y (List.mem_of_getLast? e)
          rw [List.mem_singleton.1 hx]
          simp only
          omega
      · rw [if_neg c2] at hx; exact snoc hx
theorem addR_len (xs : List Rn) (r : Rn) : (addR xs r).length ≤ xs.length + 1 := by
  unfold addR
  split
  · omega
  · split
    · split
      · rw [List.length_append, List.length_dropLast, List.length_singleton]; omega
      · simp
    · simp
def mxO (x y : Int) : Int := if x < y then y else x
def mnO (x y : Int) : Int := if y < x then y else x
theorem mxO_int (k k' : IntKind) (x y : Int) : Builtin.max2 (.int k x) (.int k' y) = pure (.int k (mxO x y)) := max2_int k k' x y
theorem mnO_int (k k' : IntKind) (x y : Int) : Builtin.min2 (.int k x) (.int k' y) = pure (.int k (mnO x y)) := min2_int k k' x y
theorem mxO_eq (x y : Int) : mxO x y = max x y := by unfold mxO; split <;> omega
theorem mnO_eq (x y : Int) : mnO x y = min x y := by unfold mnO; split <;> omega
theorem g43 {w : World} {A : Option Addr} {n : Nat} {xs : List Rn} (hn : n = xs.length) (h : Kd.C k29 w A n xs) (q : Nat) (hq : q < xs.length) : ∃ ad, A = some ad ∧ w.cell? (ad.add (q * 2)) = some (.int .u64 xs[q].f0) ∧ w.cell? ⟨(ad.add (q * 2)).block, (ad.add (q * 2)).off + 1, none⟩ = some (.int .i64 xs[q].f1) := by
  subst hn
  obtain ⟨ad, eA, hx0, hx1⟩ := at_T29 h (q : Int) (by omega) (by omega)
  rw [rd43 xs q hq, Int.toNat_natCast] at hx0 hx1
  exact ⟨ad, eA, hx0, hx1⟩
attribute [local go_sem] mxO_int mnO_int max_two min_two
abbrev addF (b : Nat) : Value := .func (.func 59) #[] #[.pointer (some ⟨b, 0, none⟩)]
/-- What is asked of what lies there already. -/
structure Bd (m : Int) (n : Nat) (xs : List Rn) : Prop where
  len : xs.length ≤ n
  val : ∀ x, x ∈ xs → 0 ≤ x.f1 ∧ x.f1 ≤ m
theorem ty_ne {w : World} {a b : Nat} {ca cb : Array Value} {ta tb : TypeId} (ha : w.heap[a]? = some (.cells ca ta (0, 0))) (hb : w.heap[b]? = some (.cells cb tb (0, 0))) (h : ta ≠ tb) : a ≠ b := fun e => by
  subst e
  rw [ha] at hb
  injection hb with hb
  injection hb with _ hb
  exact h hb
/-- Blocks of any other type stay. -/
structure KT (w w' : World) : Prop where
  k : ∀ (i : Nat) (cs : Array Value) (t : TypeId), w.heap[i]? = some (.cells cs t (0, 0)) → t ≠ 29 → t ≠ 22 → w'.heap[i]? = some (.cells cs t (0, 0))
theorem KT.of {w w' : World} (h : Below w.heap.size w w') : KT w w' := ⟨fun i cs t hi _ _ => (h.block i (Array.getElem?_eq_some_iff.1 hi).1).trans hi⟩
theorem KT.trans {a w w' : World} (h : KT a w) (k : KT w w') : KT a w' := ⟨fun i cs t hi h1 h2 => k.k i cs t (h.k i cs t hi h1 h2) h1 h2⟩
theorem KT.keep {w0 w w' : World} {base b : Nat} {xs : List Rn} (hg : Gs w0 w base b xs) (hk : Keep w w' b) : KT w w' := by
  obtain ⟨v, e, hr⟩ := hg.out
  have k := hk v e
  exact ⟨fun i cs t hi h1 h2 => (k.k i (Array.getElem?_eq_some_iff.1 hi).1 (ty_ne hi e h2) (fun e2 => by
    obtain ⟨c2, x2⟩ := tyR hr i e2.symm
    exact ty_ne hi x2 h1 rfl)).trans hi⟩
set_option maxRecDepth 100000 in
set_option maxHeartbeats 8000000 in
theorem some_w (w0 w : World) (A : Option Addr) (c : Nat) (l : List Rn) (f t : Int) (b : Nat) (xs : List Rn) (m : Int) (n : Nat) (hr : Kd.C k29 w0 A l.length l) (h : Gs w0 w w0.heap.size b xs)
    (hv : ∀ r, r ∈ l → 0 ≤ r.f1 ∧ r.f1 ≤ 5000) (hll : l.length ≤ 5000) (hb : Bd m n xs) (hm : 0 ≤ m ∧ m ≤ 100000000) (hn : n ≤ 50000) (hf : 0 ≤ f ∧ f ≤ 100000) (ht : 0 ≤ t ∧ t ≤ 100000) :
    Calls Try.prog 56 #[.slice A l.length c, .int .i64 f, .int .i64 t, addF b] w fun e w' => e = .returned (.tuple #[]) ∧ Gs w0 w' w0.heap.size b (someR f t 0 l xs) ∧ Bd (m + 5000 * l.length) (n + l.length) (someR f t 0 l xs) ∧ KT w w' := by
  have HR := Aside0.mk hr
  have HS := Aside0.mk h
  have HV := Aside0.mk hv
  have HBD := Aside0.mk hb
  obtain ⟨hf0, hf1⟩ := hf
  obtain ⟨ht0, ht1⟩ := ht
  obtain ⟨hm0, hm1⟩ := hm
  clear hr h hv hb
  go_enter Try.func56, Try.ntmps56
  go_wp2
  go_loopw [8, 14] (fun aa ii wr => ∃ (wr1 : World) (q : Nat) (at_ : Int) (ys : List Rn), wr1 = wr ∧ aa = .int .i64 at_ ∧ ii = .int .i64 q ∧ q ≤ l.length ∧ 0 ≤ at_ ∧ at_ ≤ 5000 * q ∧ Aside0 (someR f t at_ (l.drop q) ys = someR f t 0 l xs) ∧ Aside0 (Gs w0 wr1 w0.heap.size b ys) ∧ Aside0 (Bd (m + 5000 * q) (n + q) ys) ∧ Aside0 (KT w wr1)) (fun _ ii _ => l.length - (intOf ii).toNat)
  case atStart => exact ⟨_, 0, 0, xs, rfl, rfl, rfl, Nat.zero_le _, Int.le_refl _, by omega, ⟨by rw [List.drop_zero]⟩, HS, ⟨by have := HBD.out; simpa using this⟩, ⟨KT.of (Below.refl _ _)⟩⟩
  case round =>
    obtain ⟨wr1, q, at_, ys, rfl, rfl, rfl, hq, ha0, ha1, HE, HG, HB, HKT⟩ := hrel
    by_cases hql : q < l.length
    · obtain ⟨ad, eA, hz0, hz1⟩ := g43 rfl (Kd.C_below HR.out HG.out.hb) q hql
      cases eA
      have hvv := HV.out _ (List.getElem_mem hql)
      have he := HE.out
      rw [List.drop_eq_getElem_cons hql] at he
      generalize l[q] = x at hz0 hz1 hvv he
      obtain ⟨x0, x1⟩ := x
      simp only [someR] at hz0 hz1 hvv he
      have hmn : 0 ≤ mnO (at_ + x1) t ∧ mnO (at_ + x1) t ≤ at_ + x1 := by rw [mnO_eq]; omega
      have hmx : at_ ≤ mxO at_ f ∧ mxO at_ f ≤ 100000000 := by rw [mxO_eq]; omega
      rw [← mnO_eq, ← mxO_eq] at he
      obtain ⟨hmn0, hmn1⟩ := hmn
      obtain ⟨hmx0, hmx1⟩ := hmx
      obtain ⟨d, hd⟩ : ∃ d, d = mnO (at_ + x1) t - mxO at_ f := ⟨_, rfl⟩
      have hdb : d ≤ 5000 := by rw [hd]; omega
      rw [← hd] at he
      have HDD := Aside0.mk hd
      have HE2 := Aside0.mk he
      clear hd
      have HAD := Aside0.mk (fun (w1 : World) (hb : Below wr1.heap.size wr1 w1) => add_w w0 w1 w0.heap.size b ys x0 d (HG.out.below hb) (by have := HB.out.len; omega) (fun y hy => by have := HB.out.val y hy; omega) (by omega))
      have HB2 : Aside0 (Bd (m + 5000 * ((q + 1 : Nat) : Int)) (n + (q + 1)) (addR ys ⟨x0, d⟩)) := ⟨⟨by have := addR_len ys ⟨x0, d⟩; have := HB.out.len; omega, fun y hy => by have := addR_bound HB.out.val (by omega) (by omega : (0 : Int) ≤ 5000) (r := ⟨x0, d⟩) (by simp only; omega) y hy; omega⟩⟩
      obtain ⟨hv0, hv1⟩ := hvv
      rw [HDD.out] at HAD HB2 HE2
      clear HE he
      go_wp2_with (first | (go_at_call 59; (with_reducible refine (HAD.out _ ?sb).mono ?_); (case sb => exact below_alloc (Below.refl _ _) _); rintro e w2 ⟨rfl, hg2, hk2⟩; have HG2 := Aside0.mk hg2; have HK2 := Aside0.mk ((HKT.out.trans (KT.of (below_alloc (Below.refl _ _) _))).trans (KT.keep (HG.out.below (below_alloc (Below.refl _ _) _)) hk2)); clear hg2 hk2))
      exact ⟨⟨_, q + 1, at_ + x1, _, rfl, rfl, by go_num, by omega, by omega, by omega, HE2, HG2, HB2, HK2⟩, by simp [intOf]; omega⟩
    · have hqg : l.length ≤ q := by omega
      have hfin : ys = someR f t 0 l xs := by
        have h := HE.out
        rw [List.drop_of_length_le hqg] at h
        exact h
      have hqe : q = l.length := by omega
      have HFIN := Aside0.mk hfin
      have HQE := Aside0.mk hqe
      clear hfin hqe
      go_wp2
      go_end0
      exact ⟨rfl, by rw [← HFIN.out]; exact HG.out, by rw [← HFIN.out, ← HQE.out]; exact HB.out, HKT.out⟩

end Go.Proofs.Ytgaggoglbkcomaa.Ext
