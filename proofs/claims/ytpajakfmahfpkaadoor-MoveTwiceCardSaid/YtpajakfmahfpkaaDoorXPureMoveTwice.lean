/- Two motions of one kind, one behind the other, lead where one leads that goes as far as both: for every text, place, kind and counts. -/
import Derived.Test.YtpajakfmahfpkaaDoorXMoveTwicex1
import Derived.Test.YtpajakfmahfpkaaDoorExt12Q
import Derived.OpenShut
set_option linter.unusedVariables false
set_option linter.unusedSimpArgs false
namespace Go.Proofs.YtpajakfmahfpkaaDoor.Pure
open Go.RowKit Go.Proofs.YtpajakfmahfpkaaDoor.XMoveTwice Go.Proofs.YtpajakfmahfpkaaDoorW.PrintWords Go.Proofs.YtpajakfmahfpkaaDoorW.PrintMore Go.Proofs.YtpajakfmahfpkaaDoor.Ext

theorem alive_eq : bureaulaw12_alive.f = some true := by decide +kernel
theorem drop_get {l : List Nat} {N M : Nat} (hN : 1 ≤ N) (hM : 1 ≤ M) : (l.drop (N - 1 + 1))[M - 1]? = l[N + M - 1]? := by
  rw [List.getElem?_drop]
  congr 1
  omega
theorem get_none {l : List Nat} {N M : Nat} (h : l[N - 1]? = none) : l[N + M - 1]? = none := by
  rw [List.getElem?_eq_none_iff] at h ⊢
  omega
def One (r1 r2 r3 : Int × Int × Bool) : Prop := r1.2.2 = true → r2.2.2 = true → r3.1 = r2.1 ∧ r1.2.1 = r2.2.1 ∧ r2.2.1 = r3.2.1 ∧ r3.2.2 = true
theorem exc_yes {a z : Int} (h : z ≠ a) : exc a z = (z, 0, true) := by unfold exc; rw [if_pos (by simpa using h)]
theorem exc_no (a : Int) : exc a a = (0, 0, false) := by unfold exc; rw [if_neg (by simp)]
theorem One_exc {a1 a2 t1 t2 t3 : Int} (h : t1 ≠ a1 → t2 ≠ a2 → t3 = t2 ∧ t3 ≠ a1) : One (exc a1 t1) (exc a2 t2) (exc a1 t3) := by
  intro h1 h2
  by_cases c1 : t1 = a1
  · subst c1; rw [exc_no] at h1; cases h1
  by_cases c2 : t2 = a2
  · subst c2; rw [exc_no] at h2; cases h2
  obtain ⟨e, h3⟩ := h c1 c2
  rw [exc_yes c1, exc_yes c2, exc_yes h3, e]
  exact ⟨rfl, rfl, rfl, rfl⟩
theorem inc_yes {a z : Int} (h : a < z) : inc a z = (z, 1, true) := by unfold inc; rw [if_pos h]
theorem inc_no {a z : Int} (h : ¬ a < z) : inc a z = (0, 0, false) := by unfold inc; rw [if_neg h]
theorem One_inc {a1 a2 t1 t2 t3 : Int} (h : a1 < t1 → a2 < t2 → t3 = t2 ∧ a1 < t3) : One (inc a1 t1) (inc a2 t2) (inc a1 t3) := by
  intro h1 h2
  by_cases c1 : a1 < t1
  · by_cases c2 : a2 < t2
    · obtain ⟨e, h3⟩ := h c1 c2
      rw [inc_yes c1, inc_yes c2, inc_yes h3, e]
      exact ⟨rfl, rfl, rfl, rfl⟩
    · rw [inc_no c2] at h2; cases h2
  · rw [inc_no c1] at h1; cases h1
theorem One_bad {r1 r3 : Int × Int × Bool} (a : Int) : One r1 (exc a a) r3 := by
  intro _ h; rw [exc_no] at h; cases h
theorem cntN {N : Nat} (h1 : 1 ≤ N) (h2 : N ≤ 999) : min (max (N : Int) 1) 999 = (N : Int) := by omega
theorem dn_two {s : ByteArray} {n : Nat} (h : Signs s n) (p : Int → Bool) {j jb t N M : Nat} (hb : jb ≤ n) (hN : 1 ≤ N) (hM : 1 ≤ M) (ht : (dnI s p (j + 1) (jb - (j + 1)))[N - 1]? = some t) (other : Int) :
    j < t ∧ t < jb ∧ resI s (dnI s p (j + 1) (jb - (j + 1))) (N + M) other = resI s (dnI s p (t + 1) (jb - (t + 1))) M other := by
  obtain ⟨h1, h2, h3, h4⟩ := dnI_get ht
  refine ⟨by omega, by omega, ?_⟩
  rw [show jb - (t + 1) = j + 1 + (jb - (j + 1)) - (t + 1) by omega, h4]
  unfold resI
  rw [drop_get hN hM]
theorem resI_fst (s : ByteArray) (l : List Nat) (N : Nat) (other : Int) : (∃ t, l[N - 1]? = some t ∧ (resI s l N other).1 = ((st s t : Nat) : Int)) ∨ (l[N - 1]? = none ∧ (resI s l N other).1 = other) := by
  rcases resI_cases s l N other with ⟨t, h1, h2⟩ | ⟨h1, h2⟩
  · exact .inl ⟨t, h1, by rw [h2]⟩
  · exact .inr ⟨h1, by rw [h2]⟩
theorem resI_nil (s : ByteArray) (p : Int → Bool) (i N : Nat) (other : Int) : (resI s (dnI s p i 0) N other).1 = other := rfl
theorem up_two {s : ByteArray} {p : Int → Bool} {j jb t N M : Nat} (hN : 1 ≤ N) (hM : 1 ≤ M) (ht : (upI s p jb (j - jb))[N - 1]? = some t) (other : Int) :
    jb ≤ t ∧ t < j ∧ resI s (upI s p jb (j - jb)) (N + M) other = resI s (upI s p jb (t - jb)) M other := by
  obtain ⟨h1, h2, h3, h4⟩ := upI_get ht
  refine ⟨by omega, by omega, ?_⟩
  rw [h4]
  unfold resI
  rw [drop_get hN hM]
/-- down, to a bound. -/
theorem down_one {s : ByteArray} {n : Nat} (h : Signs s n) (p : Int → Bool) {j jb N M : Nat} (hj : j ≤ jb) (hb : jb ≤ n) (hN : 1 ≤ N) (hM : 1 ≤ M) :
    ∃ t, j ≤ t ∧ t ≤ jb ∧ (resI s (dnI s p (j + 1) (jb - (j + 1))) N ((st s jb : Nat) : Int)).1 = ((st s t : Nat) : Int) ∧
      One (exc ((st s j : Nat) : Int) ((st s t : Nat) : Int)) (exc ((st s t : Nat) : Int) (resI s (dnI s p (t + 1) (jb - (t + 1))) M ((st s jb : Nat) : Int)).1) (exc ((st s j : Nat) : Int) (resI s (dnI s p (j + 1) (jb - (j + 1))) (N + M) ((st s jb : Nat) : Int)).1) := by
  rcases resI_fst s (dnI s p (j + 1) (jb - (j + 1))) N ((st s jb : Nat) : Int) with ⟨t, h1, h2⟩ | ⟨h1, h2⟩
  · obtain ⟨g1, g2, g3⟩ := dn_two h p hb hN hM h1 ((st s jb : Nat) : Int)
    refine ⟨t, by omega, by omega, h2, One_exc (fun c1 c2 => ⟨by rw [g3], ?_⟩)⟩
    rw [g3]
    have m1 := st_lt h g1 (by omega)
    rcases resI_fst s (dnI s p (t + 1) (jb - (t + 1))) M ((st s jb : Nat) : Int) with ⟨u, k1, k2⟩ | ⟨k1, k2⟩
    · obtain ⟨q1, q2, _⟩ := dnI_get k1
      have m2 := st_lt h (show j < u by omega) (by omega)
      rw [k2]; omega
    · have m2 := st_lt h (show j < jb by omega) hb
      rw [k2]; omega
  · refine ⟨jb, hj, Nat.le_refl _, h2, ?_⟩
    rw [show jb - (jb + 1) = 0 by omega, resI_nil]
    exact One_bad _
/-- up, to a bound. -/
theorem up_one {s : ByteArray} {n : Nat} (h : Signs s n) (p : Int → Bool) {j jb N M : Nat} (hj : jb ≤ j) (hb : j ≤ n) (hN : 1 ≤ N) (hM : 1 ≤ M) :
    ∃ t, jb ≤ t ∧ t ≤ j ∧ (resI s (upI s p jb (j - jb)) N ((st s jb : Nat) : Int)).1 = ((st s t : Nat) : Int) ∧
      One (exc ((st s j : Nat) : Int) ((st s t : Nat) : Int)) (exc ((st s t : Nat) : Int) (resI s (upI s p jb (t - jb)) M ((st s jb : Nat) : Int)).1) (exc ((st s j : Nat) : Int) (resI s (upI s p jb (j - jb)) (N + M) ((st s jb : Nat) : Int)).1) := by
  rcases resI_fst s (upI s p jb (j - jb)) N ((st s jb : Nat) : Int) with ⟨t, h1, h2⟩ | ⟨h1, h2⟩
  · obtain ⟨g1, g2, g3⟩ := up_two hN hM h1 ((st s jb : Nat) : Int)
    refine ⟨t, by omega, by omega, h2, One_exc (fun c1 c2 => ⟨by rw [g3], ?_⟩)⟩
    rw [g3]
    have m1 := st_lt h g2 (by omega)
    rcases resI_fst s (upI s p jb (t - jb)) M ((st s jb : Nat) : Int) with ⟨u, k1, k2⟩ | ⟨k1, k2⟩
    · obtain ⟨q1, q2, _⟩ := upI_get k1
      have m2 := st_lt h (show u < j by omega) hb
      rw [k2]; omega
    · have m2 := st_lt h (show jb < j by omega) hb
      rw [k2]; omega
  · refine ⟨jb, Nat.le_refl _, hj, h2, ?_⟩
    rw [Nat.sub_self]
    exact One_bad _
theorem fin_one {s : ByteArray} {n : Nat} (h : Signs s n) (p : Int → Bool) {j N M : Nat} (hj : j ≤ n) (hN : 1 ≤ N) (hM : 1 ≤ M) :
    (¬ ((st s j : Nat) : Int) < (resI s (dnI s p (j + 1) (n - (j + 1))) N (prevZ s (s.size : Int))).1) ∨ ∃ t, t ≤ n ∧ (resI s (dnI s p (j + 1) (n - (j + 1))) N (prevZ s (s.size : Int))).1 = ((st s t : Nat) : Int) ∧
      One (inc ((st s j : Nat) : Int) ((st s t : Nat) : Int)) (inc ((st s t : Nat) : Int) (resI s (dnI s p (t + 1) (n - (t + 1))) M (prevZ s (s.size : Int))).1) (inc ((st s j : Nat) : Int) (resI s (dnI s p (j + 1) (n - (j + 1))) (N + M) (prevZ s (s.size : Int))).1) := by
  rcases resI_fst s (dnI s p (j + 1) (n - (j + 1))) N (prevZ s (s.size : Int)) with ⟨t, h1, h2⟩ | ⟨h1, h2⟩
  · obtain ⟨g1, g2, g3⟩ := dn_two h p (Nat.le_refl _) hN hM h1 (prevZ s (s.size : Int))
    refine .inr ⟨t, by omega, h2, One_inc (fun c1 c2 => ⟨by rw [g3], ?_⟩)⟩
    rw [g3]
    exact Int.lt_trans c1 c2
  · cases n with
    | zero =>
      left
      rw [h2, size_st h, prevZ_0 h]
      omega
    | succ n =>
      have hp : prevZ s (s.size : Int) = ((st s n : Nat) : Int) := by rw [size_st h]; exact prevZ_st h (Nat.le_refl _)
      refine .inr ⟨n, by omega, by rw [h2, hp], ?_⟩
      rw [show n + 1 - (n + 1) = 0 by omega, resI_nil, hp]
      intro _ h2
      rw [inc_no (by omega)] at h2; cases h2
theorem p1_one {s : ByteArray} {x : Int} {n j q a c : Nat} (P : Pl s x n j q a c) {N M : Nat} (hN : 1 ≤ N) (hM : 1 ≤ M) :
    ∃ t q2 a2 c2, Pl s ((st s t : Nat) : Int) n t q2 a2 c2 ∧ resB s (pI s (q + 1) (nE s - (q + 1))) N (s.size : Int) = ((st s t : Nat) : Int) ∧
      One (exc ((st s j : Nat) : Int) ((st s t : Nat) : Int)) (exc ((st s t : Nat) : Int) (resB s (pI s (q2 + 1) (nE s - (q2 + 1))) M (s.size : Int))) (exc ((st s j : Nat) : Int) (resB s (pI s (q + 1) (nE s - (q + 1))) (N + M) (s.size : Int))) := by
  have hq := P.hq
  have hjT : st s j ≤ bT s q := by rw [← P.ls.to_]; exact st_mono s P.hjc
  have far : ∀ u, q < u → u < nE s → st s j < bF s u := fun u h1 h2 => by
    have := lines_apart s q (u - (q + 1)) (by omega)
    rw [show q + 1 + (u - (q + 1)) = u by omega] at this
    omega
  rcases resB_cases s (pI s (q + 1) (nE s - (q + 1))) N (s.size : Int) with ⟨t, h1, h2⟩ | ⟨h1, h2⟩
  · obtain ⟨g1, g2, g3, g4⟩ := pI_get h1
    obtain ⟨a2, c2, P2⟩ := Pl.line P.h (show t < nE s by omega)
    have e2 : ((bF s t : Nat) : Int) = ((st s a2 : Nat) : Int) := by rw [P2.ls.from_]
    rw [e2] at P2
    refine ⟨a2, t, a2, c2, P2, by rw [h2, e2], ?_⟩
    have g : resB s (pI s (q + 1) (nE s - (q + 1))) (N + M) (s.size : Int) = resB s (pI s (t + 1) (nE s - (t + 1))) M (s.size : Int) := by
      rw [show nE s - (t + 1) = q + 1 + (nE s - (q + 1)) - (t + 1) by omega, g4]
      unfold resB
      rw [drop_get hN hM]
    refine One_exc (fun c1 c2 => ⟨by rw [g], ?_⟩)
    rw [g]
    have f1 := far t (by omega) (by omega)
    rcases resB_cases s (pI s (t + 1) (nE s - (t + 1))) M (s.size : Int) with ⟨u, k1, k2⟩ | ⟨k1, k2⟩
    · obtain ⟨q1, q2, _⟩ := pI_get k1
      have f2 := far u (by omega) (by omega)
      rw [k2]; omega
    · have hle := P.h.le_size P2.hj
      rw [P2.ls.from_] at hle
      rw [k2]; omega
  · obtain ⟨n', j', q2, a2, c2, P2⟩ := Pl.ex s ((st s n : Nat) : Int)
    obtain rfl : n' = n := st_n P2.h P.h
    have hj' : j' = n' := by
      have := P2.al
      rw [alignZ_st P.h (Nat.le_refl _)] at this
      exact (st_inj P.h (Nat.le_refl _) P2.hj (by omega)).symm
    subst hj'
    have hT : bT s q2 = s.size := by
      have h3 := P2.hjc
      have h4 := P2.ls.le
      have h5 := P2.ls.to_
      rw [show a2 + c2 = j' by omega, P2.h.last] at h5
      exact h5.symm
    have hlast := bT_last s q2 P2.hq
    have hq2 : ¬ q2 + 1 < nE s := fun h => by have := hlast.2 h; omega
    refine ⟨j', q2, a2, c2, P2, by rw [h2, P.h.last], ?_⟩
    rw [show nE s - (q2 + 1) = 0 by omega]
    have : resB s (pI s (q2 + 1) 0) M (s.size : Int) = ((st s j' : Nat) : Int) := by rw [P.h.last]; rfl
    rw [this]
    exact One_bad _
theorem p2_one {s : ByteArray} {x : Int} {n j q a c : Nat} (P : Pl s x n j q a c) {N M : Nat} (hN : 1 ≤ N) (hM : 1 ≤ M) :
    ∃ t q2 a2 c2, Pl s ((st s t : Nat) : Int) n t q2 a2 c2 ∧ resB s (pI s 0 q).reverse N 0 = ((st s t : Nat) : Int) ∧
      One (exc ((st s j : Nat) : Int) ((st s t : Nat) : Int)) (exc ((st s t : Nat) : Int) (resB s (pI s 0 q2).reverse M 0)) (exc ((st s j : Nat) : Int) (resB s (pI s 0 q).reverse (N + M) 0)) := by
  have hq := P.hq
  have hjT : bF s q ≤ st s j := by rw [← P.ls.from_]; exact st_mono s P.haj
  have far : ∀ u, u < q → bF s u < st s j := fun u h1 => by
    have h2 := lines_apart s u (q - (u + 1)) (by omega)
    rw [show u + 1 + (q - (u + 1)) = q by omega] at h2
    have h3 := (bT_le s u (by unfold nE at hq; omega)).1
    omega
  rcases resB_cases s (pI s 0 q).reverse N 0 with ⟨t, h1, h2⟩ | ⟨h1, h2⟩
  · obtain ⟨g1, g2, g4⟩ := pR_get h1
    obtain ⟨a2, c2, P2⟩ := Pl.line P.h (show t < nE s by omega)
    have e2 : ((bF s t : Nat) : Int) = ((st s a2 : Nat) : Int) := by rw [P2.ls.from_]
    rw [e2] at P2
    refine ⟨a2, t, a2, c2, P2, by rw [h2, e2], ?_⟩
    have g : resB s (pI s 0 q).reverse (N + M) 0 = resB s (pI s 0 t).reverse M 0 := by
      rw [g4]
      unfold resB
      rw [drop_get hN hM]
    refine One_exc (fun c1 c2 => ⟨by rw [g], ?_⟩)
    rw [g]
    have f1 := far t g1
    rcases resB_cases s (pI s 0 t).reverse M 0 with ⟨u, k1, k2⟩ | ⟨k1, k2⟩
    · obtain ⟨q1, _⟩ := pR_get k1
      have f2 := far u (by omega)
      rw [k2]; omega
    · rw [k2]; omega
  · obtain ⟨n', j', q2, a2, c2, P2⟩ := Pl.ex s ((st s 0 : Nat) : Int)
    obtain rfl : n' = n := st_n P2.h P.h
    have hj' : j' = 0 := by
      have := P2.al
      rw [alignZ_st P.h (Nat.zero_le _)] at this
      exact (st_inj P.h (Nat.zero_le _) P2.hj (by omega)).symm
    subst hj'
    have hT : bF s q2 = 0 := by
      have h3 := P2.haj
      have h5 := P2.ls.from_
      rw [show a2 = 0 by omega] at h5
      exact h5.symm
    have hq2 : q2 = 0 := by
      cases q2 with
      | zero => rfl
      | succ q2 => rw [lines_step] at hT; omega
    subst hq2
    refine ⟨0, 0, a2, c2, P2, by rw [h2]; rfl, ?_⟩
    exact One_bad _
theorem one_key (s : ByteArray) (x k : Int) (hk : k = 104 ∨ k = 108 ∨ k = 119 ∨ k = 98 ∨ k = 101 ∨ k = 123 ∨ k = 125) (N M : Nat) (hN : 1 ≤ N) (hN2 : N ≤ 400) (hM : 1 ≤ M) (hM2 : M ≤ 400) :
    One (toZ s x k 0 (N : Int)) (toZ s (toZ s x k 0 (N : Int)).1 k 0 (M : Int)) (toZ s x k 0 ((N + M : Nat) : Int)) := by
  obtain ⟨n, j, q, a, c, P⟩ := Pl.ex s x
  have h := P.h
  have hle := P.ls.le
  have h1 := cntN hN (by omega)
  have h2 := cntN hM (by omega)
  have h3 := cntN (show 1 ≤ N + M by omega) (by omega)
  by_cases ok : ¬ (toZ s x k 0 (N : Int)).2.2 = true
  · intro g; exact absurd g ok
  replace ok := Classical.not_not.1 ok
  rcases hk with rfl | rfl | rfl | rfl | rfl | rfl | rfl
  · rw [toZ_h P h1] at ok ⊢
    rw [toZ_h P h3]
    obtain ⟨t, t1, t2, t3, t4⟩ := up_one h (rfZ s .any) P.haj P.hj hN hM
    rw [t3] at ok ⊢
    have hne : ((st s t : Nat) : Int) ≠ ((st s j : Nat) : Int) := fun e => by rw [e, exc_no] at ok; cases ok
    have P2 := P.move t1 (by have := P.hjc; omega)
    have hx : (exc ((st s j : Nat) : Int) ((st s t : Nat) : Int)).1 = ((st s t : Nat) : Int) := by rw [exc_yes hne]
    rw [hx, toZ_h P2 h2]
    exact t4
  · rw [toZ_l P h1] at ok ⊢
    rw [toZ_l P h3]
    obtain ⟨t, t1, t2, t3, t4⟩ := down_one h (rfZ s .any) P.hjc hle hN hM
    rw [t3] at ok ⊢
    have hne : ((st s t : Nat) : Int) ≠ ((st s j : Nat) : Int) := fun e => by rw [e, exc_no] at ok; cases ok
    have P2 := P.move (show a ≤ t by have := P.haj; omega) t2
    have hx : (exc ((st s j : Nat) : Int) ((st s t : Nat) : Int)).1 = ((st s t : Nat) : Int) := by rw [exc_yes hne]
    rw [hx, toZ_l P2 h2]
    exact t4
  · rw [toZ_w P h1] at ok ⊢
    rw [toZ_w P h3]
    obtain ⟨t, t1, t2, t3, t4⟩ := down_one h (rfZ s .beg) P.hj (Nat.le_refl _) hN hM
    rw [t3] at ok ⊢
    have hne : ((st s t : Nat) : Int) ≠ ((st s j : Nat) : Int) := fun e => by rw [e, exc_no] at ok; cases ok
    obtain ⟨q2, a2, c2, P2⟩ := Pl.of_st h t2
    have hx : (exc ((st s j : Nat) : Int) ((st s t : Nat) : Int)).1 = ((st s t : Nat) : Int) := by rw [exc_yes hne]
    rw [hx, toZ_w P2 h2]
    exact t4
  · rw [toZ_b P h1] at ok ⊢
    rw [toZ_b P h3]
    obtain ⟨t, t1, t2, t3, t4⟩ := up_one h (rfZ s .beg) (Nat.zero_le j) P.hj hN hM
    rw [t3] at ok ⊢
    have hne : ((st s t : Nat) : Int) ≠ ((st s j : Nat) : Int) := fun e => by rw [e, exc_no] at ok; cases ok
    obtain ⟨q2, a2, c2, P2⟩ := Pl.of_st h (show t ≤ n by have := P.hj; omega)
    have hx : (exc ((st s j : Nat) : Int) ((st s t : Nat) : Int)).1 = ((st s t : Nat) : Int) := by rw [exc_yes hne]
    rw [hx, toZ_b P2 h2]
    exact t4
  · rw [toZ_e P h1] at ok ⊢
    rw [toZ_e P h3]
    rcases fin_one h (rfZ s .fin) P.hj hN hM with hb | ⟨t, t2, t3, t4⟩
    · rw [inc_no hb] at ok; cases ok
    rw [t3] at ok ⊢
    have hlt : ((st s j : Nat) : Int) < ((st s t : Nat) : Int) := by
      by_cases e : ((st s j : Nat) : Int) < ((st s t : Nat) : Int)
      · exact e
      · rw [inc_no e] at ok; cases ok
    obtain ⟨q2, a2, c2, P2⟩ := Pl.of_st h t2
    have hx : (inc ((st s j : Nat) : Int) ((st s t : Nat) : Int)).1 = ((st s t : Nat) : Int) := by rw [inc_yes hlt]
    rw [hx, toZ_e P2 h2]
    exact t4
  · rw [toZ_p2 P h1] at ok ⊢
    rw [toZ_p2 P h3]
    obtain ⟨t, q2, a2, c2, P2, t3, t4⟩ := p2_one P hN hM
    rw [t3] at ok ⊢
    have hne : ((st s t : Nat) : Int) ≠ ((st s j : Nat) : Int) := fun e => by rw [e, exc_no] at ok; cases ok
    have hx : (exc ((st s j : Nat) : Int) ((st s t : Nat) : Int)).1 = ((st s t : Nat) : Int) := by rw [exc_yes hne]
    rw [hx, toZ_p2 P2 h2]
    exact t4
  · rw [toZ_p1 P h1] at ok ⊢
    rw [toZ_p1 P h3]
    obtain ⟨t, q2, a2, c2, P2, t3, t4⟩ := p1_one P hN hM
    rw [t3] at ok ⊢
    have hne : ((st s t : Nat) : Int) ≠ ((st s j : Nat) : Int) := fun e => by rw [e, exc_no] at ok; cases ok
    have hx : (exc ((st s j : Nat) : Int) ((st s t : Nat) : Int)).1 = ((st s t : Nat) : Int) := by rw [exc_yes hne]
    rw [hx, toZ_p1 P2 h2]
    exact t4
theorem key_of (b : Int) (h0 : 0 ≤ b) (h1 : b < 65536) : ∃ k : Int, (k = 104 ∨ k = 108 ∨ k = 119 ∨ k = 98 ∨ k = 101 ∨ k = 123 ∨ k = 125) ∧ rd ([104, 108, 119, 98, 101, 123, 125] : List Int) (Int.tmod (wrap64 b) 7) = k ∧ 0 ≤ Int.tmod (wrap64 b) 7 ∧ Int.tmod (wrap64 b) 7 < 7 := by
  obtain ⟨m, rfl⟩ : ∃ m : Nat, b = (m : Int) := ⟨b.toNat, by omega⟩
  rw [wrapZ _ (by omega) (by omega), show Int.tmod (m : Int) 7 = ((m % 7 : Nat) : Int) from rfl]
  have h7 : m % 7 < 7 := Nat.mod_lt _ (by decide)
  generalize m % 7 = r at h7
  have : r = 0 ∨ r = 1 ∨ r = 2 ∨ r = 3 ∨ r = 4 ∨ r = 5 ∨ r = 6 := by omega
  refine ⟨_, ?_, rfl, by omega, by omega⟩
  rcases this with rfl | rfl | rfl | rfl | rfl | rfl | rfl <;> decide
theorem cnt_of (b : Int) (h0 : 0 ≤ b) (h1 : b < 65536) : ∃ N : Nat, 1 ≤ N ∧ N ≤ 400 ∧ wrap64 ((Int.tmod (wrap64 b) 400) + 1) = (N : Int) := by
  obtain ⟨m, rfl⟩ : ∃ m : Nat, b = (m : Int) := ⟨b.toNat, by omega⟩
  rw [wrapZ (m : Int) (by omega) (by omega), show Int.tmod (m : Int) 400 = ((m % 400 : Nat) : Int) from rfl]
  have h7 : m % 400 < 400 := Nat.mod_lt _ (by decide)
  exact ⟨m % 400 + 1, by omega, by omega, by rw [wrapZ _ (by omega) (by omega)]; omega⟩
theorem wrap_sum (N M : Nat) (h1 : N ≤ 400) (h2 : M ≤ 400) : wrap64 ((N : Int) + (M : Int)) = ((N + M : Nat) : Int) := by rw [wrapZ _ (by omega) (by omega)]; omega
theorem to_get (s : ByteArray) (k a : Int) (C : Nat) (hs : ¬ (s.size : Int) > 1024) (hC : C ≤ 800) : move_To.f s a k 0 (C : Int) = some (toZ s a k 0 (C : Int)) := by
  unfold move_To.f
  rw [if_pos ⟨by omega, by omega, by omega⟩]
theorem MoveTwice : bureaulaw12_MoveTwice.Pure := by
  intro s x b0 b1 b2 _ hx hb0 hb1 hb2
  have r0 : 0 ≤ b0 ∧ b0 < 65536 := by have : 0 ≤ b0 ∧ b0 ≤ 65535 := by simpa [Lit.wf, IntKind.min, IntKind.max, IntKind.signed, IntKind.bits] using hb0
                                      omega
  have r1 : 0 ≤ b1 ∧ b1 < 65536 := by have : 0 ≤ b1 ∧ b1 ≤ 65535 := by simpa [Lit.wf, IntKind.min, IntKind.max, IntKind.signed, IntKind.bits] using hb1
                                      omega
  have r2 : 0 ≤ b2 ∧ b2 < 65536 := by have : 0 ≤ b2 ∧ b2 ≤ 65535 := by simpa [Lit.wf, IntKind.min, IntKind.max, IntKind.signed, IntKind.bits] using hb2
                                      omega
  unfold bureaulaw12_MoveTwice.f
  rw [alive_eq, Option.bind_some, if_pos rfl]
  by_cases hs : (s.size : Int) > 1024
  · rw [if_pos hs]
  rw [if_neg hs, Option.bind_some, if_neg (by decide)]
  obtain ⟨k, hk, e1, e2, e3⟩ := key_of b0 r0.1 r0.2
  obtain ⟨N, n1, n2, e4⟩ := cnt_of b1 r1.1 r1.2
  obtain ⟨M, m1, m2, e5⟩ := cnt_of b2 r2.1 r2.2
  have hT := fun (a : Int) (C : Nat) (hC : C ≤ 800) => to_get s k a C hs hC
  have hNM := wrap_sum N M n2 m2
  have s1 : N ≤ 800 := Nat.le_trans n2 (by decide)
  have s2 : M ≤ 800 := Nat.le_trans m2 (by decide)
  have s3 : N + M ≤ 800 := Nat.add_le_add n2 m2
  rw [show (([104, 108, 119, 98, 101, 123, 125] : List Int).length : Int) = 7 from rfl, if_pos e2, if_pos e3, e1, e4, e5]
  rw [hNM, hT _ _ s1, Option.bind_some, hT _ _ s2, Option.bind_some, hT _ _ s3, Option.bind_some]
  have H := one_key s x k hk N M n1 n2 m1 m2
  unfold One at H
  generalize toZ s x k 0 ((N + M : Nat) : Int) = z3 at H ⊢
  generalize toZ s (toZ s x k 0 (N : Int)).1 k 0 (M : Int) = z2 at H ⊢
  generalize toZ s x k 0 (N : Int) = z1 at H ⊢
  by_cases c1 : z1.2.2 = true
  · by_cases c2 : z2.2.2 = true
    · obtain ⟨g1, g2, g3, g4⟩ := H c1 c2
      rw [if_pos c1, if_pos c2, if_pos g1, if_pos g2, if_pos g3, g4]
    · rw [if_pos c1, if_neg c2]
  · rw [if_neg c1]

end Go.Proofs.YtpajakfmahfpkaaDoor.Pure
