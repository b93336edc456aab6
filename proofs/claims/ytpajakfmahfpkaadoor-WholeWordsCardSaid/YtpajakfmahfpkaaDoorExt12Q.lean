/- The walker of 'move' over the numbers of signs and lines: plain laws. -/
import Derived.Test.YtpajakfmahfpkaaDoorExt12Z
import Derived.WalkKit
import Derived.WalkMore
import Derived.Below
import Derived.KernelRfl
import Derived.LoopTactic
import Derived.Deep.RegionWith
import Derived.Deep.RegionHeld3
import Derived.IntWalk
import Derived.Deep.DeepCutAuto
import Derived.Deep.CutBlock
import Derived.BigQuiet
import Derived.Laws.RangeString
import Derived.Laws.RangeAny
import Derived.Laws.Rows
import Derived.Laws.Runes
import Derived.Lib.OthersKept
import Derived.OpenShut
set_option linter.unusedVariables false
set_option linter.unusedSimpArgs false
namespace Go.Proofs.YtpajakfmahfpkaaDoor.Ext
open Go.RowKit Go.Lib Go.Proofs.YtpajakfmahfpkaaDoorW.PrintWords Go.Proofs.YtpajakfmahfpkaaDoorW.PrintMore

theorem st_lt {s : ByteArray} {n a b : Nat} (h : Signs s n) (hab : a < b) (hb : b ≤ n) : st s a < st s b := by
  have h1 := h.step (t := a) (by omega)
  have h2 := st_mono s (show a + 1 ≤ b by omega)
  omega
theorem st_inj {s : ByteArray} {n a b : Nat} (h : Signs s n) (ha : a ≤ n) (hb : b ≤ n) (e : st s a = st s b) : a = b := by
  by_cases c : a < b
  · have := st_lt h c hb; omega
  · by_cases c2 : b < a
    · have := st_lt h c2 ha; omega
    · omega
theorem st_le_iff {s : ByteArray} {n a b : Nat} (h : Signs s n) (ha : a ≤ n) (hb : b ≤ n) : st s a ≤ st s b ↔ a ≤ b :=
  ⟨fun e => by
    by_cases c : b < a
    · have := st_lt h c ha; omega
    · omega, fun e => st_mono s e⟩
theorem st_lt_iff {s : ByteArray} {n a b : Nat} (h : Signs s n) (ha : a ≤ n) (hb : b ≤ n) : st s a < st s b ↔ a < b :=
  ⟨fun e => by
    by_cases c : b ≤ a
    · have := st_mono s c; omega
    · omega, fun e => st_lt h e hb⟩
theorem at_st {s : ByteArray} {n j : Nat} (h : Signs s n) (hj : j ≤ n) : At s n ((st s j : Nat) : Int) j := by
  by_cases c : j < n
  · exact At.of h c (Int.le_refl _) (Int.ofNat_lt.2 (h.step c))
  · obtain rfl : j = n := by omega
    refine ⟨Nat.le_refl _, fun h0 => by omega, fun _ h1 => ?_, fun _ => rfl⟩
    rw [h.last] at h1
    omega
theorem alignZ_st {s : ByteArray} {n j : Nat} (h : Signs s n) (hj : j ≤ n) : alignZ s ((st s j : Nat) : Int) = st s j := alignZ_eq h (at_st h hj)
theorem nextZ_st {s : ByteArray} {n j : Nat} (h : Signs s n) (hj : j < n) : nextZ s ((st s j : Nat) : Int) = ((st s (j + 1) : Nat) : Int) := by
  unfold nextZ widZ
  have h1 := h.lt j hj
  rw [alignZ_st h (by omega), if_neg (by omega)]
  simp only [st]
  omega
theorem nextZ_end {s : ByteArray} {n : Nat} (h : Signs s n) : nextZ s ((st s n : Nat) : Int) = ((st s n : Nat) : Int) := by
  unfold nextZ widZ
  rw [alignZ_st h (Nat.le_refl _), if_pos h.last]
  omega
theorem prevZ_st {s : ByteArray} {n j : Nat} (h : Signs s n) (hj : j + 1 ≤ n) : prevZ s ((st s (j + 1) : Nat) : Int) = ((st s j : Nat) : Int) := by
  unfold prevZ
  have h1 := h.step (t := j) (by omega)
  rw [alignZ_st h hj, alignZ_eq h (At.of h (m := j) (by omega) (by omega) (by omega))]
theorem prevZ_0 {s : ByteArray} {n : Nat} (h : Signs s n) : prevZ s ((st s 0 : Nat) : Int) = 0 := by
  unfold prevZ
  have hA : At s n (((st s 0 : Nat) : Int) - 1) 0 := ⟨Nat.zero_le _, fun _ => rfl, fun h0 => by simp [st] at h0, fun h0 => by simp [st] at h0; omega⟩
  rw [alignZ_st h (Nat.zero_le _), alignZ_eq h hA]
  rfl
theorem runeZ_st {s : ByteArray} {n j : Nat} (h : Signs s n) (hj : j < n) : runeZ s ((st s j : Nat) : Int) = (((Utf8.decode s (st s j)).1 : Nat) : Int) := by
  unfold runeZ
  have h1 := h.lt j hj
  rw [alignZ_st h (by omega), if_neg (by omega)]
/-- Numbers of signs from one on that are right. -/
def dnI (s : ByteArray) (p : Int → Bool) (i d : Nat) : List Nat := (List.range' i d).filter (fun t => p ((st s t : Nat) : Int))
def resI (s : ByteArray) (l : List Nat) (N : Nat) (other : Int) : Int × Bool := match l[N - 1]? with | some t => (((st s t : Nat) : Int), true) | none => (other, false)
theorem resI_cases (s : ByteArray) (l : List Nat) (N : Nat) (other : Int) : (∃ t, l[N - 1]? = some t ∧ resI s l N other = (((st s t : Nat) : Int), true)) ∨ (l[N - 1]? = none ∧ resI s l N other = (other, false)) := by
  unfold resI
  cases h : l[N - 1]? with
  | none => exact .inr ⟨rfl, rfl⟩
  | some t => exact .inl ⟨t, rfl, rfl⟩
theorem resI_some {s : ByteArray} {l : List Nat} {N t : Nat} {other : Int} (h : l[N - 1]? = some t) : resI s l N other = (((st s t : Nat) : Int), true) := by unfold resI; rw [h]
theorem resI_none {s : ByteArray} {l : List Nat} {N : Nat} {other : Int} (h : l[N - 1]? = none) : resI s l N other = (other, false) := by unfold resI; rw [h]
theorem resI_cons_hit (s : ByteArray) (t : Nat) (l : List Nat) (other : Int) : resI s (t :: l) 1 other = (((st s t : Nat) : Int), true) := rfl
theorem resI_cons_more (s : ByteArray) (t : Nat) (l : List Nat) (N : Nat) (other : Int) (h : 2 ≤ N) : resI s (t :: l) N other = resI s l (N - 1) other := by
  obtain ⟨m, rfl⟩ : ∃ m, N = m + 2 := ⟨N - 2, by omega⟩
  rfl
theorem dnI_hit {s : ByteArray} {p : Int → Bool} {i : Nat} (d : Nat) (h : p ((st s i : Nat) : Int) = true) : dnI s p i (d + 1) = i :: dnI s p (i + 1) d := by
  unfold dnI
  rw [List.range'_succ, List.filter_cons_of_pos (p := fun t => p ((st s t : Nat) : Int)) h]
theorem dnI_miss {s : ByteArray} {p : Int → Bool} {i : Nat} (d : Nat) (h : ¬ p ((st s i : Nat) : Int) = true) : dnI s p i (d + 1) = dnI s p (i + 1) d := by
  unfold dnI
  rw [List.range'_succ, List.filter_cons_of_neg (p := fun t => p ((st s t : Nat) : Int)) h]
theorem dnL_idx {s : ByteArray} {n : Nat} (h : Signs s n) (p : Int → Bool) (j0 jb : Nat) (hb : jb ≤ n) (other : Int) : ∀ (d i f N : Nat), d = jb - i → j0 < i → i ≤ n → d < f → 1 ≤ N →
    dnL s p ((st s j0 : Nat) : Int) ((st s jb : Nat) : Int) other f (N : Int) ((st s i : Nat) : Int) = resI s (dnI s p i d) N other := by
  intro d
  induction d with
  | zero =>
    intro i f N hd hi hin hf hN
    have hm := st_mono s (show jb ≤ i by omega)
    obtain ⟨f, rfl⟩ : ∃ g, f = g + 1 := ⟨f - 1, by omega⟩
    unfold dnL
    rw [if_neg (c := ((st s i : Nat) : Int) < ((st s jb : Nat) : Int)) (by omega), ite_self]
    rfl
  | succ d ih =>
    intro i f N hd hi hin hf hN
    have hm := st_lt h hi hin
    have hm2 := st_lt h (show i < jb by omega) hb
    obtain ⟨f, rfl⟩ : ∃ g, f = g + 1 := ⟨f - 1, by omega⟩
    unfold dnL
    rw [if_pos (by omega), if_pos (by omega), nextZ_st h (by omega)]
    by_cases c : p ((st s i : Nat) : Int) = true
    · rw [if_pos c, dnI_hit d c]
      by_cases c1 : N = 1
      · subst c1
        rw [if_pos (by omega), resI_cons_hit]
      · rw [if_neg (by omega), resI_cons_more _ _ _ _ _ (by omega), show (N : Int) - 1 = ((N - 1 : Nat) : Int) by omega]
        exact ih (i + 1) f (N - 1) (by omega) (by omega) (by omega) (by omega) (by omega)
    · rw [if_neg c, dnI_miss d c, if_neg (by omega)]
      exact ih (i + 1) f N (by omega) (by omega) (by omega) (by omega) (by omega)
/-- down, from the sign j on. -/
theorem dn_idx {s : ByteArray} {n j jb : Nat} (h : Signs s n) (hj : j ≤ n) (hb : jb ≤ n) (p : Int → Bool) (other : Int) (N : Nat) (hN : 1 ≤ N) :
    dnL s p ((st s j : Nat) : Int) ((st s jb : Nat) : Int) other (s.size + 1) (N : Int) (nextZ s ((st s j : Nat) : Int)) = resI s (dnI s p (j + 1) (jb - (j + 1))) N other := by
  have hle := h.le
  by_cases c : j < n
  · rw [nextZ_st h c]
    exact dnL_idx h p j jb hb other _ _ _ _ rfl (by omega) (by omega) (by omega) hN
  · obtain rfl : j = n := by omega
    rw [nextZ_end h, show jb - (j + 1) = 0 by omega]
    unfold dnL
    rw [if_neg (by omega)]
    rfl
def upI (s : ByteArray) (p : Int → Bool) (i d : Nat) : List Nat := (dnI s p i d).reverse
theorem upI_hit {s : ByteArray} {p : Int → Bool} {i d : Nat} (h : p ((st s (i + d) : Nat) : Int) = true) : upI s p i (d + 1) = (i + d) :: upI s p i d := by
  unfold upI dnI
  rw [List.range'_1_concat, List.filter_append, List.reverse_append, List.filter_cons_of_pos (p := fun t => p ((st s t : Nat) : Int)) h]
  rfl
theorem upI_miss {s : ByteArray} {p : Int → Bool} {i d : Nat} (h : ¬ p ((st s (i + d) : Nat) : Int) = true) : upI s p i (d + 1) = upI s p i d := by
  unfold upI dnI
  rw [List.range'_1_concat, List.filter_append, List.reverse_append, List.filter_cons_of_neg (p := fun t => p ((st s t : Nat) : Int)) h]
  rfl
/-- up, from the sign j on. -/
theorem up_idx0 {s : ByteArray} {n jb : Nat} (h : Signs s n) (hb : jb ≤ n) (p : Int → Bool) (other : Int) : ∀ (d j f N : Nat), d = j - jb → j ≤ n → d < f → 1 ≤ N →
    upL s p ((st s jb : Nat) : Int) other f (N : Int) ((st s j : Nat) : Int) = resI s (upI s p jb d) N other := by
  intro d
  induction d with
  | zero =>
    intro j f N hd hj hf hN
    have hm := st_mono s (show j ≤ jb by omega)
    obtain ⟨f, rfl⟩ : ∃ g, f = g + 1 := ⟨f - 1, by omega⟩
    unfold upL
    rw [if_neg (by omega)]
    rfl
  | succ d ih =>
    intro j f N hd hj hf hN
    obtain rfl : j = jb + d + 1 := by omega
    have hm := st_lt h (show jb < jb + d + 1 by omega) hj
    obtain ⟨f, rfl⟩ : ∃ g, f = g + 1 := ⟨f - 1, by omega⟩
    unfold upL
    rw [if_pos (by omega), prevZ_st h hj]
    by_cases c : p ((st s (jb + d) : Nat) : Int) = true
    · rw [if_pos c, upI_hit c]
      by_cases c1 : N = 1
      · subst c1
        rw [if_pos (by omega), resI_cons_hit]
      · rw [if_neg (by omega), resI_cons_more _ _ _ _ _ (by omega), show (N : Int) - 1 = ((N - 1 : Nat) : Int) by omega]
        exact ih (jb + d) f (N - 1) (by omega) (by omega) (by omega) (by omega)
    · rw [if_neg c, upI_miss c, if_neg (by omega)]
      exact ih (jb + d) f N (by omega) (by omega) (by omega) (by omega)
theorem up_idx {s : ByteArray} {n j jb : Nat} (h : Signs s n) (hj : j ≤ n) (hb : jb ≤ n) (p : Int → Bool) (other : Int) (N : Nat) (hN : 1 ≤ N) :
    upL s p ((st s jb : Nat) : Int) other (s.size + 1) (N : Int) ((st s j : Nat) : Int) = resI s (upI s p jb (j - jb)) N other := by
  have hle := h.le
  exact up_idx0 h hb p other _ _ _ _ rfl hj (by omega) hN
theorem dnI_get {s : ByteArray} {p : Int → Bool} : ∀ {d i m t : Nat}, (dnI s p i d)[m]? = some t → i ≤ t ∧ t < i + d ∧ p ((st s t : Nat) : Int) = true ∧ dnI s p (t + 1) (i + d - (t + 1)) = (dnI s p i d).drop (m + 1) := by
  intro d
  induction d with
  | zero => intro i m t h; simp [dnI] at h
  | succ d ih =>
    intro i m t h
    by_cases c : p ((st s i : Nat) : Int) = true
    · rw [dnI_hit d c] at h ⊢
      cases m with
      | zero =>
        simp only [List.getElem?_cons_zero, Option.some.injEq] at h
        subst h
        refine ⟨Nat.le_refl _, by omega, c, ?_⟩
        rw [show i + (d + 1) - (i + 1) = d by omega]
        rfl
      | succ m =>
        rw [List.getElem?_cons_succ] at h
        obtain ⟨h1, h2, h3, h4⟩ := ih h
        refine ⟨by omega, by omega, h3, ?_⟩
        rw [show i + (d + 1) - (t + 1) = i + 1 + d - (t + 1) by omega, h4]
        rfl
    · rw [dnI_miss d c] at h ⊢
      obtain ⟨h1, h2, h3, h4⟩ := ih h
      refine ⟨by omega, by omega, h3, ?_⟩
      rw [show i + (d + 1) - (t + 1) = i + 1 + d - (t + 1) by omega, h4]
theorem upI_get {s : ByteArray} {p : Int → Bool} {i : Nat} : ∀ {d m t : Nat}, (upI s p i d)[m]? = some t → i ≤ t ∧ t < i + d ∧ p ((st s t : Nat) : Int) = true ∧ upI s p i (t - i) = (upI s p i d).drop (m + 1) := by
  intro d
  induction d with
  | zero => intro m t h; simp [upI, dnI] at h
  | succ d ih =>
    intro m t h
    by_cases c : p ((st s (i + d) : Nat) : Int) = true
    · rw [upI_hit c] at h ⊢
      cases m with
      | zero =>
        simp only [List.getElem?_cons_zero, Option.some.injEq] at h
        subst h
        refine ⟨by omega, by omega, c, ?_⟩
        rw [show i + d - i = d by omega]
        rfl
      | succ m =>
        rw [List.getElem?_cons_succ] at h
        obtain ⟨h1, h2, h3, h4⟩ := ih h
        exact ⟨by omega, by omega, h3, h4⟩
    · rw [upI_miss c] at h ⊢
      obtain ⟨h1, h2, h3, h4⟩ := ih h
      exact ⟨by omega, by omega, h3, h4⟩
/-! ### paragraphs -/
def pI (s : ByteArray) (i d : Nat) : List Nat := (List.range' i d).filter (fun k => empZ s ((bF s k : Nat) : Int))
def resB (s : ByteArray) (l : List Nat) (N : Nat) (other : Int) : Int := match l[N - 1]? with | some t => ((bF s t : Nat) : Int) | none => other
theorem resB_cases (s : ByteArray) (l : List Nat) (N : Nat) (other : Int) : (∃ t, l[N - 1]? = some t ∧ resB s l N other = ((bF s t : Nat) : Int)) ∨ (l[N - 1]? = none ∧ resB s l N other = other) := by
  unfold resB
  cases h : l[N - 1]? with
  | none => exact .inr ⟨rfl, rfl⟩
  | some t => exact .inl ⟨t, rfl, rfl⟩
theorem resB_some {s : ByteArray} {l : List Nat} {N t : Nat} {other : Int} (h : l[N - 1]? = some t) : resB s l N other = ((bF s t : Nat) : Int) := by unfold resB; rw [h]
theorem resB_none {s : ByteArray} {l : List Nat} {N : Nat} {other : Int} (h : l[N - 1]? = none) : resB s l N other = other := by unfold resB; rw [h]
theorem resB_cons_hit (s : ByteArray) (t : Nat) (l : List Nat) (other : Int) : resB s (t :: l) 1 other = ((bF s t : Nat) : Int) := rfl
theorem resB_cons_more (s : ByteArray) (t : Nat) (l : List Nat) (N : Nat) (other : Int) (h : 2 ≤ N) : resB s (t :: l) N other = resB s l (N - 1) other := by
  obtain ⟨m, rfl⟩ : ∃ m, N = m + 2 := ⟨N - 2, by omega⟩
  rfl
theorem pI_hit {s : ByteArray} {i : Nat} (d : Nat) (h : empZ s ((bF s i : Nat) : Int) = true) : pI s i (d + 1) = i :: pI s (i + 1) d := by
  unfold pI
  rw [List.range'_succ, List.filter_cons_of_pos (p := fun k => empZ s ((bF s k : Nat) : Int)) h]
theorem pI_miss {s : ByteArray} {i : Nat} (d : Nat) (h : ¬ empZ s ((bF s i : Nat) : Int) = true) : pI s i (d + 1) = pI s (i + 1) d := by
  unfold pI
  rw [List.range'_succ, List.filter_cons_of_neg (p := fun k => empZ s ((bF s k : Nat) : Int)) h]
theorem pR_hit {s : ByteArray} {d : Nat} (h : empZ s ((bF s d : Nat) : Int) = true) : (pI s 0 (d + 1)).reverse = d :: (pI s 0 d).reverse := by
  unfold pI
  rw [List.range'_1_concat, List.filter_append, List.reverse_append, Nat.zero_add, List.filter_cons_of_pos (p := fun k => empZ s ((bF s k : Nat) : Int)) h]
  rfl
theorem pR_miss {s : ByteArray} {d : Nat} (h : ¬ empZ s ((bF s d : Nat) : Int) = true) : (pI s 0 (d + 1)).reverse = (pI s 0 d).reverse := by
  unfold pI
  rw [List.range'_1_concat, List.filter_append, List.reverse_append, Nat.zero_add, List.filter_cons_of_neg (p := fun k => empZ s ((bF s k : Nat) : Int)) h]
  rfl
theorem boundsZ_in (s : ByteArray) (k : Nat) (h : k < nE s) : boundsZ s (k : Int) = ((bF s k : Int), (bT s k : Int), 0) := by
  unfold boundsZ
  rw [if_pos (by omega), Int.toNat_natCast]
theorem boundsZ_out (s : ByteArray) (k : Int) (h : k < 0 ∨ (nE s : Int) ≤ k) : boundsZ s k = (0, 0, 2) := by
  unfold boundsZ
  rw [if_neg (by omega)]
theorem par_dn (s : ByteArray) : ∀ (d i f N : Nat), d = nE s - i → d < f → 1 ≤ N → parL s 1 f (N : Int) (i : Int) = resB s (pI s i d) N (s.size : Int) := by
  intro d
  induction d with
  | zero =>
    intro i f N hd hf hN
    obtain ⟨f, rfl⟩ : ∃ g, f = g + 1 := ⟨f - 1, by omega⟩
    unfold parL
    rw [boundsZ_out s _ (by omega), if_neg (by decide)]
    rfl
  | succ d ih =>
    intro i f N hd hf hN
    obtain ⟨f, rfl⟩ : ∃ g, f = g + 1 := ⟨f - 1, by omega⟩
    unfold parL
    rw [boundsZ_in s i (by omega)]
    simp only
    rw [if_pos trivial, show (i : Int) + 1 = ((i + 1 : Nat) : Int) by omega]
    by_cases c : empZ s ((bF s i : Nat) : Int) = true
    · rw [if_pos c, pI_hit d c]
      by_cases c1 : N = 1
      · subst c1
        rw [if_pos (by omega), resB_cons_hit]
      · rw [if_neg (by omega), resB_cons_more _ _ _ _ _ (by omega), show (N : Int) - 1 = ((N - 1 : Nat) : Int) by omega]
        exact ih (i + 1) f (N - 1) (by omega) (by omega) (by omega)
    · rw [if_neg c, pI_miss d c, if_neg (by omega)]
      exact ih (i + 1) f N (by omega) (by omega) (by omega)
theorem par_up (s : ByteArray) : ∀ (d f N : Nat), d ≤ nE s → d < f → 1 ≤ N → parL s (-1) f (N : Int) ((d : Int) + -1) = resB s (pI s 0 d).reverse N 0 := by
  intro d
  induction d with
  | zero =>
    intro f N hd hf hN
    obtain ⟨f, rfl⟩ : ∃ g, f = g + 1 := ⟨f - 1, by omega⟩
    unfold parL
    rw [boundsZ_out s _ (by omega), if_neg (by decide)]
    rfl
  | succ d ih =>
    intro f N hd hf hN
    obtain ⟨f, rfl⟩ : ∃ g, f = g + 1 := ⟨f - 1, by omega⟩
    unfold parL
    rw [show ((d + 1 : Nat) : Int) + -1 = (d : Int) by omega, boundsZ_in s d (by omega)]
    simp only
    rw [if_pos trivial]
    by_cases c : empZ s ((bF s d : Nat) : Int) = true
    · rw [if_pos c, pR_hit c]
      by_cases c1 : N = 1
      · subst c1
        rw [if_pos (by omega), resB_cons_hit]
      · rw [if_neg (by omega), resB_cons_more _ _ _ _ _ (by omega), show (N : Int) - 1 = ((N - 1 : Nat) : Int) by omega]
        exact ih f (N - 1) (by omega) (by omega) (by omega)
    · rw [if_neg c, pR_miss c, if_neg (by omega)]
      exact ih f N (by omega) (by omega) (by omega)
theorem pI_get {s : ByteArray} : ∀ {d i m t : Nat}, (pI s i d)[m]? = some t → i ≤ t ∧ t < i + d ∧ empZ s ((bF s t : Nat) : Int) = true ∧ pI s (t + 1) (i + d - (t + 1)) = (pI s i d).drop (m + 1) := by
  intro d
  induction d with
  | zero => intro i m t h; simp [pI] at h
  | succ d ih =>
    intro i m t h
    by_cases c : empZ s ((bF s i : Nat) : Int) = true
    · rw [pI_hit d c] at h ⊢
      cases m with
      | zero =>
        simp only [List.getElem?_cons_zero, Option.some.injEq] at h
        subst h
        refine ⟨Nat.le_refl _, by omega, c, ?_⟩
        rw [show i + (d + 1) - (i + 1) = d by omega]
        rfl
      | succ m =>
        rw [List.getElem?_cons_succ] at h
        obtain ⟨h1, h2, h3, h4⟩ := ih h
        refine ⟨by omega, by omega, h3, ?_⟩
        rw [show i + (d + 1) - (t + 1) = i + 1 + d - (t + 1) by omega, h4]
        rfl
    · rw [pI_miss d c] at h ⊢
      obtain ⟨h1, h2, h3, h4⟩ := ih h
      refine ⟨by omega, by omega, h3, ?_⟩
      rw [show i + (d + 1) - (t + 1) = i + 1 + d - (t + 1) by omega, h4]
theorem pR_get {s : ByteArray} : ∀ {d m t : Nat}, (pI s 0 d).reverse[m]? = some t → t < d ∧ empZ s ((bF s t : Nat) : Int) = true ∧ (pI s 0 t).reverse = (pI s 0 d).reverse.drop (m + 1) := by
  intro d
  induction d with
  | zero => intro m t h; simp [pI] at h
  | succ d ih =>
    intro m t h
    by_cases c : empZ s ((bF s d : Nat) : Int) = true
    · rw [pR_hit c] at h ⊢
      cases m with
      | zero =>
        simp only [List.getElem?_cons_zero, Option.some.injEq] at h
        subst h
        exact ⟨by omega, c, rfl⟩
      | succ m =>
        rw [List.getElem?_cons_succ] at h
        obtain ⟨h1, h2, h3⟩ := ih h
        exact ⟨by omega, h2, h3⟩
    · rw [pR_miss c] at h ⊢
      obtain ⟨h1, h2, h3⟩ := ih h
      exact ⟨by omega, h2, h3⟩
/-! ### lines -/
theorem lines_step (s : ByteArray) (q : Nat) : bF s (q + 1) = bT s q + 1 := by
  unfold bF bT
  rw [if_neg (by omega), Nat.add_sub_cancel]
theorem lines_apart (s : ByteArray) (q : Nat) : ∀ (d : Nat), q + 1 + d < nE s → bT s q < bF s (q + 1 + d)
  | 0, _ => by rw [Nat.add_zero, lines_step]; omega
  | d + 1, h => by
    have ih := lines_apart s q d (by omega)
    have hle := bT_le s (q + 1 + d) (by unfold nE at h; omega)
    rw [← Nat.add_assoc, lines_step]
    omega
theorem of_line (s : ByteArray) (q p : Nat) (hq : q < nE s) (h1 : bF s q ≤ p) (h2 : p ≤ bT s q) : ofZ s (p : Int) = q := by
  have hle := bT_le s q (by unfold nE at hq; exact hq)
  have hin := ofZ_in s p (by omega)
  have hlt := ofZ_lt s (p : Int)
  by_cases c : ofZ s (p : Int) < q
  · have := lines_apart s (ofZ s (p : Int)) (q - ofZ s (p : Int) - 1) (by omega)
    rw [show ofZ s (p : Int) + 1 + (q - ofZ s (p : Int) - 1) = q by omega] at this
    omega
  · by_cases c2 : q < ofZ s (p : Int)
    · have := lines_apart s q (ofZ s (p : Int) - q - 1) (by omega)
      rw [show q + 1 + (ofZ s (p : Int) - q - 1) = ofZ s (p : Int) by omega] at this
      omega
    · omega
/-- A place of a text. -/
structure Pl (s : ByteArray) (x : Int) (n j q a c : Nat) : Prop where
  h : Signs s n
  hj : j ≤ n
  al : ((alignZ s x : Nat) : Int) = ((st s j : Nat) : Int)
  hq : q < nE s
  of : ofZ s ((st s j : Nat) : Int) = q
  ls : LineSigns s n q a c
  haj : a ≤ j
  hjc : j ≤ a + c
theorem Pl.ex (s : ByteArray) (x : Int) : ∃ n j q a c, Pl s x n j q a c := by
  obtain ⟨n, h⟩ := signs_ex s
  obtain ⟨j, ha⟩ := At.ex h x
  have hal := alignZ_eq h ha
  have hj := ha.1
  have hle := h.le_size hj
  obtain ⟨o1, o2⟩ := ofZ_in s (st s j) hle
  have hq := ofZ_lt s ((st s j : Nat) : Int)
  obtain ⟨a, c, ls⟩ := line_signs h _ hq
  refine ⟨n, j, _, a, c, h, hj, by omega, hq, rfl, ls, ?_, ?_⟩
  · have := ls.from_; have := ls.le
    exact (st_le_iff h (by omega) hj).1 (by omega)
  · have := ls.to_; have := ls.le
    exact (st_le_iff h hj (by omega)).1 (by omega)
theorem Pl.move {s : ByteArray} {x : Int} {n j q a c t : Nat} (P : Pl s x n j q a c) (h1 : a ≤ t) (h2 : t ≤ a + c) : Pl s ((st s t : Nat) : Int) n t q a c := by
  have hle := P.ls.le
  refine ⟨P.h, by omega, by rw [alignZ_st P.h (by omega)], P.hq, ?_, P.ls, h1, h2⟩
  have m1 := st_mono s h1
  have m2 := st_mono s h2
  exact of_line s q _ P.hq (by rw [← P.ls.from_]; exact m1) (by rw [← P.ls.to_]; exact m2)
/-- A place where another line begins. -/
theorem Pl.line {s : ByteArray} {n q : Nat} (h : Signs s n) (hq : q < nE s) : ∃ a c, Pl s ((bF s q : Nat) : Int) n a q a c := by
  obtain ⟨a, c, ls⟩ := line_signs h q hq
  have hle := ls.le
  have hb := bT_le s q (by unfold nE at hq; exact hq)
  refine ⟨a, c, h, by omega, by rw [← ls.from_, alignZ_st h (by omega)], hq, ?_, ls, Nat.le_refl _, by omega⟩
  rw [ls.from_]
  exact of_line s q _ hq (Nat.le_refl _) hb.1
theorem Pl.toK_eq {s : ByteArray} {x : Int} {n j q a c : Nat} (P : Pl s x n j q a c) (cnt : Int) : toK s x cnt = { s := s, a := ((st s j : Nat) : Int), n := min (max cnt 1) 999, line := (q : Int), f := ((st s a : Nat) : Int), t := ((st s (a + c) : Nat) : Int) } := by
  unfold toK
  have hal := P.al
  rw [hal, P.of, boundsZ_in s q P.hq, P.ls.from_, P.ls.to_]
theorem place_line (s : ByteArray) (m : Nat) (c : Int) (hm : m < nE s) : bF s m ≤ placeZ s (m : Int) c ∧ placeZ s (m : Int) c ≤ bT s m ∧ ∃ n j, Signs s n ∧ j ≤ n ∧ placeZ s (m : Int) c = Ext.st s j := by
  obtain ⟨n, h⟩ := signs_ex s
  obtain ⟨a, k, hl⟩ := line_signs h m hm
  have hi : intoZ s (m : Int) = m := by
    have := intoZ_in s (n := (m : Int)) (by omega) (by omega)
    rw [this]; omega
  have hle := hl.le
  have hf := hl.from_
  have ht := hl.to_
  unfold placeZ plFrom
  rw [hi, hl.eq]
  by_cases c0 : (max c 0).toNat < k
  · rw [List.getElem?_map, List.getElem?_range c0]
    simp only [Option.map_some]
    have h1 := st_mono s (show a ≤ a + (max c 0).toNat by omega)
    have h2 := st_mono s (show a + (max c 0).toNat ≤ a + k by omega)
    refine ⟨by omega, by omega, n, a + (max c 0).toNat, h, by omega, by omega⟩
  · rw [List.getElem?_eq_none (by simp; omega)]
    simp only
    unfold lastZ
    by_cases e : bF s m = bT s m
    · rw [if_pos e]
      exact ⟨Nat.le_refl _, by omega, n, a, h, by omega, hf.symm⟩
    · rw [if_neg e]
      have hb := bT_le s m (by unfold nE at hm; exact hm)
      have hk : 0 < k := by
        by_cases q : 0 < k
        · exact q
        · exfalso
          rw [show k = 0 by omega, Nat.add_zero] at ht
          omega
      have hst := h.step (t := a + (k - 1)) (by omega)
      have h1 := st_mono s (show a ≤ a + (k - 1) by omega)
      rw [show a + (k - 1) + 1 = a + k by omega] at hst
      have hA := At.of (a := ((bT s m : Nat) : Int) - 1) h (m := a + (k - 1)) (by omega) (by omega) (by rw [show a + (k - 1) + 1 = a + k by omega]; omega)
      rw [alignZ_eq h hA]
      exact ⟨by omega, by omega, n, a + (k - 1), h, by omega, rfl⟩
theorem fst_or (s : ByteArray) (p a d : Nat) : ∀ (c b : Nat), p = st s a → a ≤ b → (∃ t, b ≤ t ∧ t < b + c ∧ fstFrom ((List.range' b c).map (fun t => (st s t - p, Utf8.decode s (st s t)))) p d = st s t) ∨ fstFrom ((List.range' b c).map (fun t => (st s t - p, Utf8.decode s (st s t)))) p d = d
  | 0, b, hp, hb => .inr rfl
  | c + 1, b, hp, hb => by
    rw [List.range'_succ, List.map_cons]
    have hm := st_mono s hb
    by_cases h : (classZ (((Utf8.decode s (st s b)).1 : Nat) : Int) != 0) = true
    · left
      refine ⟨b, Nat.le_refl _, by omega, ?_⟩
      unfold fstFrom
      rw [List.find?_cons_of_pos (p := fun x : Nat × Nat × Nat => classZ (x.2.1 : Int) != 0) h]
      simp only
      omega
    · have e : fstFrom ((st s b - p, Utf8.decode s (st s b)) :: (List.range' (b + 1) c).map (fun t => (st s t - p, Utf8.decode s (st s t)))) p d = fstFrom ((List.range' (b + 1) c).map (fun t => (st s t - p, Utf8.decode s (st s t)))) p d := by
        unfold fstFrom
        rw [List.find?_cons_of_neg (p := fun x : Nat × Nat × Nat => classZ (x.2.1 : Int) != 0) h]
      rw [e]
      rcases fst_or s p a d c (b + 1) hp (by omega) with ⟨t, h1, h2, h3⟩ | h3
      · exact .inl ⟨t, by omega, by omega, h3⟩
      · exact .inr h3
theorem first_line (s : ByteArray) (m : Nat) (hm : m < nE s) : ∃ n j, Signs s n ∧ j ≤ n ∧ firstZ s (m : Int) = st s j := by
  obtain ⟨n, h⟩ := signs_ex s
  obtain ⟨a, k, hl⟩ := line_signs h m hm
  have hi : intoZ s (m : Int) = m := by
    have := intoZ_in s (n := (m : Int)) (by omega) (by omega)
    rw [this]; omega
  have hle := hl.le
  have hf := hl.from_
  have ht := hl.to_
  have he : sub s (bF s m) (bT s m) = (List.range' a k).map (fun t => (st s t - bF s m, Utf8.decode s (st s t))) := by
    rw [hl.eq, List.range'_eq_map_range, List.map_map]
    rfl
  unfold firstZ
  rw [hi, he]
  rcases fst_or s (bF s m) a (lastZ s (bF s m) (bT s m)) k a hf.symm (Nat.le_refl _) with ⟨t, h1, h2, h3⟩ | h3
  · exact ⟨n, t, h, by omega, h3⟩
  · rw [h3]
    unfold lastZ
    by_cases e : bF s m = bT s m
    · rw [if_pos e]
      exact ⟨n, a, h, by omega, hf.symm⟩
    · rw [if_neg e]
      obtain ⟨j, hA⟩ := At.ex h (((bT s m : Nat) : Int) - 1)
      exact ⟨n, j, h, hA.1, alignZ_eq h hA⟩
/-! ### move.To over the numbers -/
def exc (a z : Int) : Int × Int × Bool := if (z != a) = true then (z, 0, true) else (0, 0, false)
theorem toK_n {cnt : Int} {N : Nat} (hN : min (max cnt 1) 999 = (N : Int)) (s : ByteArray) (x : Int) : (toK s x cnt).n = (N : Int) := hN
theorem Pl.dn {s : ByteArray} {x : Int} {n j q a c : Nat} (P : Pl s x n j q a c) {cnt : Int} {N : Nat} (hN : min (max cnt 1) 999 = (N : Int)) (rf : Rf) (jb : Nat) (hb : jb ≤ n) (other : Int) :
    dnZ (toK s x cnt) rf ((st s jb : Nat) : Int) other = resI s (dnI s (rfZ s rf) (j + 1) (jb - (j + 1))) N other := by
  rw [P.toK_eq]
  unfold dnZ
  show dnL s (rfZ s rf) ((st s j : Nat) : Int) ((st s jb : Nat) : Int) other (s.size + 1) (min (max cnt 1) 999) (nextZ s ((st s j : Nat) : Int)) = _
  rw [hN]
  exact dn_idx P.h P.hj hb _ _ _ (by omega)
theorem Pl.up {s : ByteArray} {x : Int} {n j q a c : Nat} (P : Pl s x n j q a c) {cnt : Int} {N : Nat} (hN : min (max cnt 1) 999 = (N : Int)) (rf : Rf) (jb : Nat) (hb : jb ≤ n) (other : Int) :
    upZ (toK s x cnt) rf ((st s jb : Nat) : Int) other = resI s (upI s (rfZ s rf) jb (j - jb)) N other := by
  rw [P.toK_eq]
  unfold upZ
  show upL s (rfZ s rf) ((st s jb : Nat) : Int) other (s.size + 1) (min (max cnt 1) 999) ((st s j : Nat) : Int) = _
  rw [hN]
  exact up_idx P.h P.hj hb _ _ _ (by omega)
theorem Pl.par1 {s : ByteArray} {x : Int} {n j q a c : Nat} (P : Pl s x n j q a c) {cnt : Int} {N : Nat} (hN : min (max cnt 1) 999 = (N : Int)) :
    parZ (toK s x cnt) 1 = resB s (pI s (q + 1) (nE s - (q + 1))) N (s.size : Int) := by
  rw [P.toK_eq]
  unfold parZ
  show parL s 1 (nE s + 2) (min (max cnt 1) 999) ((q : Int) + 1) = _
  rw [hN, show (q : Int) + 1 = ((q + 1 : Nat) : Int) by omega]
  exact par_dn s _ _ _ _ rfl (by omega) (by omega)
theorem Pl.par2 {s : ByteArray} {x : Int} {n j q a c : Nat} (P : Pl s x n j q a c) {cnt : Int} {N : Nat} (hN : min (max cnt 1) 999 = (N : Int)) :
    parZ (toK s x cnt) (-1) = resB s (pI s 0 q).reverse N 0 := by
  rw [P.toK_eq]
  unfold parZ
  show parL s (-1) (nE s + 2) (min (max cnt 1) 999) ((q : Int) + -1) = _
  rw [hN]
  have := P.hq
  exact par_up s _ _ _ (by omega) (by omega) (by omega)
theorem Pl.a {s : ByteArray} {x : Int} {n j q a c : Nat} (P : Pl s x n j q a c) (cnt : Int) : (toK s x cnt).a = ((st s j : Nat) : Int) := by rw [P.toK_eq]
theorem Pl.f {s : ByteArray} {x : Int} {n j q a c : Nat} (P : Pl s x n j q a c) (cnt : Int) : (toK s x cnt).f = ((st s a : Nat) : Int) := by rw [P.toK_eq]
theorem Pl.t {s : ByteArray} {x : Int} {n j q a c : Nat} (P : Pl s x n j q a c) (cnt : Int) : (toK s x cnt).t = ((st s (a + c) : Nat) : Int) := by rw [P.toK_eq]
theorem Pl.l {s : ByteArray} {x : Int} {n j q a c : Nat} (P : Pl s x n j q a c) (cnt : Int) : (toK s x cnt).line = (q : Int) := by rw [P.toK_eq]
theorem toZ_exc (s : ByteArray) (x key arg cnt : Int) (h1 : ¬ (key = 106 ∨ key = 107 ∨ key = 71 ∨ key = 103)) (h2 : ¬ key = 101) (h3 : ¬ (key = 102 ∨ key = 116)) (z : Int) (hto : withinTo (toK s x cnt) key arg = (z, true)) :
    toZ s x key arg cnt = exc (toK s x cnt).a z := by
  unfold toZ withinZ exc
  rw [if_neg h1, if_neg h2, if_neg h3, hto]
  simp only [Bool.true_and]
theorem toZ_no (s : ByteArray) (x key arg cnt : Int) (h1 : ¬ (key = 106 ∨ key = 107 ∨ key = 71 ∨ key = 103)) (h2 : ¬ key = 101) (h3 : ¬ (key = 102 ∨ key = 116)) (z : Int) (hto : withinTo (toK s x cnt) key arg = (z, false)) :
    toZ s x key arg cnt = (0, 0, false) := by
  unfold toZ withinZ
  rw [if_neg h1, if_neg h2, if_neg h3, hto]
  rfl
theorem size_st {s : ByteArray} {n : Nat} (h : Signs s n) : (s.size : Int) = ((st s n : Nat) : Int) := by rw [h.last]
theorem zero_st (s : ByteArray) : (0 : Int) = ((st s 0 : Nat) : Int) := rfl
theorem toZ_h {s : ByteArray} {x : Int} {n j q a c : Nat} (P : Pl s x n j q a c) {cnt : Int} {N : Nat} (hN : min (max cnt 1) 999 = (N : Int)) (arg : Int) :
    toZ s x 104 arg cnt = exc ((st s j : Nat) : Int) (resI s (upI s (rfZ s .any) a (j - a)) N ((st s a : Nat) : Int)).1 := by
  have hle := P.ls.le
  rw [toZ_exc s x 104 arg cnt (by decide) (by decide) (by decide) (upZ (toK s x cnt) .any (toK s x cnt).f (toK s x cnt).f).1 rfl, P.a, P.f, P.up hN _ _ (by omega)]
theorem toZ_l {s : ByteArray} {x : Int} {n j q a c : Nat} (P : Pl s x n j q a c) {cnt : Int} {N : Nat} (hN : min (max cnt 1) 999 = (N : Int)) (arg : Int) :
    toZ s x 108 arg cnt = exc ((st s j : Nat) : Int) (resI s (dnI s (rfZ s .any) (j + 1) (a + c - (j + 1))) N ((st s (a + c) : Nat) : Int)).1 := by
  have hle := P.ls.le
  rw [toZ_exc s x 108 arg cnt (by decide) (by decide) (by decide) (dnZ (toK s x cnt) .any (toK s x cnt).t (toK s x cnt).t).1 rfl, P.a, P.t, P.dn hN _ _ (by omega)]
theorem toZ_w {s : ByteArray} {x : Int} {n j q a c : Nat} (P : Pl s x n j q a c) {cnt : Int} {N : Nat} (hN : min (max cnt 1) 999 = (N : Int)) (arg : Int) :
    toZ s x 119 arg cnt = exc ((st s j : Nat) : Int) (resI s (dnI s (rfZ s .beg) (j + 1) (n - (j + 1))) N ((st s n : Nat) : Int)).1 := by
  rw [toZ_exc s x 119 arg cnt (by decide) (by decide) (by decide) (dnZ (toK s x cnt) .beg (s.size : Int) (s.size : Int)).1 rfl, P.a, size_st P.h, P.dn hN _ _ (Nat.le_refl _)]
theorem toZ_b {s : ByteArray} {x : Int} {n j q a c : Nat} (P : Pl s x n j q a c) {cnt : Int} {N : Nat} (hN : min (max cnt 1) 999 = (N : Int)) (arg : Int) :
    toZ s x 98 arg cnt = exc ((st s j : Nat) : Int) (resI s (upI s (rfZ s .beg) 0 (j - 0)) N ((st s 0 : Nat) : Int)).1 := by
  rw [toZ_exc s x 98 arg cnt (by decide) (by decide) (by decide) (upZ (toK s x cnt) .beg 0 0).1 rfl, P.a, zero_st s, P.up hN _ _ (Nat.zero_le _)]
theorem toZ_p1 {s : ByteArray} {x : Int} {n j q a c : Nat} (P : Pl s x n j q a c) {cnt : Int} {N : Nat} (hN : min (max cnt 1) 999 = (N : Int)) (arg : Int) :
    toZ s x 125 arg cnt = exc ((st s j : Nat) : Int) (resB s (pI s (q + 1) (nE s - (q + 1))) N (s.size : Int)) := by
  rw [toZ_exc s x 125 arg cnt (by decide) (by decide) (by decide) (parZ (toK s x cnt) 1) rfl, P.a, P.par1 hN]
theorem toZ_p2 {s : ByteArray} {x : Int} {n j q a c : Nat} (P : Pl s x n j q a c) {cnt : Int} {N : Nat} (hN : min (max cnt 1) 999 = (N : Int)) (arg : Int) :
    toZ s x 123 arg cnt = exc ((st s j : Nat) : Int) (resB s (pI s 0 q).reverse N 0) := by
  rw [toZ_exc s x 123 arg cnt (by decide) (by decide) (by decide) (parZ (toK s x cnt) (-1)) rfl, P.a, P.par2 hN]
def inc (a z : Int) : Int × Int × Bool := if z > a then (z, 1, true) else (0, 0, false)
theorem toZ_e {s : ByteArray} {x : Int} {n j q a c : Nat} (P : Pl s x n j q a c) {cnt : Int} {N : Nat} (hN : min (max cnt 1) 999 = (N : Int)) (arg : Int) :
    toZ s x 101 arg cnt = inc ((st s j : Nat) : Int) (resI s (dnI s (rfZ s .fin) (j + 1) (n - (j + 1))) N (prevZ s (s.size : Int))).1 := by
  unfold toZ inc
  rw [if_neg (by decide), if_pos rfl, P.al, size_st P.h, P.dn hN _ _ (Nat.le_refl _)]
theorem st_n {s : ByteArray} {n m : Nat} (h : Signs s n) (g : Signs s m) : n = m := by rw [← h.len, ← g.len]
theorem Pl.of_st {s : ByteArray} {n t : Nat} (h : Signs s n) (ht : t ≤ n) : ∃ q a c, Pl s ((st s t : Nat) : Int) n t q a c := by
  obtain ⟨n', j', q2, a2, c2, P2⟩ := Pl.ex s ((st s t : Nat) : Int)
  obtain rfl : n' = n := st_n P2.h h
  have hj' : j' = t := by
    have := P2.al
    rw [alignZ_st h ht] at this
    exact (st_inj h ht P2.hj (by omega)).symm
  subst hj'
  exact ⟨q2, a2, c2, P2⟩

end Go.Proofs.YtpajakfmahfpkaaDoor.Ext
