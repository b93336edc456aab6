/- w, again and again from the beginning, goes to each word's beginning, in order, and then to the end; b goes back by just the same: for every text. -/
import Derived.Test.YtpajakfmahfpkaaDoorXWholeWordsx2
import Derived.Test.YtpajakfmahfpkaaDoorExt12S
import Derived.Test.YtpajakfmahfpkaaDoorExt12Q
import Derived.OpenShut
set_option linter.unusedVariables false
set_option linter.unusedSimpArgs false
namespace Go.Proofs.YtpajakfmahfpkaaDoor.Pure
open Go.RowKit Go.Proofs.YtpajakfmahfpkaaDoor.XWholeWords Go.Proofs.YtpajakfmahfpkaaDoorW.PrintWords Go.Proofs.YtpajakfmahfpkaaDoorW.PrintMore Go.Proofs.YtpajakfmahfpkaaDoor.Ext Go.Proofs.YtpajakfmahfpkaaDoor.Ext

theorem class_eq (k : Nat) (r : Int) : glyph_Class.f (k + 4) r = some (classZ r) := by
  unfold classZ glyph_Class.f
  have j3 (k : Nat) (x : Bool) : glyph_Class.j3 (k + 1) r x = some (if x = true then 1 else if 128 ≤ r ∧ r ≤ 1114111 ∧ r ≠ 65533 then 1 else 2) := by
    rw [glyph_Class.j3]
    by_cases hx : x = true
    · rw [if_pos hx, if_pos hx]
    rw [if_neg hx, if_neg hx]
    by_cases h1 : r ≥ 128
    · rw [if_pos h1]
      by_cases h2 : r ≤ 1114111
      · rw [if_pos h2]
        by_cases h3 : r = 65533
        · rw [if_pos h3, if_neg (by omega)]
        · rw [if_neg h3, if_pos ⟨h1, h2, h3⟩]
      · rw [if_neg h2, if_neg (by omega)]
    · rw [if_neg h1, if_neg (by omega)]
  have j2 (k : Nat) (x : Bool) : glyph_Class.j2 (k + 2) r x = some (if x = true ∨ (65 ≤ r ∧ r ≤ 90) ∨ r = 95 then 1 else if 128 ≤ r ∧ r ≤ 1114111 ∧ r ≠ 65533 then 1 else 2) := by
    rw [glyph_Class.j2]
    by_cases hx : x = true
    · rw [if_pos hx, j3, if_pos hx, if_pos (Or.inl hx)]
    rw [if_neg hx]
    by_cases h1 : r ≥ 65
    · rw [if_pos h1]
      by_cases h2 : r ≤ 90
      · rw [if_pos h2, decide_eq_true h2, j3, if_pos rfl, if_pos (Or.inr (Or.inl ⟨h1, h2⟩))]
      · rw [if_neg h2, j3]
        by_cases h3 : r = 95
        · rw [if_pos (by simp [h3]), if_pos (Or.inr (Or.inr h3))]
        · rw [if_neg (by simp [h3]), if_neg (c := x = true ∨ _) (by rintro (h | h | h); exact hx h; omega; omega)]
    · rw [if_neg h1, j3]
      rw [if_neg (by simp; omega), if_neg (c := x = true ∨ _) (by rintro (h | h | h); exact hx h; omega; omega)]
  have j1 (k : Nat) (x : Bool) : glyph_Class.j1 (k + 3) r x = some (if x = true ∨ (97 ≤ r ∧ r ≤ 122) ∨ (65 ≤ r ∧ r ≤ 90) ∨ r = 95 then 1 else if 128 ≤ r ∧ r ≤ 1114111 ∧ r ≠ 65533 then 1 else 2) := by
    rw [glyph_Class.j1]
    by_cases hx : x = true
    · rw [if_pos hx, j3, if_pos hx, if_pos (Or.inl hx)]
    rw [if_neg hx]
    by_cases h1 : r ≥ 97
    · rw [if_pos h1, j2]
      by_cases h2 : r ≤ 122
      · rw [if_pos (Or.inl (decide_eq_true h2)), if_pos (Or.inr (Or.inl ⟨h1, h2⟩))]
      · rw [if_neg (by rintro (h | h | h); exact h2 (of_decide_eq_true h); omega; omega), if_neg (c := x = true ∨ _) (by rintro (h | h | h | h); exact hx h; omega; omega; omega)]
    · rw [if_neg h1, j2]
      by_cases h3 : (65 ≤ r ∧ r ≤ 90) ∨ r = 95
      · rw [if_pos (Or.inr h3), if_pos (Or.inr (Or.inr h3))]
      · rw [if_neg (by rintro (h | h); cases h; exact h3 h), if_neg (c := x = true ∨ _) (by rintro (h | h | h); exact hx h; omega; exact h3 h)]
  have j0 (k : Nat) (x : Bool) : glyph_Class.j0 (k + 4) r x = some (if x = true then 0 else if r = 10 then 3 else if (48 ≤ r ∧ r ≤ 57) ∨ (97 ≤ r ∧ r ≤ 122) ∨ (65 ≤ r ∧ r ≤ 90) ∨ r = 95 then 1 else if 128 ≤ r ∧ r ≤ 1114111 ∧ r ≠ 65533 then 1 else 2) := by
    rw [glyph_Class.j0]
    by_cases hx : x = true
    · rw [if_pos hx, if_pos hx]
    rw [if_neg hx, if_neg hx]
    by_cases h10 : r = 10
    · rw [if_pos h10, if_pos h10]
    rw [if_neg h10, if_neg h10]
    by_cases h1 : r ≥ 48
    · rw [if_pos h1, j1]
      by_cases h2 : r ≤ 57
      · rw [if_pos (Or.inl (decide_eq_true h2)), if_pos (Or.inl ⟨h1, h2⟩)]
      · by_cases h3 : (97 ≤ r ∧ r ≤ 122) ∨ (65 ≤ r ∧ r ≤ 90) ∨ r = 95
        · rw [if_pos (Or.inr h3), if_pos (Or.inr h3)]
        · rw [if_neg (by rintro (h | h); exact h2 (of_decide_eq_true h); exact h3 h), if_neg (c := (48 ≤ r ∧ r ≤ 57) ∨ _) (by rintro (h | h); omega; exact h3 h)]
    · rw [if_neg h1, j1]
      rw [if_neg (by rintro (h | h | h | h); cases h; omega; omega; omega), if_neg (c := (48 ≤ r ∧ r ≤ 57) ∨ _) (by rintro (h | h | h | h); omega; omega; omega; omega)]
  by_cases h32 : r = 32
  · rw [if_pos h32, j0, if_pos rfl, if_pos (Or.inl h32)]
  · rw [if_neg h32, j0]
    by_cases h9 : r = 9
    · rw [if_pos (by simp [h9]), if_pos (Or.inr h9)]
    · rw [if_neg (by simp [h9]), if_neg (c := r = 32 ∨ _) (by rintro (h | h); exact h32 h; exact h9 h)]
theorem rd_nat (xs : List Int) (i : Nat) (h : i < xs.length) : rd xs (i : Int) = xs[i] := by
  unfold rd
  rw [Int.toNat_natCast, List.getD_eq_getElem?_getD, List.getElem?_eq_getElem h]
  rfl
theorem cls_rune {s : ByteArray} {a : Int} (h0 : 0 ≤ a) (h1 : a < (s.size : Int)) : clsZ s a = classZ (runeZ s a) := by
  unfold clsZ
  rw [if_neg (by omega), if_neg (by omega)]
theorem words_eq {s : ByteArray} {n i : Nat} (h : Signs s n) (hs : s.size < 100000) (hi : i < n) (K : Nat) (hK : 10 ≤ K) : bureautop_words.f K s ((Ext.st s i : Nat) : Int) = some (begZ s ((Ext.st s i : Nat) : Int)) := by
  have hl := h.lt i hi
  have hp := prev_range s ((Ext.st s i : Nat) : Int)
  have hc := cls_rune (s := s) (a := ((Ext.st s i : Nat) : Int)) (by omega) (by omega)
  have hw : ¬ widZ s ((Ext.st s i : Nat) : Int) = 0 := by
    have h1 := h.step hi
    have h2 := nextZ_st h hi
    unfold nextZ at h2
    rw [alignZ_st h (by omega)] at h2
    omega
  have hC : ∀ (k : Nat) (r : Int), 4 ≤ k → glyph_Class.f k r = some (classZ r) := fun k r hk => by
    obtain ⟨m, rfl⟩ : ∃ m, k = m + 4 := ⟨k - 4, by omega⟩
    exact class_eq m r
  have hA : ∀ a : Int, glyph_At.f s a = some (runeZ s a, widZ s a) := fun a => by unfold glyph_At.f; rw [if_pos (by omega)]
  have hP : ∀ a : Int, glyph_Prev.f s a = some (prevZ s a) := fun a => by unfold glyph_Prev.f; rw [if_pos (by omega)]
  obtain ⟨K, rfl⟩ : ∃ m, K = m + 1 := ⟨K - 1, by omega⟩
  have j : bureautop_words.j0 (K + 1) s ((Ext.st s i : Nat) : Int) (clsZ s ((Ext.st s i : Nat) : Int)) false = some (((Ext.st s i : Nat) : Int) == 0 || clsZ s (prevZ s ((Ext.st s i : Nat) : Int)) != clsZ s ((Ext.st s i : Nat) : Int)) := by
    rw [bureautop_words.j0, if_neg (by decide)]
    by_cases c0 : ((Ext.st s i : Nat) : Int) = 0
    · rw [if_pos c0, beq_iff_eq.2 c0, Bool.true_or]
    · rw [if_neg c0, beq_eq_false_iff_ne.2 c0, Bool.false_or, hP, Option.bind_some, hA, Option.bind_some]
      simp only
      rw [hC _ _ (by omega), Option.bind_some, cls_rune hp.1 (by omega)]
  unfold bureautop_words.f
  rw [hA, Option.bind_some]
  simp only
  rw [hC _ _ (by omega), Option.bind_some, if_neg hw, ← hc]
  unfold begZ
  by_cases c1 : clsZ s ((Ext.st s i : Nat) : Int) = 1
  · rw [if_pos c1, j]
    rw [beq_iff_eq.2 c1]
    rfl
  · rw [if_neg c1]
    by_cases c2 : clsZ s ((Ext.st s i : Nat) : Int) = 2
    · rw [bne_eq_false_iff_eq.2 c2, j, beq_iff_eq.2 c2, Bool.or_true, Bool.true_and]
    · rw [bne_iff_ne.2 c2, bureautop_words.j0, if_pos rfl, beq_eq_false_iff_ne.2 c1, beq_eq_false_iff_ne.2 c2]
      rfl
def mst (s : ByteArray) (l : List Nat) : List Int := l.map (fun t => ((Ext.st s t : Nat) : Int))
theorem mst_len (s : ByteArray) (l : List Nat) : (mst s l).length = l.length := List.length_map _
theorem mst_get (s : ByteArray) (l : List Nat) (i : Nat) (h : i < l.length) : rd (mst s l) (i : Int) = ((Ext.st s l[i] : Nat) : Int) := by
  rw [rd_nat _ i (by rw [mst_len]; exact h)]
  unfold mst
  rw [List.getElem_map]
theorem l0_eq {s : ByteArray} {n : Nat} (h : Signs s n) (hs : s.size < 100000) (F : Nat) (hF : 10 ≤ F) : ∀ (c i : Nat) (acc : List Nat), i + c = n → 1 ≤ i → acc.length ≤ i →
    bureautop_WholeWords.l0 (c + 1 + F) s (mst s acc) (mst s (List.range n)) (n : Int) (i : Int) = bureautop_WholeWords.l1 F s (mst s (acc ++ dnI s (begZ s) i c ++ [n])) 0 (mst s (acc ++ dnI s (begZ s) i c ++ [n])) ((mst s (acc ++ dnI s (begZ s) i c ++ [n])).length : Int) 0 := by
  have hn := h.le
  intro c
  induction c with
  | zero =>
    intro i acc hi h1 ha
    rw [show 0 + 1 + F = F + 1 by omega, bureautop_WholeWords.l0, if_neg (by omega), if_pos (by rw [mst_len]; omega), Option.bind_some]
    have : mst s acc ++ [(s.size : Int)] = mst s (acc ++ dnI s (begZ s) i 0 ++ [n]) := by
      unfold mst dnI
      rw [size_st h]
      simp
    rw [this]
  | succ c ih =>
    intro i acc hi h1 ha
    have hin : i < n := by omega
    have hw : wrap64 ((i : Int) + 1) = ((i + 1 : Nat) : Int) := by rw [wrapZ _ (by omega) (by omega)]; omega
    have hlen : i < (List.range n).length := by simpa using hin
    have h0 := Ext.st_lt h (show 0 < i by omega) (by omega)
    have hz : Ext.st s 0 = 0 := rfl
    have e1 : c + 1 + 1 + F = (c + 1 + F) + 1 := by omega
    have e2 : (i : Int) < (n : Int) := by omega
    have e3 : (0 : Int) ≤ (i : Int) := by omega
    have e4 : (i : Int) < ((mst s (List.range n)).length : Int) := by rw [mst_len]; omega
    have e5 : ((Ext.st s i : Nat) : Int) > 0 := by omega
    have e6 : (mst s acc).length < 17592186044416 := by rw [mst_len]; omega
    have e7 : 10 ≤ c + 1 + F := by omega
    have i1 := ih (i + 1) acc (by omega) (by omega) (by omega)
    have i2 := ih (i + 1) (acc ++ [i]) (by omega) (by omega) (by simp; omega)
    have em : mst s acc ++ [((Ext.st s i : Nat) : Int)] = mst s (acc ++ [i]) := by unfold mst; simp
    rw [e1, bureautop_WholeWords.l0, if_pos e2, if_pos e3, if_pos e4, mst_get s _ i hlen, List.getElem_range, if_pos e5, words_eq h hs hin _ e7, Option.bind_some, hw, if_pos e6, em, i1, i2]
    cases cb : begZ s ((Ext.st s i : Nat) : Int)
    · rw [if_neg (by decide), dnI_miss c (by rw [cb]; decide)]
    · rw [if_pos rfl, dnI_hit c cb, List.append_assoc acc [i]]
      rfl
theorem toM (s : ByteArray) (hs : s.size < 100000) (a k : Int) : move_To.f s a k 0 0 = some (toZ s a k 0 0) := by
  unfold move_To.f
  rw [if_pos ⟨by omega, by decide, by decide⟩]
theorem n1 : min (max (0 : Int) 1) 999 = ((1 : Nat) : Int) := by decide
theorem excy {a z : Int} (h : z ≠ a) : exc a z = (z, 0, true) := by unfold exc; rw [if_pos (by simpa using h)]
theorem excn (a : Int) : exc a a = (0, 0, false) := by unfold exc; rw [if_neg (by simp)]
theorem res1 (s : ByteArray) (l : List Nat) (d : Nat) : (resI s l 1 ((Ext.st s d : Nat) : Int)).1 = ((Ext.st s (l.headD d) : Nat) : Int) := by cases l <;> rfl
theorem w_step {s : ByteArray} {n p : Nat} (h : Signs s n) (hp : p ≤ n) : toZ s ((Ext.st s p : Nat) : Int) 119 0 0 = exc ((Ext.st s p : Nat) : Int) ((Ext.st s ((dnI s (begZ s) (p + 1) (n - (p + 1))).headD n) : Nat) : Int) := by
  obtain ⟨q, a, c, P⟩ := Pl.of_st h hp
  rw [toZ_w P n1, res1]
  rfl
theorem b_step {s : ByteArray} {n p : Nat} (h : Signs s n) (hp : p ≤ n) : toZ s ((Ext.st s p : Nat) : Int) 98 0 0 = exc ((Ext.st s p : Nat) : Int) ((Ext.st s ((upI s (begZ s) 0 (p - 0)).headD 0) : Nat) : Int) := by
  obtain ⟨q, a, c, P⟩ := Pl.of_st h hp
  rw [toZ_b P n1, res1]
  rfl
theorem head_drop (l : List Nat) (m d : Nat) : (l.drop m).headD d = (l ++ [d]).getD m d := by
  rw [List.getD_eq_getElem?_getD]
  by_cases c : m < l.length
  · rw [List.drop_eq_getElem_cons c, List.getElem?_append_left c, List.getElem?_eq_getElem c]
    rfl
  · rw [List.drop_of_length_le (by omega)]
    by_cases c2 : m = l.length
    · subst c2; simp
    · rw [List.getElem?_eq_none (by simp; omega)]
      rfl
theorem l1_eq {s : ByteArray} {n : Nat} (h : Signs s n) (hs : s.size < 100000) (L : List Nat) (hL : L.length ≤ n) (F : Nat) : ∀ (c m p : Nat), m + c = L.length + 1 → p ≤ n → (0 < c → p < n) → dnI s (begZ s) (p + 1) (n - (p + 1)) = L.drop m → (c = 0 → p = n) →
    bureautop_WholeWords.l1 (c + 1 + F) s (mst s (L ++ [n])) ((Ext.st s p : Nat) : Int) (mst s (L ++ [n])) ((mst s (L ++ [n])).length : Int) (m : Int) = bureautop_WholeWords.l2 F s (mst s (L ++ [n])) ((Ext.st s n : Nat) : Int) ((L.length : Int) - 1) := by
  have hn := h.le
  have hlen : (mst s (L ++ [n])).length = L.length + 1 := by rw [mst_len]; simp
  intro c
  induction c with
  | zero =>
    intro m p hm hp _ hd h0
    have hpn := h0 rfl
    subst hpn
    have hw : wrap64 (((L.length + 1 : Nat) : Int) - 2) = (L.length : Int) - 1 := by rw [wrapZ _ (by omega) (by omega)]; omega
    rw [show 0 + 1 + F = F + 1 by omega, bureautop_WholeWords.l1, hlen, if_neg (by omega), toM s hs, Option.bind_some, w_step h (Nat.le_refl _), show p - (p + 1) = 0 by omega]
    have : (dnI s (begZ s) (p + 1) 0).headD p = p := rfl
    rw [this, excn, if_neg (by decide), hw]
  | succ c ih =>
    intro m p hm hp hpn hd h0
    have hpn := hpn (by omega)
    have hw : wrap64 ((m : Int) + 1) = ((m + 1 : Nat) : Int) := by rw [wrapZ _ (by omega) (by omega)]; omega
    have hml : m < (L ++ [n]).length := by simp; omega
    have hv : (L ++ [n]).getD m n = (L ++ [n])[m] := by rw [List.getD_eq_getElem?_getD, List.getElem?_eq_getElem hml]; rfl
    -- where w leads
    have next : p < (L ++ [n])[m] ∧ (L ++ [n])[m] ≤ n ∧ (0 < c → (L ++ [n])[m] < n) ∧ dnI s (begZ s) ((L ++ [n])[m] + 1) (n - ((L ++ [n])[m] + 1)) = L.drop (m + 1) ∧ (c = 0 → (L ++ [n])[m] = n) := by
      by_cases cl : m < L.length
      · have e : (L ++ [n])[m] = L[m] := List.getElem_append_left cl
        have hg : (dnI s (begZ s) (p + 1) (n - (p + 1)))[0]? = some L[m] := by rw [hd, List.drop_eq_getElem_cons cl]; rfl
        obtain ⟨g1, g2, _, g4⟩ := dnI_get hg
        rw [e]
        refine ⟨by omega, by omega, fun _ => by omega, ?_, fun h => by omega⟩
        rw [show n - (L[m] + 1) = p + 1 + (n - (p + 1)) - (L[m] + 1) by omega, g4, hd, List.drop_drop]
      · have hm' : m = L.length := by omega
        subst hm'
        have e : (L ++ [n])[L.length] = n := by simp
        rw [e]
        refine ⟨hpn, Nat.le_refl _, fun h => by omega, ?_, fun _ => rfl⟩
        rw [show n - (n + 1) = 0 by omega, List.drop_of_length_le (by omega)]
        rfl
    obtain ⟨x1, x2, x3, x4, x5⟩ := next
    have hlt := Ext.st_lt h x1 x2
    have i1 := ih (m + 1) _ (by omega) x2 x3 x4 x5
    have e1 : c + 1 + 1 + F = (c + 1 + F) + 1 := by omega
    have hne : ((Ext.st s (L ++ [n])[m] : Nat) : Int) ≠ ((Ext.st s p : Nat) : Int) := by omega
    rw [e1, bureautop_WholeWords.l1, if_pos (by omega), if_pos (by omega), if_pos (by omega), toM s hs, Option.bind_some, w_step h hp, hd, head_drop, hv, mst_get s _ m hml, excy hne, if_neg hne]
    simp only
    rw [if_pos trivial, if_pos trivial, hw]
    exact i1
theorem l2_eq {s : ByteArray} {n : Nat} (h : Signs s n) (hs : s.size < 100000) (L : List Nat) (hL : L.length ≤ n) (U z : List Nat) (hU : U = L.reverse ++ z) (F : Nat) : ∀ (i m p : Nat), m + i = L.length → p ≤ n → upI s (begZ s) 0 p = U.drop m →
    bureautop_WholeWords.l2 (i + 1 + F) s (mst s (L ++ [n])) ((Ext.st s p : Nat) : Int) ((i : Int) - 1) = some true := by
  have hn := h.le
  have hlen : (mst s (L ++ [n])).length = L.length + 1 := by rw [mst_len]; simp
  intro i
  induction i with
  | zero =>
    intro m p hm hp hd
    rw [show 0 + 1 + F = F + 1 by omega, bureautop_WholeWords.l2, if_neg (by omega)]
  | succ i ih =>
    intro m p hm hp hd
    have hw : wrap64 ((i : Int) - 1) = (i : Int) - 1 := wrapZ _ (by omega) (by omega)
    have hi : i < L.length := by omega
    have hg : (upI s (begZ s) 0 p)[0]? = some L[i] := by
      rw [hd, List.getElem?_drop, hU, Nat.add_zero, List.getElem?_append_left (by simp; omega), List.getElem?_reverse (by omega), show L.length - 1 - m = i by omega, List.getElem?_eq_getElem hi]
    have hh : (upI s (begZ s) 0 (p - 0)).headD 0 = L[i] := by
      rw [Nat.sub_zero]
      cases hq : upI s (begZ s) 0 p with
      | nil => rw [hq] at hg; cases hg
      | cons a l => rw [hq] at hg; exact Option.some.inj hg
    obtain ⟨g1, g2, _, g4⟩ := upI_get hg
    rw [hd, List.drop_drop, Nat.sub_zero] at g4
    have hlt := Ext.st_lt h (show L[i] < p by omega) hp
    have hne : ((Ext.st s L[i] : Nat) : Int) ≠ ((Ext.st s p : Nat) : Int) := by omega
    have i1 := ih (m + 1) L[i] (by omega) (by omega) g4
    have e1 : i + 1 + 1 + F = (i + 1 + F) + 1 := by omega
    have e2 : ((i + 1 : Nat) : Int) - 1 = (i : Int) := by omega
    have hil : i < (L ++ [n]).length := by simp; omega
    have e3 : (L ++ [n])[i] = L[i] := List.getElem_append_left hi
    rw [e1, e2, bureautop_WholeWords.l2, if_pos (by omega), toM s hs, Option.bind_some, b_step h hp, hh, excy hne]
    simp only
    rw [if_pos trivial, if_pos (by omega), if_pos (by omega), mst_get s _ i hil, e3, if_pos rfl, hw]
    exact i1
theorem first_eq : move_To.f (⟨#[97, 98, 32, 99]⟩ : ByteArray) 0 119 0 0 = some (3, 0, true) := by decide +kernel
theorem WholeWords : bureautop_WholeWords.Pure := by
  intro s _
  obtain ⟨n, h⟩ := signs_ex s
  have hn := h.le
  refine ⟨3 * s.size + 40, ?_⟩
  unfold bureautop_WholeWords.f
  rw [first_eq, Option.bind_some, if_pos rfl, if_pos rfl, show 3 * s.size + 40 = (3 * s.size + 39) + 1 from rfl, bureautop_WholeWords.j0, if_neg (by decide)]
  by_cases hs : (s.size : Int) > 1000
  · rw [if_pos hs]
  have hs' : s.size < 100000 := by omega
  have hS : glyph_Starts.f s = some (mst s (List.range n)) := by
    unfold glyph_Starts.f mst
    rw [if_pos (by omega), h.eq, List.map_map]
    rfl
  have hSl : (mst s (List.range n)).length = n := by rw [mst_len]; simp
  rw [if_neg hs, hS, Option.bind_some, hSl]
  cases n with
  | zero =>
    have hz : s.size = 0 := by have := h.last; rw [← this]; rfl
    rw [show 3 * s.size + 39 = 38 + 1 by omega, bureautop_WholeWords.l0, if_neg (by decide), if_pos (by decide), Option.bind_some, hz]
    have e0 : toZ s 0 119 0 0 = (0, 0, false) := by
      have := w_step h (Nat.le_refl 0)
      have e : (dnI s (begZ s) (0 + 1) (0 - (0 + 1))).headD 0 = 0 := rfl
      rw [e, excn] at this
      exact this
    rw [bureautop_WholeWords.l1, if_pos (by decide), if_pos (by decide), if_pos (by decide), toM s hs', Option.bind_some, e0, if_pos (by decide)]
    rfl
  | succ n =>
    have hL : (dnI s (begZ s) 1 n).length ≤ n := by
      unfold dnI
      have := List.length_filter_le (fun t => begZ s ((Ext.st s t : Nat) : Int)) (List.range' 1 n)
      rwa [List.length_range'] at this
    have hL1 : (dnI s (begZ s) 1 n).length ≤ n + 1 := by omega
    have hr : (List.range (n + 1)).length = n + 1 := List.length_range
    -- the first place is no beginning that counts
    have st0 : bureautop_WholeWords.l0 (3 * s.size + 39) s ([] : List Int) (mst s (List.range (n + 1))) ((n + 1 : Nat) : Int) 0 = bureautop_WholeWords.l0 (3 * s.size + 38) s (mst s []) (mst s (List.range (n + 1))) ((n + 1 : Nat) : Int) ((1 : Nat) : Int) := by
      have hg := mst_get s (List.range (n + 1)) 0 (by rw [hr]; omega)
      rw [List.getElem_range] at hg
      have hz : ((Ext.st s 0 : Nat) : Int) = 0 := rfl
      rw [hz] at hg
      have hg' : rd (mst s (List.range (n + 1))) 0 = 0 := hg
      have hw : wrap64 ((0 : Int) + 1) = ((1 : Nat) : Int) := by rw [wrapZ _ (by decide) (by decide)]; rfl
      rw [show 3 * s.size + 39 = (3 * s.size + 38) + 1 from rfl, bureautop_WholeWords.l0, if_pos (by omega), if_pos (by omega), if_pos (by rw [hSl]; omega), hg', if_neg (by decide), hw]
      rfl
    rw [st0]
    have hl0 := l0_eq h hs' (3 * s.size + 37 - n) (by omega) n 1 [] (by omega) (by omega) (by simp)
    rw [show n + 1 + (3 * s.size + 37 - n) = 3 * s.size + 38 by omega, List.nil_append] at hl0
    rw [hl0]
    generalize hLd : dnI s (begZ s) 1 n = L at hL hL1
    have hl1 := l1_eq h hs' L hL1 (3 * s.size + 37 - n - (L.length + 2)) (L.length + 1) 0 0 (by omega) (by omega) (fun _ => by omega) (by rw [List.drop_zero, ← hLd]; rfl) (fun h => by omega)
    rw [show L.length + 1 + 1 + (3 * s.size + 37 - n - (L.length + 2)) = 3 * s.size + 37 - n by omega] at hl1
    refine hl1.trans ?_
    obtain ⟨z, hz⟩ : ∃ z, upI s (begZ s) 0 (n + 1) = L.reverse ++ z := by
      unfold upI
      by_cases c : begZ s ((Ext.st s 0 : Nat) : Int) = true
      · rw [dnI_hit n c, List.reverse_cons, hLd]
        exact ⟨_, rfl⟩
      · rw [dnI_miss n c, hLd]
        exact ⟨[], by simp⟩
    have hl2 := l2_eq h hs' L hL1 (upI s (begZ s) 0 (n + 1)) z hz (3 * s.size + 37 - n - (L.length + 2) - (L.length + 1)) L.length 0 (n + 1) (by omega) (Nat.le_refl _) rfl
    rw [show L.length + 1 + (3 * s.size + 37 - n - (L.length + 2) - (L.length + 1)) = 3 * s.size + 37 - n - (L.length + 2) by omega] at hl2
    exact hl2

end Go.Proofs.YtpajakfmahfpkaaDoor.Pure
