/- The functions of 'line' and of 'glyph', as the print tells them, in plain words; and the contracts in which the laws meet them. -/
import Derived.Test.YtpajakfmahfpkaaDoorExt06M
import Derived.Test.YtpajakfmahfpkaaDoorHelpA
import Derived.Test.YtpajakfmahfpkaaDoorHelpC
import Derived.Test.YtpajakfmahfpkaaDoorWMore
import Derived.WalkKit
import Derived.WalkMore
import Derived.Below
import Derived.KernelRfl
import Derived.LoopTactic
import Derived.Deep.RegionWith
import Derived.Deep.RegionHeld3
import Derived.IntWalk
import Derived.Deep.DeepCutAuto
import Derived.Deep.CutBlock
import Derived.BigQuiet
import Derived.Laws.RangeString
import Derived.Laws.RangeAny
import Derived.Laws.Rows
import Derived.Laws.Runes
import Derived.Lib.OthersKept
import Derived.OpenShut
set_option linter.unusedVariables false
set_option linter.unusedSimpArgs false
namespace Go.Proofs.YtpajakfmahfpkaaDoor.Ext
open Go.RowKit Go.Lib Go.Proofs.YtpajakfmahfpkaaDoorW.PrintWords Go.Proofs.YtpajakfmahfpkaaDoorW.PrintMore Go.Proofs.YtpajakfmahfpkaaDoor.HelpA Go.Proofs.YtpajakfmahfpkaaDoor.HelpC

theorem class_eq (k : Nat) (r : Int) : glyph_Class.f (k + 4) r = some (classZ r) := by
  unfold classZ glyph_Class.f
  have j3 (k : Nat) (x : Bool) : glyph_Class.j3 (k + 1) r x = some (if x = true then 1 else if 128 ≤ r ∧ r ≤ 1114111 ∧ r ≠ 65533 then 1 else 2) := by
    rw [glyph_Class.j3]
    by_cases hx : x = true
    · rw [if_pos hx, if_pos hx]
    rw [if_neg hx, if_neg hx]
    by_cases h1 : r ≥ 128
    · rw [if_pos h1]
      by_cases h2 : r ≤ 1114111
      · rw [if_pos h2]
        by_cases h3 : r = 65533
        · rw [if_pos h3, if_neg (by omega)]
        · rw [if_neg h3, if_pos ⟨h1, h2, h3⟩]
      · rw [if_neg h2, if_neg (by omega)]
    · rw [if_neg h1, if_neg (by omega)]
  have j2 (k : Nat) (x : Bool) : glyph_Class.j2 (k + 2) r x = some (if x = true ∨ (65 ≤ r ∧ r ≤ 90) ∨ r = 95 then 1 else if 128 ≤ r ∧ r ≤ 1114111 ∧ r ≠ 65533 then 1 else 2) := by
    rw [glyph_Class.j2]
    by_cases hx : x = true
    · rw [if_pos hx, j3, if_pos hx, if_pos (Or.inl hx)]
    rw [if_neg hx]
    by_cases h1 : r ≥ 65
    · rw [if_pos h1]
      by_cases h2 : r ≤ 90
      · rw [if_pos h2, decide_eq_true h2, j3, if_pos rfl, if_pos (Or.inr (Or.inl ⟨h1, h2⟩))]
      · rw [if_neg h2, j3]
        by_cases h3 : r = 95
        · rw [if_pos (by simp [h3]), if_pos (Or.inr (Or.inr h3))]
        · rw [if_neg (by simp [h3]), if_neg (c := x = true ∨ _) (by rintro (h | h | h); exact hx h; omega; omega)]
    · rw [if_neg h1, j3]
      rw [if_neg (by simp; omega), if_neg (c := x = true ∨ _) (by rintro (h | h | h); exact hx h; omega; omega)]
  have j1 (k : Nat) (x : Bool) : glyph_Class.j1 (k + 3) r x = some (if x = true ∨ (97 ≤ r ∧ r ≤ 122) ∨ (65 ≤ r ∧ r ≤ 90) ∨ r = 95 then 1 else if 128 ≤ r ∧ r ≤ 1114111 ∧ r ≠ 65533 then 1 else 2) := by
    rw [glyph_Class.j1]
    by_cases hx : x = true
    · rw [if_pos hx, j3, if_pos hx, if_pos (Or.inl hx)]
    rw [if_neg hx]
    by_cases h1 : r ≥ 97
    · rw [if_pos h1, j2]
      by_cases h2 : r ≤ 122
      · rw [if_pos (Or.inl (decide_eq_true h2)), if_pos (Or.inr (Or.inl ⟨h1, h2⟩))]
      · rw [if_neg (by rintro (h | h | h); exact h2 (of_decide_eq_true h); omega; omega), if_neg (c := x = true ∨ _) (by rintro (h | h | h | h); exact hx h; omega; omega; omega)]
    · rw [if_neg h1, j2]
      by_cases h3 : (65 ≤ r ∧ r ≤ 90) ∨ r = 95
      · rw [if_pos (Or.inr h3), if_pos (Or.inr (Or.inr h3))]
      · rw [if_neg (by rintro (h | h); cases h; exact h3 h), if_neg (c := x = true ∨ _) (by rintro (h | h | h); exact hx h; omega; exact h3 h)]
  have j0 (k : Nat) (x : Bool) : glyph_Class.j0 (k + 4) r x = some (if x = true then 0 else if r = 10 then 3 else if (48 ≤ r ∧ r ≤ 57) ∨ (97 ≤ r ∧ r ≤ 122) ∨ (65 ≤ r ∧ r ≤ 90) ∨ r = 95 then 1 else if 128 ≤ r ∧ r ≤ 1114111 ∧ r ≠ 65533 then 1 else 2) := by
    rw [glyph_Class.j0]
    by_cases hx : x = true
    · rw [if_pos hx, if_pos hx]
    rw [if_neg hx, if_neg hx]
    by_cases h10 : r = 10
    · rw [if_pos h10, if_pos h10]
    rw [if_neg h10, if_neg h10]
    by_cases h1 : r ≥ 48
    · rw [if_pos h1, j1]
      by_cases h2 : r ≤ 57
      · rw [if_pos (Or.inl (decide_eq_true h2)), if_pos (Or.inl ⟨h1, h2⟩)]
      · by_cases h3 : (97 ≤ r ∧ r ≤ 122) ∨ (65 ≤ r ∧ r ≤ 90) ∨ r = 95
        · rw [if_pos (Or.inr h3), if_pos (Or.inr h3)]
        · rw [if_neg (by rintro (h | h); exact h2 (of_decide_eq_true h); exact h3 h), if_neg (c := (48 ≤ r ∧ r ≤ 57) ∨ _) (by rintro (h | h); omega; exact h3 h)]
    · rw [if_neg h1, j1]
      rw [if_neg (by rintro (h | h | h | h); cases h; omega; omega; omega), if_neg (c := (48 ≤ r ∧ r ≤ 57) ∨ _) (by rintro (h | h | h | h); omega; omega; omega; omega)]
  by_cases h32 : r = 32
  · rw [if_pos h32, j0, if_pos rfl, if_pos (Or.inl h32)]
  · rw [if_neg h32, j0]
    by_cases h9 : r = 9
    · rw [if_pos (by simp [h9]), if_pos (Or.inr h9)]
    · rw [if_neg (by simp [h9]), if_neg (c := r = 32 ∨ _) (by rintro (h | h); exact h32 h; exact h9 h)]
theorem ext_drop (s : ByteArray) (p : Nat) : (s.extract p s.size).data.toList = s.data.toList.drop p := by
  rw [ByteArray.data_extract, Array.toList_extract, List.extract_eq_take_drop, List.take_of_length_le]
  rw [List.length_drop, size_list]
  exact Nat.le_refl _
theorem ext_take (s : ByteArray) (q : Nat) : (s.extract 0 q).data.toList = s.data.toList.take q := by
  rw [ByteArray.data_extract, Array.toList_extract, List.extract_eq_take_drop, List.drop_zero, Nat.sub_zero]
theorem strcount_eq (s : ByteArray) : strings_Count.f s (⟨#[10]⟩ : ByteArray) = some ((s.data.toList.count 10 : Nat) : Int) := rfl
theorem index_eq (s : ByteArray) (p : Nat) : strings_IndexByte.f (s.extract p s.size) 10 = some (Lib.indexByte (s.data.toList.drop p) 10) := by
  unfold strings_IndexByte.f
  rw [ext_drop]
  rfl
theorem nE_count (s : ByteArray) : nE s = s.data.toList.count 10 + 1 := eL_len _ _
theorem nE_pos (s : ByteArray) : 1 ≤ nE s := ends_pos s
theorem nE_le (s : ByteArray) : nE s ≤ s.size + 1 := ends_le s
theorem count_eq (s : ByteArray) (hs : s.size ≤ 1000000) : line_Count.f s = some (nE s : Int) := by
  unfold line_Count.f
  have := nE_le s
  rw [strcount_eq, Option.bind_some, nE_count] at *
  congr 1
  rw [wrapZ _ (by omega) (by omega)]
  omega
theorem of_eq (s : ByteArray) (a : Int) : line_Of.f s a = some (ofZ s a : Int) := by
  unfold line_Of.f
  have hm : mn (mx a 0) (s.size : Int) = min (max a 0) (s.size : Int) := by unfold mn mx; omega
  rw [hm, if_pos (by omega), if_pos (by omega), strcount_eq, Option.bind_some, ext_take]
  rfl
theorem bounds_loop (s : ByteArray) (hs : s.size ≤ 1000000) (m : Nat) (hm : m < nE s) : ∀ (c i k : Nat), i + c = m →
    line_Bounds.l0 (c + k + 1) s (bF s i : Int) (m : Int) (i : Int) = some ((bF s m : Int), (bT s m : Int), 0) := by
  have hn := nE_le s
  intro c
  induction c with
  | zero =>
    intro i k hi
    have hi : i = m := by omega
    subst hi
    have h1 := (bF_tail s i hm).1
    rw [show 0 + k + 1 = k + 1 by omega, line_Bounds.l0, if_neg (by omega), if_pos (by omega), if_pos (by omega), Int.toNat_natCast, index_eq, Option.bind_some]
    rcases bT_index s i hm with ⟨h2, h3, h4⟩ | ⟨j, h2, h3, h4, h5, h6⟩
    · rw [h2, if_pos (by decide), h4]
    · rw [h2, if_neg (by omega), wrapZ _ (by omega) (by omega), h4]
      rfl
  | succ c ih =>
    intro i k hi
    have him : i < nE s := by omega
    have h1 := (bF_tail s i him).1
    have hw : wrap64 ((i : Int) + 1) = ((i + 1 : Nat) : Int) := by rw [wrapZ _ (by omega) (by omega)]; omega
    rw [show c + 1 + k + 1 = (c + k + 1) + 1 by omega, line_Bounds.l0, if_pos (by omega), if_pos (by omega), if_pos (by omega), Int.toNat_natCast, index_eq, Option.bind_some, hw]
    rcases bT_index s i him with ⟨h2, h3, h4⟩ | ⟨j, h2, h3, h4, h5, h6⟩
    · exfalso
      unfold nE at hm
      omega
    · have e1 : wrap64 ((j : Int) + 1) = (j : Int) + 1 := wrapZ _ (by omega) (by omega)
      have e2 : wrap64 ((bF s i : Int) + ((j : Int) + 1)) = ((bF s (i + 1) : Nat) : Int) := by rw [wrapZ _ (by omega) (by omega), h6]; omega
      rw [h2, e1, e2]
      exact ih (i + 1) k (by omega)
def boundsZ (s : ByteArray) (n : Int) : Int × Int × Int := if 0 ≤ n ∧ n < (nE s : Int) then ((bF s n.toNat : Int), (bT s n.toNat : Int), 0) else (0, 0, 2)
theorem bounds_eq (s : ByteArray) (hs : s.size ≤ 1000000) (n : Int) (k : Nat) : line_Bounds.f (s.size + k + 4) s n = some (boundsZ s n) := by
  have hn := nE_le s
  unfold line_Bounds.f boundsZ
  by_cases h0 : n < 0
  · rw [if_pos h0, show s.size + k + 4 = (s.size + k + 3) + 1 from rfl, line_Bounds.j0, if_pos rfl, if_neg (by omega)]
  rw [if_neg h0, count_eq s hs, Option.bind_some, show s.size + k + 4 = (s.size + k + 3) + 1 from rfl, line_Bounds.j0]
  by_cases h1 : n ≥ (nE s : Int)
  · rw [decide_eq_true h1, if_pos rfl, if_neg (by omega)]
  · rw [decide_eq_false h1, if_neg (by decide), if_pos (by omega)]
    obtain ⟨m, rfl⟩ : ∃ m : Nat, n = (m : Int) := ⟨n.toNat, by omega⟩
    have := bounds_loop s hs m (by omega) m 0 (s.size + k + 2 - m) (by omega)
    rw [show m + (s.size + k + 2 - m) + 1 = s.size + k + 3 by omega] at this
    exact this
theorem intoZ_lt (s : ByteArray) (n : Int) : intoZ s n < nE s := by
  have := nE_pos s
  unfold intoZ
  omega
theorem into_eq (s : ByteArray) (hs : s.size ≤ 1000000) (n : Int) (k : Nat) : line_into.f (s.size + k + 4) s n = some ((bF s (intoZ s n) : Int), (bT s (intoZ s n) : Int)) := by
  have hn := nE_le s
  have hp := nE_pos s
  have hi := intoZ_lt s n
  unfold line_into.f
  have hw : wrap64 ((nE s : Int) - 1) = (nE s : Int) - 1 := wrapZ _ (by omega) (by omega)
  have hm : mn (mx n 0) ((nE s : Int) - 1) = ((intoZ s n : Nat) : Int) := by unfold intoZ mn mx; omega
  rw [count_eq s hs, Option.bind_some, hw, hm, bounds_eq s hs _ k, Option.bind_some]
  unfold boundsZ
  rw [if_pos (by omega), Int.toNat_natCast]
theorem suffix_dec (s : ByteArray) (i : Nat) (h : i < s.size) : utf8_DecodeRuneInString.f (s.extract i s.size) = some ((((Utf8.decode s i).1 : Nat) : Int), (((Utf8.decode s i).2 : Nat) : Int)) := by
  unfold utf8_DecodeRuneInString.f
  rw [suffix_decode s i h]
theorem align_loop (s : ByteArray) (a : Nat) (ha : a < s.size) (hs : s.size < 1000000) : ∀ (n b k : Nat), n + b = 4 → glyph_Align.l0 (n * 2 + k + 2) s (a : Int) (b : Int) = some ((al s a n b : Nat) : Int) := by
  intro n
  induction n with
  | zero =>
    intro b k hb
    rw [show 0 * 2 + k + 2 = (k + 1) + 1 by omega, glyph_Align.l0, if_neg (by omega), glyph_Align.j1, if_neg (by decide)]
    rfl
  | succ n ih =>
    intro b k hb
    rw [show (n + 1) * 2 + k + 2 = ((n * 2 + k + 2) + 1) + 1 by omega, glyph_Align.l0, if_pos (by omega)]
    have hal : al s a (n + 1) b = if b ≤ a then (if gb s (a - b) / 64 = 2 then al s a n (b + 1) else if b < (Utf8.decode s (a - b)).2 then a - b else a) else a := rfl
    rw [hal]
    by_cases hc : b ≤ a
    · have hd : decide ((b : Int) ≤ (a : Int)) = true := decide_eq_true (by omega)
      have hw : wrap64 ((a : Int) - (b : Int)) = ((a - b : Nat) : Int) := by rw [wrapZ _ (by omega) (by omega)]; omega
      have hw1 : wrap64 ((b : Int) + 1) = ((b + 1 : Nat) : Int) := by rw [wrapZ _ (by omega) (by omega)]; omega
      have c1 : (0 : Int) ≤ ((a - b : Nat) : Int) := by omega
      have c2 : ((a - b : Nat) : Int) < (s.size : Int) := by omega
      have c3 : ((a - b : Nat) : Int) ≤ (s.size : Int) := by omega
      rw [hd, glyph_Align.j1, if_pos rfl, hw, hw1, if_pos c1, if_pos c2, bt_gb s (a - b) (by omega)]
      unfold utf8_RuneStart.f
      rw [Ext.start_eq _ (gb_lt s _), Option.bind_some, if_pos hc]
      by_cases hg : gb s (a - b) / 64 = 2
      · rw [if_neg (by simp [hg]), if_pos hg]
        exact ih (b + 1) k (by omega)
      · rw [if_pos (by simp [hg]), if_neg hg, if_pos c3, Int.toNat_natCast, suffix_dec s (a - b) (by omega), Option.bind_some]
        simp only []
        by_cases hl : b < (Utf8.decode s (a - b)).2
        · rw [if_pos hl, if_pos (by omega)]
        · rw [if_neg hl, if_neg (by omega)]
    · have hd : decide ((b : Int) ≤ (a : Int)) = false := decide_eq_false (by omega)
      rw [hd, glyph_Align.j1, if_neg (by decide), if_neg hc]
theorem align_eq {s : ByteArray} {n j : Nat} (h : Signs s n) (hs : s.size < 1000000) {a : Int} (ha : At s n a j) (k : Nat) : glyph_Align.f (k + 10) s a = some ((st s j : Nat) : Int) := by
  obtain ⟨hj, h1, h2, h3⟩ := ha
  unfold glyph_Align.f
  by_cases c0 : a < 0
  · rw [if_pos c0, h1 c0]
    rfl
  rw [if_neg c0]
  by_cases c1 : a ≥ (s.size : Int)
  · rw [if_pos c1, h3 c1, h.last]
  rw [if_neg c1]
  obtain ⟨e1, e2, e3⟩ := h2 (by omega) (by omega)
  obtain ⟨a, rfl⟩ : ∃ a' : Nat, a = a' := ⟨a.toNat, by omega⟩
  have := align_loop s a (by omega) hs 4 0 k (by omega)
  rw [show 4 * 2 + k + 2 = k + 10 by omega] at this
  rw [show (0 : Int) = ((0 : Nat) : Int) from rfl, this, al_eq h e1 (by omega) (by omega)]
def wholeZ (s : ByteArray) (a b : Int) : Int × Int × Int :=
  if a < 0 ∨ b < a ∨ b ≥ (nE s : Int) then (0, 0, 2) else if bT s b.toNat < s.size then ((bF s a.toNat : Int), (bT s b.toNat : Int) + 1, 0) else if a > 0 then ((bF s a.toNat : Int) - 1, (bT s b.toNat : Int), 0) else (0, (s.size : Int), 0)
theorem intoZ_in (s : ByteArray) {n : Int} (h0 : 0 ≤ n) (h1 : n < (nE s : Int)) : intoZ s n = n.toNat := by
  unfold intoZ
  omega
theorem whole_eq (s : ByteArray) (hs : s.size ≤ 1000000) (a b : Int) (k : Nat) : line_Whole.f (s.size + k + 5) s a b = some (wholeZ s a b) := by
  have hn := nE_le s
  unfold line_Whole.f wholeZ
  by_cases h0 : a < 0
  · rw [if_pos h0, show s.size + k + 5 = (s.size + k + 4) + 1 from rfl, line_Whole.j0, if_pos rfl, if_pos (Or.inl h0)]
  rw [if_neg h0]
  by_cases h1 : b < a
  · rw [if_pos h1, show s.size + k + 5 = (s.size + k + 4) + 1 from rfl, line_Whole.j0, if_pos rfl, if_pos (Or.inr (Or.inl h1))]
  rw [if_neg h1, count_eq s hs, Option.bind_some, show s.size + k + 5 = (s.size + k + 4) + 1 from rfl, line_Whole.j0]
  by_cases h2 : b ≥ (nE s : Int)
  · rw [decide_eq_true h2, if_pos rfl, if_pos (Or.inr (Or.inr h2))]
  rw [decide_eq_false h2, if_neg (by decide), into_eq s hs a k, Option.bind_some, into_eq s hs b k, Option.bind_some, intoZ_in s (by omega) (by omega), intoZ_in s (by omega) (by omega),
    if_neg (c := a < 0 ∨ _) (by rintro (h | h | h); exact h0 h; exact h1 h; exact h2 h)]
  have ht := bT_le s b.toNat (by unfold nE at *; omega)
  have hf := (bF_tail s a.toNat (by unfold nE at *; omega)).1
  simp only []
  by_cases h3 : bT s b.toNat < s.size
  · rw [if_pos (by omega), if_pos h3, wrapZ _ (by omega) (by omega)]
  rw [if_neg (by omega), if_neg h3]
  by_cases h4 : a > 0
  · rw [if_pos h4, if_pos h4, wrapZ _ (by omega) (by omega)]
  · rw [if_neg h4, if_neg h4]
theorem alignP_eq (s : ByteArray) (hs : s.size < 1000000) (a : Int) (k : Nat) : glyph_Align.f (k + 10) s a = some (alignZ s a : Int) := by
  obtain ⟨n, h⟩ := signs_ex s
  obtain ⟨j, hj⟩ := At.ex h a
  rw [align_eq h hs hj k, alignZ_eq h hj]
theorem ofZ_lt (s : ByteArray) (a : Int) : ofZ s a < nE s := by
  rw [nE_count]
  unfold ofZ
  have := List.Sublist.count_le (10 : UInt8) (List.take_sublist (min (max a 0) (s.size : Int)).toNat s.data.toList)
  omega
theorem bF_of (s : ByteArray) : ∀ (p : Nat), p ≤ s.size → bF s ((s.data.toList.take p).count 10) ≤ p ∧ p ≤ bT s ((s.data.toList.take p).count 10) := by
  intro p
  induction p with
  | zero =>
    intro _
    rw [List.take_zero, List.count_nil]
    exact ⟨Nat.zero_le _, Nat.zero_le _⟩
  | succ p ih =>
    intro hp
    obtain ⟨h1, h2⟩ := ih (by omega)
    have hlen : p < s.data.toList.length := by rw [← size_list]; omega
    have hlt : (s.data.toList.take p).count 10 < nE s := by
      rw [nE_count]
      have := List.Sublist.count_le (10 : UInt8) (List.take_sublist p s.data.toList)
      omega
    have ht : s.data.toList.take (p + 1) = s.data.toList.take p ++ [s.data.toList[p]] := by rw [List.take_add_one, List.getElem?_eq_getElem hlen]; rfl
    have hgb : gb s p = s.data.toList[p].toNat := gb_list s p _ (List.getElem?_eq_getElem hlen)
    rw [ht, List.count_append]
    generalize hq : (s.data.toList.take p).count 10 = q at *
    by_cases hc : s.data.toList[p] = 10
    · have he : bT s q = p := by
        rcases bT_index s q hlt with ⟨h3, h4, h5⟩ | ⟨j, h3, h4, h5, h6, h7⟩
        · exfalso
          -- no line end from bF on, yet one at p
          obtain ⟨e1, e2⟩ := bF_tail s q hlt
          have hcnt := eL_len (s.data.toList.drop (bF s q)) (bF s q)
          rw [e2, List.length_drop] at hcnt
          have h0 : (s.data.toList.drop (bF s q)).count 10 = 0 := by omega
          have hmem : (10 : UInt8) ∈ s.data.toList.drop (bF s q) := by
            rw [← hc]
            have : s.data.toList[p] = (s.data.toList.drop (bF s q))[p - bF s q]'(by rw [List.length_drop]; omega) := by
              rw [List.getElem_drop]
              congr 1
              omega
            rw [this]
            exact List.getElem_mem _
          exact absurd (List.count_pos_iff.2 hmem) (by omega)
        · rcases Nat.lt_or_ge p (bT s q) with hlt2 | hge
          · exfalso
            -- p lies ahead of the first line end
            have hix := h3
            have key : ∀ (l : List UInt8) (i : Nat), Lib.indexByte l 10 = (i : Int) → ∀ t, t < i → l[t]? ≠ some 10 := by
              intro l
              induction l with
              | nil => intro i hi; exact absurd hi (by simp [Lib.indexByte])
              | cons c r ihl =>
                intro i hi t ht
                have hx : Lib.indexByte (c :: r) 10 = if (c == 10) = true then 0 else if (Lib.indexByte r 10 == -1) = true then -1 else Lib.indexByte r 10 + 1 := rfl
                rw [hx] at hi
                by_cases h10 : (c == 10) = true
                · rw [if_pos h10] at hi
                  omega
                · rw [if_neg h10] at hi
                  by_cases hm : (Lib.indexByte r 10 == -1) = true
                  · rw [if_pos hm] at hi
                    omega
                  · rw [if_neg hm] at hi
                    cases t with
                    | zero =>
                      rw [List.getElem?_cons_zero]
                      intro he
                      apply h10
                      rw [Option.some.inj he]
                      rfl
                    | succ t =>
                      rw [List.getElem?_cons_succ]
                      exact ihl (i - 1) (by omega) t (by omega)
            have := key _ _ hix (p - bF s q) (by omega)
            rw [List.getElem?_drop, show bF s q + (p - bF s q) = p by omega, List.getElem?_eq_getElem hlen, hc] at this
            exact this rfl
          · omega
      rw [hc]
      have h10 : List.count (10 : UInt8) [10] = 1 := rfl
      rw [h10]
      have hf : bF s (q + 1) = bT s q + 1 := rfl
      have hq1 : q + 1 < nE s := (bT_last s q hlt).1 (by omega)
      have hb := bT_le s (q + 1) hq1
      exact ⟨by omega, by omega⟩
    · have h0 : List.count (10 : UInt8) [s.data.toList[p]] = 0 := by
        rw [List.count_cons_of_ne hc]
        rfl
      rw [h0, Nat.add_zero]
      refine ⟨by omega, ?_⟩
      rcases Nat.lt_or_ge p (bT s q) with hlt2 | hge
      · omega
      · exfalso
        have he : bT s q = p := by omega
        have := (bT_gb s q hlt).1 (by omega)
        rw [he, hgb] at this
        apply hc
        exact UInt8.toNat_inj.1 this
theorem ofZ_in (s : ByteArray) (p : Nat) (h : p ≤ s.size) : bF s (ofZ s (p : Int)) ≤ p ∧ p ≤ bT s (ofZ s (p : Int)) := by
  have := bF_of s p h
  have e : (min (max (p : Int) 0) (s.size : Int)).toNat = p := by omega
  unfold ofZ
  rw [e]
  exact this
theorem col_eq (s : ByteArray) (hs : s.size < 1000000) (a : Int) (k : Nat) : line_Col.f (s.size + k + 10) s a = some (colZ s a : Int) := by
  have hal := alignZ_le s a
  obtain ⟨h1, h2⟩ := ofZ_in s (alignZ s a) hal
  have hlt := ofZ_lt s (alignZ s a : Int)
  have hA := alignP_eq s hs a (s.size + k)
  have hI := into_eq s (by omega) (ofZ s (alignZ s a : Int) : Int) (k + 6)
  rw [intoZ_in s (by omega) (by omega), Int.toNat_natCast, show s.size + (k + 6) + 4 = s.size + k + 10 by omega] at hI
  unfold line_Col.f
  rw [hA, Option.bind_some, of_eq, Option.bind_some, hI, Option.bind_some, if_pos (by omega), if_pos (by omega), if_pos (by omega), Int.toNat_natCast, Int.toNat_natCast]
  unfold glyph_Count.f
  rw [if_pos (by rw [size_sub _ _ _ hal h1]; omega)]
  rfl

end Go.Proofs.YtpajakfmahfpkaaDoor.Ext
