/- The lines of a text, in plain Lean: where they begin and end, and what the functions of 'line' tell of them. -/
import Derived.Test.YtpajakfmahfpkaaDoorExt06C
import Derived.Test.YtpajakfmahfpkaaDoorWMore
import Derived.WalkKit
import Derived.WalkMore
import Derived.Below
import Derived.KernelRfl
import Derived.LoopTactic
import Derived.Deep.RegionWith
import Derived.Deep.RegionHeld3
import Derived.IntWalk
import Derived.Deep.DeepCutAuto
import Derived.Deep.CutBlock
import Derived.BigQuiet
import Derived.Laws.RangeString
import Derived.Laws.RangeAny
import Derived.Laws.Rows
import Derived.Laws.Runes
import Derived.Lib.OthersKept
import Derived.OpenShut
set_option linter.unusedVariables false
set_option linter.unusedSimpArgs false
namespace Go.Proofs.YtpajakfmahfpkaaDoor.Ext
open Go.RowKit Go.Lib Go.Proofs.YtpajakfmahfpkaaDoorW.PrintWords Go.Proofs.YtpajakfmahfpkaaDoorW.PrintMore

theorem tmodN (a b : Nat) : Int.tmod (a : Int) (b : Int) = ((a % b : Nat) : Int) := rfl
theorem tdivN (a b : Nat) : Int.tdiv (a : Int) (b : Int) = ((a / b : Nat) : Int) := rfl
theorem wrapN (a : Nat) (h : a < 9223372036854775808) : wrap64 (a : Int) = (a : Int) := by
  unfold wrap64
  omega
theorem wrapZ (a : Int) (h0 : -9223372036854775808 ≤ a) (h1 : a < 9223372036854775808) : wrap64 a = a := by
  unfold wrap64
  omega
/-- The byte of a text at a place, as a number. -/
def gb (s : ByteArray) (i : Nat) : Nat := (s.get! i).toNat
theorem gb_lt (s : ByteArray) (i : Nat) : gb s i < 256 := UInt8.toNat_lt _
theorem get_ext (s : ByteArray) (i n j : Nat) (h : i + n ≤ s.size) (hj : j < n) : (s.extract i (i + n)).get! j = s.get! (i + j) := by
  show (s.extract i (i + n)).data[j]! = s.data[i + j]!
  have hs : s.size = s.data.size := rfl
  rw [ByteArray.data_extract, getElem!_def, getElem!_def, Array.getElem?_extract, if_pos (by omega)]
theorem size_ext (s : ByteArray) (i n : Nat) (h : i + n ≤ s.size) : (s.extract i (i + n)).size = n := by
  rw [ByteArray.size_extract]
  omega
theorem bt_gb (x : ByteArray) (j : Nat) (hj : j < x.size) : bt x (j : Int) = ((gb x j : Nat) : Int) := by
  have h : ((j : Int).toNat) < x.size := by simpa using hj
  unfold bt gb
  rw [dif_pos h]
  have e : x[(j : Int).toNat]'h = x.get! j := by
    show x.data[j] = x.data[j]!
    rw [getElem!_pos x.data j hj]
  rw [e]
theorem list_bytes (x : ByteArray) : x.data.toList = (List.range x.size).map (fun j => x.get! j) := by
  apply List.ext_getElem?
  intro j
  have hs : x.size = x.data.size := rfl
  by_cases h : j < x.size
  · rw [List.getElem?_map, List.getElem?_range h]
    show x.data.toList[j]? = some x.data[j]!
    rw [getElem!_pos x.data j h]
    simp [hs ▸ h]
  · rw [List.getElem?_eq_none (by simp; omega), List.getElem?_eq_none (by simp; omega)]
theorem decN_le (n b0 b1 b2 b3 : Nat) : (Lib.decodeN n b0 b1 b2 b3).2 ≤ 4 := by
  unfold Lib.decodeN
  repeat' split
  all_goals (simp only; omega)
theorem decN_fits (n b0 b1 b2 b3 : Nat) (hn : 1 ≤ n) : (Lib.decodeN n b0 b1 b2 b3).2 ≤ n := by
  unfold Lib.decodeN
  repeat' split
  all_goals (simp only; omega)
theorem decN_rune (n b0 b1 b2 b3 : Nat) (h : b0 < 256) : (Lib.decodeN n b0 b1 b2 b3).1 ≤ 1114111 := by
  unfold Lib.decodeN
  repeat' split
  all_goals (simp only; omega)
theorem dec_le (s : ByteArray) (i : Nat) : (Utf8.decode s i).1 ≤ 1114111 := by
  rw [Lib.decode_at]
  exact decN_rune _ _ _ _ _ (UInt8.toNat_lt _)
theorem width_le4 (s : ByteArray) (i : Nat) : (Utf8.decode s i).2 ≤ 4 := by
  rw [Lib.decode_at]
  exact decN_le _ _ _ _ _
theorem width_fits (s : ByteArray) (i : Nat) (h : i < s.size) : i + (Utf8.decode s i).2 ≤ s.size := by
  rw [Lib.decode_at]
  have := decN_fits (s.size - i) (s.get! i).toNat (s.get! (i + 1)).toNat (s.get! (i + 2)).toNat (s.get! (i + 3)).toNat (by omega)
  omega
/-- Where the sign of a number begins. -/
def st (s : ByteArray) : Nat → Nat
  | 0 => 0
  | j + 1 => st s j + (Utf8.decode s (st s j)).2
theorem scan_st (s : ByteArray) : ∀ (b j : Nat), s.size ≤ st s j + b → st s j ≤ s.size →
    ∃ n, scan s b (st s j) = (List.range n).map (fun t => (st s (j + t), Utf8.decode s (st s (j + t)))) ∧ st s (j + n) = s.size ∧ ∀ t, t < n → st s (j + t) < s.size := by
  intro b
  induction b with
  | zero =>
    intro j h hj
    exact ⟨0, rfl, by simp only [Nat.add_zero]; omega, fun t ht => absurd ht (by omega)⟩
  | succ b ih =>
    intro j h hj
    by_cases hc : st s j < s.size
    · have hp := width_pos s _ hc
      have hf := width_fits s _ hc
      obtain ⟨n, h1, h2, h3⟩ := ih (j + 1) (by simp only [st]; omega) hf
      refine ⟨n + 1, ?_, by rw [← h2]; congr 1; omega, fun t ht => ?_⟩
      · rw [scan, if_pos hc, List.range_succ_eq_map, List.map_cons, List.map_map]
        have e : st s j + (Utf8.decode s (st s j)).2 = st s (j + 1) := rfl
        rw [e, h1]
        simp only [Nat.add_zero]
        congr 1
        refine List.map_congr_left (fun t _ => ?_)
        simp only [Function.comp]
        rw [show j + 1 + t = j + t.succ by omega]
      · cases t with
        | zero => exact hc
        | succ t => have := h3 t (by omega); rwa [show j + (t + 1) = j + 1 + t by omega]
    · refine ⟨0, ?_, by simp only [Nat.add_zero]; omega, fun t ht => absurd ht (by omega)⟩
      rw [scan, if_neg hc]
      rfl
/-- The signs of a text, by number. -/
structure Signs (s : ByteArray) (n : Nat) : Prop where
  eq : scan s s.size 0 = (List.range n).map (fun t => (st s t, Utf8.decode s (st s t)))
  last : st s n = s.size
  lt : ∀ t, t < n → st s t < s.size
theorem signs_ex (s : ByteArray) : ∃ n, Signs s n := by
  obtain ⟨n, h1, h2, h3⟩ := scan_st s s.size 0 (by simp) (by simp [st])
  simp only [Nat.zero_add] at h1 h2 h3
  exact ⟨n, h1, h2, h3⟩
theorem Signs.len {s : ByteArray} {n : Nat} (h : Signs s n) : (scan s s.size 0).length = n := by rw [h.eq]; simp
theorem Signs.le {s : ByteArray} {n : Nat} (h : Signs s n) : n ≤ s.size := by rw [← h.len]; exact scan_len s s.size 0
theorem st_mono (s : ByteArray) {a b : Nat} (h : a ≤ b) : st s a ≤ st s b := by
  induction h with
  | refl => exact Nat.le_refl _
  | step _ ih => simp only [st]; omega
theorem Signs.step {s : ByteArray} {n t : Nat} (h : Signs s n) (ht : t < n) : st s t < st s (t + 1) := by
  have := width_pos s _ (h.lt t ht)
  simp only [st]
  omega
theorem Signs.le_size {s : ByteArray} {n t : Nat} (h : Signs s n) (ht : t ≤ n) : st s t ≤ s.size := by
  rw [← h.last]
  exact st_mono s ht
theorem Signs.cover {s : ByteArray} {n : Nat} (h : Signs s n) : ∀ m, m ≤ n → ∀ a, a < st s m → ∃ t, t < m ∧ st s t ≤ a ∧ a < st s (t + 1) := by
  intro m
  induction m with
  | zero => intro _ a ha; simp [st] at ha
  | succ m ih =>
    intro hm a ha
    by_cases hc : a < st s m
    · obtain ⟨t, h1, h2, h3⟩ := ih (by omega) a hc
      exact ⟨t, by omega, h2, h3⟩
    · exact ⟨m, by omega, by omega, ha⟩
/-! The bytes of a sign: only its first one may begin a sign. -/
theorem decN_conts (n b0 b1 b2 b3 : Nat) : (2 ≤ (Lib.decodeN n b0 b1 b2 b3).2 → ¬ b0 / 64 = 2 ∧ b1 / 64 = 2) ∧ (3 ≤ (Lib.decodeN n b0 b1 b2 b3).2 → b2 / 64 = 2) ∧ (4 ≤ (Lib.decodeN n b0 b1 b2 b3).2 → b3 / 64 = 2) := by
  unfold Lib.decodeN
  repeat' split
  all_goals (simp only; omega)
theorem conts (s : ByteArray) (i t : Nat) (h1 : 1 ≤ t) (h2 : t < (Utf8.decode s i).2) : ¬ gb s i / 64 = 2 ∧ gb s (i + t) / 64 = 2 := by
  have h4 := width_le4 s i
  have hc := decN_conts (s.size - i) (gb s i) (gb s (i + 1)) (gb s (i + 2)) (gb s (i + 3))
  have hd : Utf8.decode s i = Lib.decodeN (s.size - i) (gb s i) (gb s (i + 1)) (gb s (i + 2)) (gb s (i + 3)) := Lib.decode_at s i
  rw [← hd] at hc
  obtain ⟨c1, c2, c3⟩ := hc
  refine ⟨(c1 (by omega)).1, ?_⟩
  rcases (by omega : t = 1 ∨ t = 2 ∨ t = 3) with rfl | rfl | rfl
  · exact (c1 (by omega)).2
  · exact c2 (by omega)
  · exact c3 (by omega)
theorem start_eq : ∀ b : Nat, b < 256 → ((Go.bits .and .u8 (b : Int) 192) != 128) = !(b / 64 == 2) := by decide +kernel
/-- glyph.Align's way back. -/
def al (s : ByteArray) (a : Nat) : Nat → Nat → Nat
  | 0, _ => a
  | n + 1, b => if b ≤ a then (if gb s (a - b) / 64 = 2 then al s a n (b + 1) else if b < (Utf8.decode s (a - b)).2 then a - b else a) else a
theorem al_start {s : ByteArray} {n m : Nat} (h : Signs s n) (hm : m < n) : ∀ (c b : Nat), al s (st s m) c b = st s m := by
  intro c
  induction c with
  | zero => intro b; rfl
  | succ c ih =>
    intro b
    unfold al
    by_cases hb : b ≤ st s m
    · rw [if_pos hb]
      by_cases hg : gb s (st s m - b) / 64 = 2
      · rw [if_pos hg]
        exact ih (b + 1)
      · rw [if_neg hg]
        by_cases hl : b < (Utf8.decode s (st s m - b)).2
        · rw [if_pos hl]
          by_cases h0 : b = 0
          · omega
          · exfalso
            obtain ⟨t, h1, h2, h3⟩ := h.cover m (by omega) (st s m - b) (by omega)
            by_cases he : st s t = st s m - b
            · have h4 := st_mono s (show t + 1 ≤ m by omega)
              simp only [st, he] at h3 h4
              omega
            · have := conts s (st s t) (st s m - b - st s t) (by omega) (by simp only [st] at h3; omega)
              rw [show st s t + (st s m - b - st s t) = st s m - b by omega] at this
              exact hg this.2
        · rw [if_neg hl]
    · rw [if_neg hb]
theorem al_in {s : ByteArray} {n m a : Nat} (h : Signs s n) (hm : m < n) (ha : st s m < a) (ha2 : a < st s (m + 1)) : ∀ (d c b : Nat), a - st s m = b + d → d + 1 ≤ c → al s a c b = st s m := by
  have hw : a < st s m + (Utf8.decode s (st s m)).2 := ha2
  intro d
  induction d with
  | zero =>
    intro c b hd hc
    obtain ⟨c, rfl⟩ : ∃ c', c = c' + 1 := ⟨c - 1, by omega⟩
    have e : a - b = st s m := by omega
    unfold al
    rw [if_pos (by omega), e, if_neg (conts s (st s m) 1 (by omega) (by omega)).1, if_pos (by omega)]
  | succ d ih =>
    intro c b hd hc
    obtain ⟨c, rfl⟩ : ∃ c', c = c' + 1 := ⟨c - 1, by omega⟩
    have hg := (conts s (st s m) (a - b - st s m) (by omega) (by omega)).2
    rw [show st s m + (a - b - st s m) = a - b by omega] at hg
    unfold al
    rw [if_pos (by omega), if_pos hg]
    exact ih c (b + 1) (by omega) (by omega)
theorem al_eq {s : ByteArray} {n m a : Nat} (h : Signs s n) (hm : m < n) (ha : st s m ≤ a) (ha2 : a < st s (m + 1)) : al s a 4 0 = st s m := by
  by_cases he : a = st s m
  · rw [he]
    exact al_start h hm 4 0
  · have h4 := width_le4 s (st s m)
    have hw : a < st s m + (Utf8.decode s (st s m)).2 := ha2
    exact al_in h hm (by omega) ha2 (a - st s m) 4 0 (by omega) (by omega)
/-- Which sign holds a place. -/
def At (s : ByteArray) (n : Nat) (a : Int) (j : Nat) : Prop := j ≤ n ∧ (a < 0 → j = 0) ∧ (0 ≤ a → a < (s.size : Int) → j < n ∧ (st s j : Int) ≤ a ∧ a < (st s (j + 1) : Int)) ∧ ((s.size : Int) ≤ a → j = n)
theorem At.ex {s : ByteArray} {n : Nat} (h : Signs s n) (a : Int) : ∃ j, At s n a j := by
  by_cases h0 : a < 0
  · exact ⟨0, by omega, fun _ => rfl, fun h1 => absurd h1 (by omega), fun h1 => absurd h1 (by omega)⟩
  · by_cases h1 : a < (s.size : Int)
    · have hl := h.last
      obtain ⟨t, e1, e2, e3⟩ := h.cover n (Nat.le_refl _) a.toNat (by omega)
      exact ⟨t, by omega, fun h => absurd h h0, fun _ _ => ⟨e1, by omega, by omega⟩, fun h => absurd h (by omega)⟩
    · exact ⟨n, by omega, fun h => absurd h h0, fun _ h => absurd h h1, fun _ => rfl⟩
theorem At.of {s : ByteArray} {n m : Nat} (h : Signs s n) (hm : m < n) {a : Int} (h1 : (st s m : Int) ≤ a) (h2 : a < (st s (m + 1) : Int)) : At s n a m := by
  have := h.le_size (show m + 1 ≤ n by omega)
  exact ⟨by omega, fun h => by omega, fun _ _ => ⟨hm, h1, h2⟩, fun h => by omega⟩
theorem st_zero (s : ByteArray) : st s 0 = 0 := rfl
/-- Where the line ends stand, and the end of the text. -/
def eL : List UInt8 → Nat → List Nat
  | [], p => [p]
  | c :: r, p => if c = 10 then p :: eL r (p + 1) else eL r (p + 1)
theorem eL_len : ∀ (l : List UInt8) (p : Nat), (eL l p).length = l.count 10 + 1 := by
  intro l
  induction l with
  | nil => intro p; rfl
  | cons c r ih =>
    intro p
    unfold eL
    by_cases hc : c = 10
    · subst hc
      rw [if_pos rfl, List.length_cons, ih, List.count_cons_self]
    · rw [if_neg hc, ih, List.count_cons_of_ne hc]
theorem eL_pos (l : List UInt8) (p : Nat) : 1 ≤ (eL l p).length := by rw [eL_len]; omega
theorem eL_hit (r : List UInt8) (p : Nat) : eL (10 :: r) p = p :: eL r (p + 1) := by simp [eL]
theorem eL_miss {c : UInt8} (h : ¬ c = 10) (r : List UInt8) (p : Nat) : eL (c :: r) p = eL r (p + 1) := by
  show (if c = 10 then p :: eL r (p + 1) else eL r (p + 1)) = _
  rw [if_neg h]
/-- The first line end, by Go's IndexByte. -/
theorem eL_index : ∀ (l : List UInt8) (p : Nat), (Lib.indexByte l 10 = -1 ∧ eL l p = [p + l.length]) ∨ ∃ i : Nat, Lib.indexByte l 10 = (i : Int) ∧ i < l.length ∧ eL l p = (p + i) :: eL (l.drop (i + 1)) (p + i + 1) := by
  intro l
  induction l with
  | nil => intro p; exact Or.inl ⟨rfl, rfl⟩
  | cons c r ih =>
    intro p
    have hx : Lib.indexByte (c :: r) 10 = if (c == 10) = true then 0 else if (Lib.indexByte r 10 == -1) = true then -1 else Lib.indexByte r 10 + 1 := rfl
    rw [hx]
    by_cases hc : c = 10
    · subst hc
      exact Or.inr ⟨0, by simp, by simp, by rw [eL_hit]; rfl⟩
    · have hb : (c == 10) = false := by rw [beq_eq_false_iff_ne]; exact hc
      rw [hb, if_neg (by decide), eL_miss hc]
      rcases ih (p + 1) with ⟨h1, h2⟩ | ⟨i, h1, h2, h3⟩
      · refine Or.inl ⟨by rw [h1]; rfl, ?_⟩
        rw [h2, List.length_cons, show p + 1 + r.length = p + (r.length + 1) by omega]
      · refine Or.inr ⟨i + 1, ?_, by rw [List.length_cons]; omega, ?_⟩
        · have : (Lib.indexByte r 10 == -1) = false := by rw [h1, beq_eq_false_iff_ne]; omega
          rw [this, if_neg (by decide), h1]
          rfl
        · rw [h3, List.drop_succ_cons, show p + 1 + i = p + (i + 1) by omega]
theorem eL_le : ∀ (l : List UInt8) (p : Nat), ∀ x ∈ eL l p, p ≤ x ∧ x ≤ p + l.length := by
  intro l
  induction l with
  | nil => intro p x hx; simp only [eL, List.mem_cons, List.not_mem_nil, or_false] at hx; simp; omega
  | cons c r ih =>
    intro p x hx
    unfold eL at hx
    rw [List.length_cons]
    split at hx
    · rcases List.mem_cons.1 hx with h | h
      · omega
      · have := ih (p + 1) x h
        omega
    · have := ih (p + 1) x hx
      omega
/-- The ends of a text's lines, and where they begin. -/
def ends (s : ByteArray) : List Nat := eL s.data.toList 0
def bF (s : ByteArray) (n : Nat) : Nat := if n = 0 then 0 else (ends s).getD (n - 1) 0 + 1
def bT (s : ByteArray) (n : Nat) : Nat := (ends s).getD n 0
theorem size_list (s : ByteArray) : s.size = s.data.toList.length := by rw [Array.length_toList]; rfl
theorem ends_pos (s : ByteArray) : 1 ≤ (ends s).length := eL_pos _ _
theorem ends_le (s : ByteArray) : (ends s).length ≤ s.size + 1 := by
  unfold ends
  rw [eL_len, size_list]
  have := List.count_le_length (a := (10 : UInt8)) (l := s.data.toList)
  omega
/-- From a line's beginning on, the ends are those of what is left. -/
theorem bF_tail (s : ByteArray) : ∀ n, n < (ends s).length → bF s n ≤ s.size ∧ eL (s.data.toList.drop (bF s n)) (bF s n) = (ends s).drop n := by
  intro n
  induction n with
  | zero => intro _; exact ⟨Nat.zero_le _, rfl⟩
  | succ n ih =>
    intro hn
    obtain ⟨h1, h2⟩ := ih (by omega)
    have hget : bF s (n + 1) = (ends s).getD n 0 + 1 := rfl
    rcases eL_index (s.data.toList.drop (bF s n)) (bF s n) with ⟨_, h4⟩ | ⟨i, h3, h4, h5⟩
    · rw [h2] at h4
      have := congrArg List.length h4
      rw [List.length_drop, List.length_cons, List.length_nil] at this
      omega
    · rw [h2, List.drop_eq_getElem_cons (by omega)] at h5
      simp only [List.cons.injEq] at h5
      have hg : (ends s).getD n 0 = bF s n + i := by
        rw [List.getD_eq_getElem?_getD, List.getElem?_eq_getElem (by omega), h5.1]
        rfl
      rw [List.length_drop, ← size_list] at h4
      rw [hget, hg]
      refine ⟨by omega, ?_⟩
      rw [h5.2, List.drop_drop]
      rfl
theorem bT_index (s : ByteArray) (n : Nat) (hn : n < (ends s).length) :
    (Lib.indexByte (s.data.toList.drop (bF s n)) 10 = -1 ∧ n + 1 = (ends s).length ∧ bT s n = s.size) ∨
    ∃ i : Nat, Lib.indexByte (s.data.toList.drop (bF s n)) 10 = (i : Int) ∧ n + 1 < (ends s).length ∧ bT s n = bF s n + i ∧ bF s n + i < s.size ∧ bF s (n + 1) = bF s n + i + 1 := by
  obtain ⟨h1, h2⟩ := bF_tail s n hn
  rcases eL_index (s.data.toList.drop (bF s n)) (bF s n) with ⟨h3, h4⟩ | ⟨i, h3, h4, h5⟩
  · left
    rw [h2] at h4
    have hl := congrArg List.length h4
    rw [List.length_drop, List.length_cons, List.length_nil] at hl
    rw [List.drop_eq_getElem_cons hn] at h4
    simp only [List.cons.injEq] at h4
    refine ⟨h3, by omega, ?_⟩
    unfold bT
    rw [List.getD_eq_getElem?_getD, List.getElem?_eq_getElem hn, h4.1, Option.getD_some, List.length_drop, ← size_list]
    omega
  · right
    rw [h2, List.drop_eq_getElem_cons hn] at h5
    simp only [List.cons.injEq] at h5
    have hg : bT s n = bF s n + i := by
      unfold bT
      rw [List.getD_eq_getElem?_getD, List.getElem?_eq_getElem hn, h5.1]
      rfl
    rw [List.length_drop, ← size_list] at h4
    have hp := eL_pos (s.data.toList.drop (bF s n) |>.drop (i + 1)) (bF s n + i + 1)
    rw [← h5.2, List.length_drop] at hp
    refine ⟨i, h3, by omega, hg, by omega, ?_⟩
    show (ends s).getD n 0 + 1 = _
    have : (ends s).getD n 0 = bT s n := rfl
    rw [this, hg]
theorem bT_le (s : ByteArray) (n : Nat) (hn : n < (ends s).length) : bF s n ≤ bT s n ∧ bT s n ≤ s.size := by
  have h1 := (bF_tail s n hn).1
  rcases bT_index s n hn with ⟨_, _, h⟩ | ⟨i, _, _, h, h', _⟩
  · omega
  · omega
theorem bT_last (s : ByteArray) (n : Nat) (hn : n < (ends s).length) : bT s n < s.size ↔ n + 1 < (ends s).length := by
  rcases bT_index s n hn with ⟨_, h1, h⟩ | ⟨i, _, h1, h, h', _⟩
  · omega
  · omega
/-- glyph.Align. -/
def alignZ (s : ByteArray) (a : Int) : Nat := if a < 0 then 0 else if a ≥ (s.size : Int) then s.size else al s a.toNat 4 0
/-- glyph.Class. -/
def classZ (r : Int) : Int :=
  if r = 32 ∨ r = 9 then 0 else if r = 10 then 3 else if (48 ≤ r ∧ r ≤ 57) ∨ (97 ≤ r ∧ r ≤ 122) ∨ (65 ≤ r ∧ r ≤ 90) ∨ r = 95 then 1 else if 128 ≤ r ∧ r ≤ 1114111 ∧ r ≠ 65533 then 1 else 2
def nE (s : ByteArray) : Nat := (ends s).length
def ofZ (s : ByteArray) (a : Int) : Nat := (s.data.toList.take (min (max a 0) (s.size : Int)).toNat).count 10
def intoZ (s : ByteArray) (n : Int) : Nat := (min (max n 0) ((nE s : Int) - 1)).toNat
def lastZ (s : ByteArray) (p q : Nat) : Nat := if p = q then p else alignZ s ((q : Int) - 1)
/-- The signs of a line. -/
def sub (s : ByteArray) (p q : Nat) : List (Nat × Nat × Nat) := scan (s.extract p q) (s.extract p q).size 0
/-- The rest of a line's signs, from one on: where the first one stands that is no blank. -/
def fstFrom (l : List (Nat × Nat × Nat)) (p d : Nat) : Nat := match l.find? (fun x => classZ (x.2.1 : Int) != 0) with | some x => p + x.1 | none => d
def plFrom (l : List (Nat × Nat × Nat)) (c : Int) (p d : Nat) : Nat := match l[(max c 0).toNat]? with | some x => p + x.1 | none => d
def firstZ (s : ByteArray) (n : Int) : Nat := fstFrom (sub s (bF s (intoZ s n)) (bT s (intoZ s n))) (bF s (intoZ s n)) (lastZ s (bF s (intoZ s n)) (bT s (intoZ s n)))
def placeZ (s : ByteArray) (n c : Int) : Nat := plFrom (sub s (bF s (intoZ s n)) (bT s (intoZ s n))) c (bF s (intoZ s n)) (lastZ s (bF s (intoZ s n)) (bT s (intoZ s n)))
def colZ (s : ByteArray) (a : Int) : Nat := (sub s (bF s (ofZ s (alignZ s a : Int))) (alignZ s a)).length
theorem decN_congr {n n' b0 b1 b2 b3 c1 c2 c3 : Nat} (h1 : (1 < n ∧ b1 / 64 = 2) ↔ (1 < n' ∧ c1 / 64 = 2)) (e1 : (1 < n ∧ b1 / 64 = 2) → b1 = c1)
    (h2 : (1 < n ∧ b1 / 64 = 2) → ((2 < n ∧ b2 / 64 = 2) ↔ (2 < n' ∧ c2 / 64 = 2))) (e2 : (2 < n ∧ b2 / 64 = 2) → b2 = c2)
    (h3 : (2 < n ∧ b2 / 64 = 2) → ((3 < n ∧ b3 / 64 = 2) ↔ (3 < n' ∧ c3 / 64 = 2))) (e3 : (3 < n ∧ b3 / 64 = 2) → b3 = c3) : Lib.decodeN n b0 b1 b2 b3 = Lib.decodeN n' b0 c1 c2 c3 := by
  unfold Lib.decodeN
  by_cases a1 : b0 < 128
  · rw [if_pos a1, if_pos a1]
  rw [if_neg a1, if_neg a1]
  by_cases k1 : 1 < n ∧ b1 / 64 = 2
  · have k1' := h1.1 k1
    have h2 := h2 k1
    have := e1 k1
    subst this
    by_cases a2 : b0 / 32 = 6
    · rw [if_pos (show b0 / 32 = 6 ∧ (1 < n ∧ b1 / 64 = 2) from ⟨a2, k1⟩), if_pos (show b0 / 32 = 6 ∧ (1 < n' ∧ b1 / 64 = 2) from ⟨a2, k1'⟩)]
    rw [if_neg (fun h : b0 / 32 = 6 ∧ (1 < n ∧ b1 / 64 = 2) => a2 h.1), if_neg (fun h : b0 / 32 = 6 ∧ (1 < n' ∧ b1 / 64 = 2) => a2 h.1)]
    by_cases k2 : 2 < n ∧ b2 / 64 = 2
    · have k2' := h2.1 k2
      have h3 := h3 k2
      have := e2 k2
      subst this
      by_cases a3 : b0 / 16 = 14
      · rw [if_pos (show b0 / 16 = 14 ∧ (1 < n ∧ b1 / 64 = 2) ∧ (2 < n ∧ b2 / 64 = 2) from ⟨a3, k1, k2⟩), if_pos (show b0 / 16 = 14 ∧ (1 < n' ∧ b1 / 64 = 2) ∧ (2 < n' ∧ b2 / 64 = 2) from ⟨a3, k1', k2'⟩)]
      rw [if_neg (fun h : b0 / 16 = 14 ∧ (1 < n ∧ b1 / 64 = 2) ∧ (2 < n ∧ b2 / 64 = 2) => a3 h.1), if_neg (fun h : b0 / 16 = 14 ∧ (1 < n' ∧ b1 / 64 = 2) ∧ (2 < n' ∧ b2 / 64 = 2) => a3 h.1)]
      by_cases k3 : 3 < n ∧ b3 / 64 = 2
      · have k3' := h3.1 k3
        have := e3 k3
        subst this
        by_cases a4 : b0 / 8 = 30
        · rw [if_pos (show b0 / 8 = 30 ∧ (1 < n ∧ b1 / 64 = 2) ∧ (2 < n ∧ b2 / 64 = 2) ∧ (3 < n ∧ b3 / 64 = 2) from ⟨a4, k1, k2, k3⟩), if_pos (show b0 / 8 = 30 ∧ (1 < n' ∧ b1 / 64 = 2) ∧ (2 < n' ∧ b2 / 64 = 2) ∧ (3 < n' ∧ b3 / 64 = 2) from ⟨a4, k1', k2', k3'⟩)]
        rw [if_neg (fun h : b0 / 8 = 30 ∧ (1 < n ∧ b1 / 64 = 2) ∧ (2 < n ∧ b2 / 64 = 2) ∧ (3 < n ∧ b3 / 64 = 2) => a4 h.1), if_neg (fun h : b0 / 8 = 30 ∧ (1 < n' ∧ b1 / 64 = 2) ∧ (2 < n' ∧ b2 / 64 = 2) ∧ (3 < n' ∧ b3 / 64 = 2) => a4 h.1)]
      · rw [if_neg (fun h : b0 / 8 = 30 ∧ (1 < n ∧ b1 / 64 = 2) ∧ (2 < n ∧ b2 / 64 = 2) ∧ (3 < n ∧ b3 / 64 = 2) => k3 h.2.2.2), if_neg (fun h : b0 / 8 = 30 ∧ (1 < n' ∧ b1 / 64 = 2) ∧ (2 < n' ∧ b2 / 64 = 2) ∧ (3 < n' ∧ c3 / 64 = 2) => k3 (h3.2 h.2.2.2))]
    · rw [if_neg (fun h : b0 / 16 = 14 ∧ (1 < n ∧ b1 / 64 = 2) ∧ (2 < n ∧ b2 / 64 = 2) => k2 h.2.2), if_neg (fun h : b0 / 16 = 14 ∧ (1 < n' ∧ b1 / 64 = 2) ∧ (2 < n' ∧ c2 / 64 = 2) => k2 (h2.2 h.2.2)), if_neg (fun h : b0 / 8 = 30 ∧ (1 < n ∧ b1 / 64 = 2) ∧ (2 < n ∧ b2 / 64 = 2) ∧ (3 < n ∧ b3 / 64 = 2) => k2 h.2.2.1), if_neg (fun h : b0 / 8 = 30 ∧ (1 < n' ∧ b1 / 64 = 2) ∧ (2 < n' ∧ c2 / 64 = 2) ∧ (3 < n' ∧ c3 / 64 = 2) => k2 (h2.2 h.2.2.1))]
  · rw [if_neg (fun h : b0 / 32 = 6 ∧ (1 < n ∧ b1 / 64 = 2) => k1 h.2), if_neg (fun h : b0 / 32 = 6 ∧ (1 < n' ∧ c1 / 64 = 2) => k1 (h1.2 h.2)), if_neg (fun h : b0 / 16 = 14 ∧ (1 < n ∧ b1 / 64 = 2) ∧ (2 < n ∧ b2 / 64 = 2) => k1 h.2.1), if_neg (fun h : b0 / 16 = 14 ∧ (1 < n' ∧ c1 / 64 = 2) ∧ (2 < n' ∧ c2 / 64 = 2) => k1 (h1.2 h.2.1)), if_neg (fun h : b0 / 8 = 30 ∧ (1 < n ∧ b1 / 64 = 2) ∧ (2 < n ∧ b2 / 64 = 2) ∧ (3 < n ∧ b3 / 64 = 2) => k1 h.2.1), if_neg (fun h : b0 / 8 = 30 ∧ (1 < n' ∧ c1 / 64 = 2) ∧ (2 < n' ∧ c2 / 64 = 2) ∧ (3 < n' ∧ c3 / 64 = 2) => k1 (h1.2 h.2.1))]
theorem decN_trunc {m m' b0 b1 b2 b3 c1 c2 c3 : Nat} (hm : 1 ≤ m) (hmm : m ≤ m') (e1 : 1 < m → b1 = c1) (e2 : 2 < m → b2 = c2) (e3 : 3 < m → b3 = c3)
    (s1 : m = 1 → ¬ c1 / 64 = 2) (s2 : m = 2 → ¬ c2 / 64 = 2) (s3 : m = 3 → ¬ c3 / 64 = 2) : Lib.decodeN m b0 b1 b2 b3 = Lib.decodeN m' b0 c1 c2 c3 := by
  refine decN_congr ⟨fun h => ⟨by omega, ?_⟩, fun h => ?_⟩ (fun h => e1 h.1) (fun k1 => ⟨fun h => ⟨by omega, ?_⟩, fun h => ?_⟩) (fun h => e2 h.1) (fun k2 => ⟨fun h => ⟨by omega, ?_⟩, fun h => ?_⟩) (fun h => e3 h.1)
  · rw [← e1 h.1]; exact h.2
  · by_cases hm1 : m = 1
    · exact absurd h.2 (s1 hm1)
    · exact ⟨by omega, by rw [e1 (by omega)]; exact h.2⟩
  · rw [← e2 h.1]; exact h.2
  · by_cases hm1 : m = 2
    · exact absurd h.2 (s2 hm1)
    · exact ⟨by omega, by rw [e2 (by omega)]; exact h.2⟩
  · rw [← e3 h.1]; exact h.2
  · by_cases hm1 : m = 3
    · exact absurd h.2 (s3 hm1)
    · exact ⟨by omega, by rw [e3 (by omega)]; exact h.2⟩
theorem gb_out (s : ByteArray) (i : Nat) (h : s.size ≤ i) : gb s i = 0 := by
  unfold gb
  have : s.get! i = (default : UInt8) := by
    show s.data[i]! = _
    rw [getElem!_neg s.data i (by show ¬ i < s.size; omega)]
  rw [this]
  rfl
theorem gb_sub (s : ByteArray) (p q j : Nat) (h : q ≤ s.size) (hp : p ≤ q) (hj : j < q - p) : gb (s.extract p q) j = gb s (p + j) := by
  unfold gb
  have := get_ext s p (q - p) j (by omega) hj
  rw [show p + (q - p) = q by omega] at this
  rw [this]
theorem size_sub (s : ByteArray) (p q : Nat) (h : q ≤ s.size) (hp : p ≤ q) : (s.extract p q).size = q - p := by
  rw [ByteArray.size_extract]
  omega
theorem dec_sub (s : ByteArray) (p q i : Nat) (h : q ≤ s.size) (hp : p ≤ q) (hi : i < q - p) (hq : ¬ gb s q / 64 = 2) : Utf8.decode (s.extract p q) i = Utf8.decode s (p + i) := by
  have h1 : Utf8.decode (s.extract p q) i = Lib.decodeN ((s.extract p q).size - i) (gb (s.extract p q) i) (gb (s.extract p q) (i + 1)) (gb (s.extract p q) (i + 2)) (gb (s.extract p q) (i + 3)) := Lib.decode_at _ _
  have h2 : Utf8.decode s (p + i) = Lib.decodeN (s.size - (p + i)) (gb s (p + i)) (gb s (p + i + 1)) (gb s (p + i + 2)) (gb s (p + i + 3)) := Lib.decode_at _ _
  rw [h1, h2, size_sub s p q h hp, gb_sub s p q i h hp hi]
  refine decN_trunc (by omega) (by omega) (fun hh => gb_sub s p q (i + 1) h hp (by omega)) (fun hh => gb_sub s p q (i + 2) h hp (by omega)) (fun hh => gb_sub s p q (i + 3) h hp (by omega)) ?_ ?_ ?_
  · intro hh
    rwa [show p + i + 1 = q by omega]
  · intro hh
    rwa [show p + i + 2 = q by omega]
  · intro hh
    rwa [show p + i + 3 = q by omega]
theorem st_sub (s : ByteArray) (p q a c : Nat) (h : q ≤ s.size) (hp : p ≤ q) (hq : ¬ gb s q / 64 = 2) (ha : st s a = p) (hs : Signs (s.extract p q) c) : ∀ t, t ≤ c → st s (a + t) = p + st (s.extract p q) t := by
  intro t
  induction t with
  | zero => intro _; exact ha
  | succ t ih =>
    intro ht
    have hl := hs.lt t (by omega)
    rw [size_sub s p q h hp] at hl
    show st s (a + t) + (Utf8.decode s (st s (a + t))).2 = p + (st (s.extract p q) t + (Utf8.decode (s.extract p q) (st (s.extract p q) t)).2)
    rw [ih (by omega), dec_sub s p q _ h hp hl hq, Nat.add_assoc]
theorem eL_nl : ∀ (l : List UInt8) (p : Nat), ∀ x ∈ eL l p, x < p + l.length → l[x - p]? = some 10 := by
  intro l
  induction l with
  | nil => intro p x hx h; simp only [eL, List.mem_cons, List.not_mem_nil, or_false] at hx; simp at h; omega
  | cons c r ih =>
    intro p x hx h
    have hle := eL_le r (p + 1) x
    rw [List.length_cons] at h
    unfold eL at hx
    split at hx
    · rename_i hc
      rcases List.mem_cons.1 hx with hh | hh
      · rw [hh, Nat.sub_self, hc]
        rfl
      · have h1 := (hle hh).1
        have := ih (p + 1) x hh (by omega)
        rw [show x - p = (x - (p + 1)) + 1 by omega, List.getElem?_cons_succ]
        exact this
    · have h1 := (hle hx).1
      have := ih (p + 1) x hx (by omega)
      rw [show x - p = (x - (p + 1)) + 1 by omega, List.getElem?_cons_succ]
      exact this
theorem gb_list (s : ByteArray) (i : Nat) (c : UInt8) (h : s.data.toList[i]? = some c) : gb s i = c.toNat := by
  unfold gb
  show (s.data[i]!).toNat = _
  rw [Array.getElem?_toList] at h
  rw [getElem!_def, h]
theorem bT_gb (s : ByteArray) (k : Nat) (hk : k < nE s) : (bT s k < s.size → gb s (bT s k) = 10) ∧ ¬ gb s (bT s k) / 64 = 2 := by
  have hle := bT_le s k hk
  have h1 : bT s k < s.size → gb s (bT s k) = 10 := by
    intro h
    have hm : bT s k ∈ ends s := by
      unfold bT
      rw [List.getD_eq_getElem?_getD, List.getElem?_eq_getElem (show k < (ends s).length from hk)]
      exact List.getElem_mem _
    have := eL_nl s.data.toList 0 _ hm (by rw [← size_list]; omega)
    rw [Nat.sub_zero] at this
    rw [gb_list s _ _ this]
    rfl
  refine ⟨h1, ?_⟩
  by_cases h : bT s k < s.size
  · rw [h1 h]
    decide
  · rw [gb_out s _ (by omega)]
    decide
/-- The signs of a line are the text's, from one number on. -/
structure LineSigns (s : ByteArray) (n k a c : Nat) : Prop where
  from_ : st s a = bF s k
  to_ : st s (a + c) = bT s k
  le : a + c ≤ n
  eq : sub s (bF s k) (bT s k) = (List.range c).map (fun t => (st s (a + t) - bF s k, Utf8.decode s (st s (a + t))))
theorem line_signs {s : ByteArray} {n : Nat} (h : Signs s n) : ∀ k, k < nE s → ∃ a c, LineSigns s n k a c := by
  have inj : ∀ {a b : Nat}, b ≤ n → st s a ≤ st s b → (st s a = st s b → a ≤ n → a = b) ∧ a ≤ n ∨ b ≤ a := by
    intro a b hb hab
    by_cases hc : a ≤ b
    · left
      refine ⟨fun he _ => ?_, by omega⟩
      by_cases hlt : a < b
      · have h1 := h.step (t := a) (by omega)
        have h2 := st_mono s (show a + 1 ≤ b by omega)
        omega
      · omega
    · right
      omega
  have one : ∀ k, k < nE s → ∀ a, a ≤ n → st s a = bF s k → ∃ c, LineSigns s n k a c := by
    intro k hk a han ha
    obtain ⟨h1, h2⟩ := bT_le s k hk
    obtain ⟨_, hq⟩ := bT_gb s k hk
    obtain ⟨c, hs⟩ := signs_ex (s.extract (bF s k) (bT s k))
    have hst := st_sub s _ _ a c h2 h1 hq ha hs
    have hsz := size_sub s _ _ h2 h1
    have hend := hst c (Nat.le_refl _)
    rw [hs.last, hsz] at hend
    refine ⟨c, ha, by omega, ?_, ?_⟩
    · rcases Nat.lt_or_ge n (a + c) with hc | hc
      · exfalso
        have h3 := hs.lt (n - a) (by omega)
        have h4 := hst (n - a) (by omega)
        rw [show a + (n - a) = n by omega, h.last] at h4
        rw [hsz] at h3
        omega
      · exact hc
    · unfold sub
      rw [hs.eq]
      refine List.map_congr_left (fun t ht => ?_)
      have ht := List.mem_range.1 ht
      have h3 := hs.lt t ht
      rw [hsz] at h3
      rw [hst t (by omega), dec_sub s _ _ _ h2 h1 h3 hq]
      congr 1
      omega
  intro k
  induction k with
  | zero =>
    intro hk
    obtain ⟨c, hc⟩ := one 0 hk 0 (Nat.zero_le _) rfl
    exact ⟨0, c, hc⟩
  | succ k ih =>
    intro hk
    obtain ⟨a, c, hl⟩ := ih (by omega)
    have hlt : bT s k < s.size := (bT_last s k (by unfold nE at hk; omega)).2 hk
    have h10 := (bT_gb s k (by omega)).1 hlt
    have hw : (Utf8.decode s (bT s k)).2 = 1 := by
      have : Utf8.decode s (bT s k) = Lib.decodeN (s.size - bT s k) (gb s (bT s k)) (gb s (bT s k + 1)) (gb s (bT s k + 2)) (gb s (bT s k + 3)) := Lib.decode_at _ _
      rw [this, h10]
      rfl
    have hn : a + c < n := by
      rcases Nat.lt_or_ge (a + c) n with hc | hc
      · exact hc
      · have : a + c = n := by have := hl.le; omega
        have h1 := hl.to_
        rw [this, h.last] at h1
        omega
    obtain ⟨c', hc'⟩ := one (k + 1) hk (a + c + 1) (by omega) (by
      show st s (a + c) + (Utf8.decode s (st s (a + c))).2 = _
      rw [hl.to_, hw]
      rfl)
    exact ⟨_, c', hc'⟩
theorem alignZ_eq {s : ByteArray} {n j : Nat} (h : Signs s n) {a : Int} (ha : At s n a j) : alignZ s a = st s j := by
  obtain ⟨hj, h1, h2, h3⟩ := ha
  unfold alignZ
  by_cases c0 : a < 0
  · rw [if_pos c0, h1 c0]
    rfl
  rw [if_neg c0]
  by_cases c1 : a ≥ (s.size : Int)
  · rw [if_pos c1, h3 c1, h.last]
  rw [if_neg c1]
  obtain ⟨e1, e2, e3⟩ := h2 (by omega) (by omega)
  exact al_eq h e1 (by omega) (by omega)
theorem alignZ_le (s : ByteArray) (a : Int) : alignZ s a ≤ s.size := by
  obtain ⟨n, h⟩ := signs_ex s
  obtain ⟨j, hj⟩ := At.ex h a
  rw [alignZ_eq h hj]
  exact h.le_size hj.1

end Go.Proofs.YtpajakfmahfpkaaDoor.Ext
