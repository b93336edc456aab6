/- Signs lie one behind the other, from the first byte to the last one: for every text. -/
import Derived.Test.YtodlhgpmenhnoaaDoorXGlyphCoversx2
import Derived.Test.YtodlhgpmenhnoaaDoorExt02S
import Derived.OpenShut
set_option linter.unusedVariables false
set_option linter.unusedSimpArgs false
namespace Go.Proofs.YtodlhgpmenhnoaaDoor.Pure
open Go.RowKit Go.Proofs.YtodlhgpmenhnoaaDoor.XGlyphCovers Go.Proofs.YtodlhgpmenhnoaaDoorW.PrintWords Go.Proofs.YtodlhgpmenhnoaaDoorW.PrintMore Go.Proofs.YtodlhgpmenhnoaaDoor.Ext

theorem tmodN (a b : Nat) : Int.tmod (a : Int) (b : Int) = ((a % b : Nat) : Int) := rfl
theorem tdivN (a b : Nat) : Int.tdiv (a : Int) (b : Int) = ((a / b : Nat) : Int) := rfl
theorem wrapN (a : Nat) (h : a < 9223372036854775808) : wrap64 (a : Int) = (a : Int) := by
  unfold wrap64
  omega
theorem wrapZ (a : Int) (h0 : -9223372036854775808 ≤ a) (h1 : a < 9223372036854775808) : wrap64 a = a := by
  unfold wrap64
  omega
/-- The byte of a text at a place, as a number. -/
def gb (s : ByteArray) (i : Nat) : Nat := (s.get! i).toNat
theorem gb_lt (s : ByteArray) (i : Nat) : gb s i < 256 := UInt8.toNat_lt _
theorem get_ext (s : ByteArray) (i n j : Nat) (h : i + n ≤ s.size) (hj : j < n) : (s.extract i (i + n)).get! j = s.get! (i + j) := by
  show (s.extract i (i + n)).data[j]! = s.data[i + j]!
  have hs : s.size = s.data.size := rfl
  rw [ByteArray.data_extract, getElem!_def, getElem!_def, Array.getElem?_extract, if_pos (by omega)]
theorem size_ext (s : ByteArray) (i n : Nat) (h : i + n ≤ s.size) : (s.extract i (i + n)).size = n := by
  rw [ByteArray.size_extract]
  omega
theorem bt_gb (x : ByteArray) (j : Nat) (hj : j < x.size) : bt x (j : Int) = ((gb x j : Nat) : Int) := by
  have h : ((j : Int).toNat) < x.size := by simpa using hj
  unfold bt gb
  rw [dif_pos h]
  have e : x[(j : Int).toNat]'h = x.get! j := by
    show x.data[j] = x.data[j]!
    rw [getElem!_pos x.data j hj]
  rw [e]
theorem list_bytes (x : ByteArray) : x.data.toList = (List.range x.size).map (fun j => x.get! j) := by
  apply List.ext_getElem?
  intro j
  have hs : x.size = x.data.size := rfl
  by_cases h : j < x.size
  · rw [List.getElem?_map, List.getElem?_range h]
    show x.data.toList[j]? = some x.data[j]!
    rw [getElem!_pos x.data j h]
    simp [hs ▸ h]
  · rw [List.getElem?_eq_none (by simp; omega), List.getElem?_eq_none (by simp; omega)]
theorem decN_le (n b0 b1 b2 b3 : Nat) : (Lib.decodeN n b0 b1 b2 b3).2 ≤ 4 := by
  unfold Lib.decodeN
  repeat' split
  all_goals (simp only; omega)
theorem decN_fits (n b0 b1 b2 b3 : Nat) (hn : 1 ≤ n) : (Lib.decodeN n b0 b1 b2 b3).2 ≤ n := by
  unfold Lib.decodeN
  repeat' split
  all_goals (simp only; omega)
theorem decN_rune (n b0 b1 b2 b3 : Nat) (h : b0 < 256) : (Lib.decodeN n b0 b1 b2 b3).1 ≤ 1114111 := by
  unfold Lib.decodeN
  repeat' split
  all_goals (simp only; omega)
theorem dec_le (s : ByteArray) (i : Nat) : (Utf8.decode s i).1 ≤ 1114111 := by
  rw [Lib.decode_at]
  exact decN_rune _ _ _ _ _ (UInt8.toNat_lt _)
theorem width_le4 (s : ByteArray) (i : Nat) : (Utf8.decode s i).2 ≤ 4 := by
  rw [Lib.decode_at]
  exact decN_le _ _ _ _ _
theorem width_fits (s : ByteArray) (i : Nat) (h : i < s.size) : i + (Utf8.decode s i).2 ≤ s.size := by
  rw [Lib.decode_at]
  have := decN_fits (s.size - i) (s.get! i).toNat (s.get! (i + 1)).toNat (s.get! (i + 2)).toNat (s.get! (i + 3)).toNat (by omega)
  omega
/-- Where the sign of a number begins. -/
def st (s : ByteArray) : Nat → Nat
  | 0 => 0
  | j + 1 => st s j + (Utf8.decode s (st s j)).2
theorem scan_st (s : ByteArray) : ∀ (b j : Nat), s.size ≤ st s j + b → st s j ≤ s.size →
    ∃ n, scan s b (st s j) = (List.range n).map (fun t => (st s (j + t), Utf8.decode s (st s (j + t)))) ∧ st s (j + n) = s.size ∧ ∀ t, t < n → st s (j + t) < s.size := by
  intro b
  induction b with
  | zero =>
    intro j h hj
    exact ⟨0, rfl, by simp only [Nat.add_zero]; omega, fun t ht => absurd ht (by omega)⟩
  | succ b ih =>
    intro j h hj
    by_cases hc : st s j < s.size
    · have hp := width_pos s _ hc
      have hf := width_fits s _ hc
      obtain ⟨n, h1, h2, h3⟩ := ih (j + 1) (by simp only [st]; omega) hf
      refine ⟨n + 1, ?_, by rw [← h2]; congr 1; omega, fun t ht => ?_⟩
      · rw [scan, if_pos hc, List.range_succ_eq_map, List.map_cons, List.map_map]
        have e : st s j + (Utf8.decode s (st s j)).2 = st s (j + 1) := rfl
        rw [e, h1]
        simp only [Nat.add_zero]
        congr 1
        refine List.map_congr_left (fun t _ => ?_)
        simp only [Function.comp]
        rw [show j + 1 + t = j + t.succ by omega]
      · cases t with
        | zero => exact hc
        | succ t => have := h3 t (by omega); rwa [show j + (t + 1) = j + 1 + t by omega]
    · refine ⟨0, ?_, by simp only [Nat.add_zero]; omega, fun t ht => absurd ht (by omega)⟩
      rw [scan, if_neg hc]
      rfl
/-- The signs of a text, by number. -/
structure Signs (s : ByteArray) (n : Nat) : Prop where
  eq : scan s s.size 0 = (List.range n).map (fun t => (st s t, Utf8.decode s (st s t)))
  last : st s n = s.size
  lt : ∀ t, t < n → st s t < s.size
theorem signs_ex (s : ByteArray) : ∃ n, Signs s n := by
  obtain ⟨n, h1, h2, h3⟩ := scan_st s s.size 0 (by simp) (by simp [st])
  simp only [Nat.zero_add] at h1 h2 h3
  exact ⟨n, h1, h2, h3⟩
theorem Signs.len {s : ByteArray} {n : Nat} (h : Signs s n) : (scan s s.size 0).length = n := by rw [h.eq]; simp
theorem Signs.le {s : ByteArray} {n : Nat} (h : Signs s n) : n ≤ s.size := by rw [← h.len]; exact scan_len s s.size 0
theorem st_mono (s : ByteArray) {a b : Nat} (h : a ≤ b) : st s a ≤ st s b := by
  induction h with
  | refl => exact Nat.le_refl _
  | step _ ih => simp only [st]; omega
theorem Signs.step {s : ByteArray} {n t : Nat} (h : Signs s n) (ht : t < n) : st s t < st s (t + 1) := by
  have := width_pos s _ (h.lt t ht)
  simp only [st]
  omega
theorem Signs.le_size {s : ByteArray} {n t : Nat} (h : Signs s n) (ht : t ≤ n) : st s t ≤ s.size := by
  rw [← h.last]
  exact st_mono s ht
theorem Signs.cover {s : ByteArray} {n : Nat} (h : Signs s n) : ∀ m, m ≤ n → ∀ a, a < st s m → ∃ t, t < m ∧ st s t ≤ a ∧ a < st s (t + 1) := by
  intro m
  induction m with
  | zero => intro _ a ha; simp [st] at ha
  | succ m ih =>
    intro hm a ha
    by_cases hc : a < st s m
    · obtain ⟨t, h1, h2, h3⟩ := ih (by omega) a hc
      exact ⟨t, by omega, h2, h3⟩
    · exact ⟨m, by omega, by omega, ha⟩
/-! The bytes of a sign: only its first one may begin a sign. -/
theorem decN_conts (n b0 b1 b2 b3 : Nat) : (2 ≤ (Lib.decodeN n b0 b1 b2 b3).2 → ¬ b0 / 64 = 2 ∧ b1 / 64 = 2) ∧ (3 ≤ (Lib.decodeN n b0 b1 b2 b3).2 → b2 / 64 = 2) ∧ (4 ≤ (Lib.decodeN n b0 b1 b2 b3).2 → b3 / 64 = 2) := by
  unfold Lib.decodeN
  repeat' split
  all_goals (simp only; omega)
theorem conts (s : ByteArray) (i t : Nat) (h1 : 1 ≤ t) (h2 : t < (Utf8.decode s i).2) : ¬ gb s i / 64 = 2 ∧ gb s (i + t) / 64 = 2 := by
  have h4 := width_le4 s i
  have hc := decN_conts (s.size - i) (gb s i) (gb s (i + 1)) (gb s (i + 2)) (gb s (i + 3))
  have hd : Utf8.decode s i = Lib.decodeN (s.size - i) (gb s i) (gb s (i + 1)) (gb s (i + 2)) (gb s (i + 3)) := Lib.decode_at s i
  rw [← hd] at hc
  obtain ⟨c1, c2, c3⟩ := hc
  refine ⟨(c1 (by omega)).1, ?_⟩
  rcases (by omega : t = 1 ∨ t = 2 ∨ t = 3) with rfl | rfl | rfl
  · exact (c1 (by omega)).2
  · exact c2 (by omega)
  · exact c3 (by omega)
theorem start_eq : ∀ b : Nat, b < 256 → ((Go.bits .and .u8 (b : Int) 192) != 128) = !(b / 64 == 2) := by decide +kernel
/-- glyph.Align's way back. -/
def al (s : ByteArray) (a : Nat) : Nat → Nat → Nat
  | 0, _ => a
  | n + 1, b => if b ≤ a then (if gb s (a - b) / 64 = 2 then al s a n (b + 1) else if b < (Utf8.decode s (a - b)).2 then a - b else a) else a
theorem suffix_dec (s : ByteArray) (i : Nat) (h : i < s.size) : utf8_DecodeRuneInString.f (s.extract i s.size) = some ((((Utf8.decode s i).1 : Nat) : Int), (((Utf8.decode s i).2 : Nat) : Int)) := by
  unfold utf8_DecodeRuneInString.f
  rw [suffix_decode s i h]
theorem align_loop (s : ByteArray) (a : Nat) (ha : a < s.size) (hs : s.size < 1000000) : ∀ (n b k : Nat), n + b = 4 → glyph_Align.l0 (n * 2 + k + 2) s (a : Int) (b : Int) = some ((al s a n b : Nat) : Int) := by
  intro n
  induction n with
  | zero =>
    intro b k hb
    rw [show 0 * 2 + k + 2 = (k + 1) + 1 by omega, glyph_Align.l0, if_neg (by omega), glyph_Align.j1, if_neg (by decide)]
    rfl
  | succ n ih =>
    intro b k hb
    rw [show (n + 1) * 2 + k + 2 = ((n * 2 + k + 2) + 1) + 1 by omega, glyph_Align.l0, if_pos (by omega)]
    have hal : al s a (n + 1) b = if b ≤ a then (if gb s (a - b) / 64 = 2 then al s a n (b + 1) else if b < (Utf8.decode s (a - b)).2 then a - b else a) else a := rfl
    rw [hal]
    by_cases hc : b ≤ a
    · have hd : decide ((b : Int) ≤ (a : Int)) = true := decide_eq_true (by omega)
      have hw : wrap64 ((a : Int) - (b : Int)) = ((a - b : Nat) : Int) := by rw [wrapZ _ (by omega) (by omega)]; omega
      have hw1 : wrap64 ((b : Int) + 1) = ((b + 1 : Nat) : Int) := by rw [wrapZ _ (by omega) (by omega)]; omega
      have c1 : (0 : Int) ≤ ((a - b : Nat) : Int) := by omega
      have c2 : ((a - b : Nat) : Int) < (s.size : Int) := by omega
      have c3 : ((a - b : Nat) : Int) ≤ (s.size : Int) := by omega
      rw [hd, glyph_Align.j1, if_pos rfl, hw, hw1, if_pos c1, if_pos c2, bt_gb s (a - b) (by omega)]
      unfold utf8_RuneStart.f
      rw [start_eq _ (gb_lt s _), Option.bind_some, if_pos hc]
      by_cases hg : gb s (a - b) / 64 = 2
      · rw [if_neg (by simp [hg]), if_pos hg]
        exact ih (b + 1) k (by omega)
      · rw [if_pos (by simp [hg]), if_neg hg, if_pos c3, Int.toNat_natCast, suffix_dec s (a - b) (by omega), Option.bind_some]
        simp only []
        by_cases hl : b < (Utf8.decode s (a - b)).2
        · rw [if_pos hl, if_pos (by omega)]
        · rw [if_neg hl, if_neg (by omega)]
    · have hd : decide ((b : Int) ≤ (a : Int)) = false := decide_eq_false (by omega)
      rw [hd, glyph_Align.j1, if_neg (by decide), if_neg hc]
theorem al_start {s : ByteArray} {n m : Nat} (h : Signs s n) (hm : m < n) : ∀ (c b : Nat), al s (st s m) c b = st s m := by
  intro c
  induction c with
  | zero => intro b; rfl
  | succ c ih =>
    intro b
    unfold al
    by_cases hb : b ≤ st s m
    · rw [if_pos hb]
      by_cases hg : gb s (st s m - b) / 64 = 2
      · rw [if_pos hg]
        exact ih (b + 1)
      · rw [if_neg hg]
        by_cases hl : b < (Utf8.decode s (st s m - b)).2
        · rw [if_pos hl]
          by_cases h0 : b = 0
          · omega
          · exfalso
            obtain ⟨t, h1, h2, h3⟩ := h.cover m (by omega) (st s m - b) (by omega)
            by_cases he : st s t = st s m - b
            · have h4 := st_mono s (show t + 1 ≤ m by omega)
              simp only [st, he] at h3 h4
              omega
            · have := conts s (st s t) (st s m - b - st s t) (by omega) (by simp only [st] at h3; omega)
              rw [show st s t + (st s m - b - st s t) = st s m - b by omega] at this
              exact hg this.2
        · rw [if_neg hl]
    · rw [if_neg hb]
theorem al_in {s : ByteArray} {n m a : Nat} (h : Signs s n) (hm : m < n) (ha : st s m < a) (ha2 : a < st s (m + 1)) : ∀ (d c b : Nat), a - st s m = b + d → d + 1 ≤ c → al s a c b = st s m := by
  have hw : a < st s m + (Utf8.decode s (st s m)).2 := ha2
  intro d
  induction d with
  | zero =>
    intro c b hd hc
    obtain ⟨c, rfl⟩ : ∃ c', c = c' + 1 := ⟨c - 1, by omega⟩
    have e : a - b = st s m := by omega
    unfold al
    rw [if_pos (by omega), e, if_neg (conts s (st s m) 1 (by omega) (by omega)).1, if_pos (by omega)]
  | succ d ih =>
    intro c b hd hc
    obtain ⟨c, rfl⟩ : ∃ c', c = c' + 1 := ⟨c - 1, by omega⟩
    have hg := (conts s (st s m) (a - b - st s m) (by omega) (by omega)).2
    rw [show st s m + (a - b - st s m) = a - b by omega] at hg
    unfold al
    rw [if_pos (by omega), if_pos hg]
    exact ih c (b + 1) (by omega) (by omega)
theorem al_eq {s : ByteArray} {n m a : Nat} (h : Signs s n) (hm : m < n) (ha : st s m ≤ a) (ha2 : a < st s (m + 1)) : al s a 4 0 = st s m := by
  by_cases he : a = st s m
  · rw [he]
    exact al_start h hm 4 0
  · have h4 := width_le4 s (st s m)
    have hw : a < st s m + (Utf8.decode s (st s m)).2 := ha2
    exact al_in h hm (by omega) ha2 (a - st s m) 4 0 (by omega) (by omega)
/-- Which sign holds a place. -/
def At (s : ByteArray) (n : Nat) (a : Int) (j : Nat) : Prop := j ≤ n ∧ (a < 0 → j = 0) ∧ (0 ≤ a → a < (s.size : Int) → j < n ∧ (st s j : Int) ≤ a ∧ a < (st s (j + 1) : Int)) ∧ ((s.size : Int) ≤ a → j = n)
theorem At.ex {s : ByteArray} {n : Nat} (h : Signs s n) (a : Int) : ∃ j, At s n a j := by
  by_cases h0 : a < 0
  · exact ⟨0, by omega, fun _ => rfl, fun h1 => absurd h1 (by omega), fun h1 => absurd h1 (by omega)⟩
  · by_cases h1 : a < (s.size : Int)
    · have hl := h.last
      obtain ⟨t, e1, e2, e3⟩ := h.cover n (Nat.le_refl _) a.toNat (by omega)
      exact ⟨t, by omega, fun h => absurd h h0, fun _ _ => ⟨e1, by omega, by omega⟩, fun h => absurd h (by omega)⟩
    · exact ⟨n, by omega, fun h => absurd h h0, fun _ h => absurd h h1, fun _ => rfl⟩
theorem At.of {s : ByteArray} {n m : Nat} (h : Signs s n) (hm : m < n) {a : Int} (h1 : (st s m : Int) ≤ a) (h2 : a < (st s (m + 1) : Int)) : At s n a m := by
  have := h.le_size (show m + 1 ≤ n by omega)
  exact ⟨by omega, fun h => by omega, fun _ _ => ⟨hm, h1, h2⟩, fun h => by omega⟩
theorem st_zero (s : ByteArray) : st s 0 = 0 := rfl
theorem align_eq {s : ByteArray} {n j : Nat} (h : Signs s n) (hs : s.size < 1000000) {a : Int} (ha : At s n a j) (k : Nat) : glyph_Align.f (k + 10) s a = some ((st s j : Nat) : Int) := by
  obtain ⟨hj, h1, h2, h3⟩ := ha
  unfold glyph_Align.f
  by_cases c0 : a < 0
  · rw [if_pos c0, h1 c0]
    rfl
  rw [if_neg c0]
  by_cases c1 : a ≥ (s.size : Int)
  · rw [if_pos c1, h3 c1, h.last]
  rw [if_neg c1]
  obtain ⟨e1, e2, e3⟩ := h2 (by omega) (by omega)
  obtain ⟨a, rfl⟩ : ∃ a' : Nat, a = a' := ⟨a.toNat, by omega⟩
  have := align_loop s a (by omega) hs 4 0 k (by omega)
  rw [show 4 * 2 + k + 2 = k + 10 by omega] at this
  rw [show (0 : Int) = ((0 : Nat) : Int) from rfl, this, al_eq h e1 (by omega) (by omega)]
theorem at_eq {s : ByteArray} {n j : Nat} (h : Signs s n) (hs : s.size < 1000000) {a : Int} (ha : At s n a j) (k : Nat) :
    glyph_At.f (k + 10) s a = some (if j < n then ((((Utf8.decode s (st s j)).1 : Nat) : Int), (((Utf8.decode s (st s j)).2 : Nat) : Int)) else (0, 0)) := by
  unfold glyph_At.f
  rw [align_eq h hs ha k, Option.bind_some]
  by_cases hc : j < n
  · have hl := h.lt j hc
    rw [if_neg (by omega), if_pos (by omega), if_pos (by omega), Int.toNat_natCast, suffix_dec s _ hl, Option.bind_some, if_pos hc]
  · have : j = n := by have := ha.1; omega
    rw [this, h.last, if_pos rfl, if_neg (by omega)]
theorem next_eq {s : ByteArray} {n j : Nat} (h : Signs s n) (hs : s.size < 1000000) {a : Int} (ha : At s n a j) (k : Nat) :
    glyph_Next.f (k + 10) s a = some (if j < n then ((st s (j + 1) : Nat) : Int) else (s.size : Int)) := by
  unfold glyph_Next.f
  rw [at_eq h hs ha k, Option.bind_some, align_eq h hs ha k, Option.bind_some]
  by_cases hc : j < n
  · have hl := h.le_size (show j + 1 ≤ n by omega)
    rw [if_pos hc, if_pos hc]
    simp only [st] at hl ⊢
    congr 1
    rw [wrapZ _ (by omega) (by omega)]
    omega
  · have : j = n := by have := ha.1; omega
    rw [if_neg hc, if_neg hc, this, h.last]
    congr 1
    rw [wrapZ _ (by omega) (by omega)]
    simp
theorem prev_eq {s : ByteArray} {n j : Nat} (h : Signs s n) (hs : s.size < 1000000) {a : Int} (ha : At s n a j) (k : Nat) :
    glyph_Prev.f (k + 10) s a = some (if j = 0 then 0 else ((st s (j - 1) : Nat) : Int)) := by
  unfold glyph_Prev.f
  have hsz := h.le_size ha.1
  have hw : wrap64 ((st s j : Int) - 1) = (st s j : Int) - 1 := wrapZ _ (by omega) (by omega)
  rw [align_eq h hs ha k, Option.bind_some, hw]
  by_cases hc : j = 0
  · subst hc
    rw [if_pos rfl, align_eq h hs (j := 0) ⟨by omega, fun _ => rfl, fun h0 => by simp [st] at h0, fun h0 => by simp [st] at h0; omega⟩ k]
    rfl
  · have hj := ha.1
    have hst := h.step (t := j - 1) (by omega)
    rw [show j - 1 + 1 = j by omega] at hst
    rw [if_neg hc, align_eq h hs (At.of h (m := j - 1) (by omega) (by omega) (by rw [show j - 1 + 1 = j by omega]; omega)) k]
    rfl
theorem alive_eq (k : Nat) : bureaulaw02_alive.f (k + 20) = some true := by
  have h : bureaulaw02_alive.f 20 = some true := by decide +kernel
  induction k with
  | zero => exact h
  | succ k ih =>
    have := bureaulaw02_alive.mono (k + 20) true ih
    rwa [show k + 1 + 20 = k + 20 + 1 by omega]
theorem decN_err (n b0 b1 b2 b3 : Nat) (h : (Lib.decodeN n b0 b1 b2 b3).1 = 65533) : (Lib.decodeN n b0 b1 b2 b3).2 = 1 ∨ (Lib.decodeN n b0 b1 b2 b3).2 = 3 := by
  revert h
  unfold Lib.decodeN
  repeat' split
  all_goals (intro h; first | (dsimp only at h ⊢; omega) | simp)
theorem dec_err (s : ByteArray) (i : Nat) (h : (Utf8.decode s i).1 = 65533) : (Utf8.decode s i).2 = 1 ∨ (Utf8.decode s i).2 = 3 := by
  rw [Lib.decode_at] at h ⊢
  exact decN_err _ _ _ _ _ h
theorem rd_nat (xs : List Int) (i : Nat) (h : i < xs.length) : rd xs (i : Int) = xs[i] := by
  unfold rd
  rw [Int.toNat_natCast, List.getD_eq_getElem?_getD, List.getElem?_eq_getElem h]
  rfl
theorem inner (s : ByteArray) (xs : List Int) (m jj : Int) (r : Option Bool) (K p w : Nat) (hs : p + w < 1000000)
    (hal : ∀ a k : Nat, p ≤ a → a < p + w → glyph_Align.f (k + 10) s (a : Int) = some ((p : Nat) : Int))
    (hr : ∀ k, K ≤ k → bureaulaw02_GlyphCovers.l0 k s ((p + w : Nat) : Int) xs m (wrap64 (jj + 1)) = r) :
    ∀ (c a k : Nat), a + c = p + w → p ≤ a → K + c + 11 ≤ k → bureaulaw02_GlyphCovers.l1 k s (p : Int) (w : Int) (a : Int) xs m jj = r := by
  have hend : wrap64 ((p : Int) + (w : Int)) = ((p + w : Nat) : Int) := by
    rw [wrapZ _ (by omega) (by omega)]
    omega
  intro c
  induction c with
  | zero =>
    intro a k ha hb hk
    obtain ⟨k, rfl⟩ : ∃ k', k = k' + 1 := ⟨k - 1, by omega⟩
    rw [bureaulaw02_GlyphCovers.l1, hend, if_neg (by omega)]
    exact hr k (by omega)
  | succ c ih =>
    intro a k ha hb hk
    obtain ⟨k, rfl⟩ : ∃ k', k = k' + 1 := ⟨k - 1, by omega⟩
    have hal := hal a (k - 10) (by omega) (by omega)
    rw [show k - 10 + 10 = k by omega] at hal
    have hwa : wrap64 ((a : Int) + 1) = ((a + 1 : Nat) : Int) := by rw [wrapZ _ (by omega) (by omega)]; omega
    rw [bureaulaw02_GlyphCovers.l1, hend, if_pos (by omega), hal, Option.bind_some, if_pos rfl, hwa]
    exact ih (a + 1) k (by omega) (by omega) (by omega)
theorem outer_step (s : ByteArray) (xs : List Int) (n j k p w R : Nat) (prev : Int) (hn : n < 1000000) (hs : p + w < 1000000) (hlen : xs.length = n) (hjn : j < n) (hrd : rd xs (j : Int) = (p : Int)) (w1 : 1 ≤ w) (w4 : w ≤ 4) (hR : R = 65533 → w = 1 ∨ w = 3)
    (eA : glyph_At.f (k + 1) s (p : Int) = some ((R : Int), (w : Int))) (eN : glyph_Next.f (k + 1) s (p : Int) = some ((p + w : Nat) : Int))
    (eP : glyph_Prev.f (k + 1) s (p : Int) = some prev) (hprev : 0 < j → prev < (p : Int))
    (hin : bureaulaw02_GlyphCovers.l1 k s (p : Int) (w : Int) (p : Int) xs (n : Int) (j : Int) = some true) :
    bureaulaw02_GlyphCovers.l0 (k + 2) s (p : Int) xs (n : Int) (j : Int) = some true := by
  have hend : wrap64 ((p : Int) + (w : Int)) = ((p + w : Nat) : Int) := by
    rw [wrapZ _ (by omega) (by omega)]
    omega
  have hj1 : bureaulaw02_GlyphCovers.j1 (k + 1) s (p : Int) (w : Int) xs (n : Int) (j : Int) false = some true := by
    rw [bureaulaw02_GlyphCovers.j1, if_neg (by decide)]
    exact hin
  have hdir : (if (R : Int) = 65533 then (if (w : Int) = 1 then (bureaulaw02_GlyphCovers.j1 (k + 1) s (p : Int) (w : Int) xs (n : Int) (j : Int) false) else (bureaulaw02_GlyphCovers.j1 (k + 1) s (p : Int) (w : Int) xs (n : Int) (j : Int) ((w : Int) != 3))) else (bureaulaw02_GlyphCovers.j1 (k + 1) s (p : Int) (w : Int) xs (n : Int) (j : Int) false)) = some true := by
    by_cases hr : R = 65533
    · rw [if_pos (by omega)]
      rcases hR hr with h1 | h1
      · rw [if_pos (by omega)]
        exact hj1
      · rw [if_neg (by omega)]
        have e3 : ((w : Int) != 3) = false := by rw [h1]; rfl
        rw [e3]
        exact hj1
    · rw [if_neg (by omega)]
      exact hj1
  rw [show k + 2 = k + 1 + 1 from rfl, bureaulaw02_GlyphCovers.l0, if_pos (by omega), if_pos (by omega), if_pos (by omega), eA, Option.bind_some, hrd, if_pos rfl]
  simp only []
  rw [if_neg (by omega), if_neg (by omega), eN, Option.bind_some, if_pos hend.symm]
  by_cases h0 : j = 0
  · rw [if_neg (by omega)]
    exact hdir
  · rw [if_pos (by omega), eP, Option.bind_some, if_neg (by have := hprev (by omega); omega)]
    exact hdir
theorem outer {s : ByteArray} {n : Nat} (h : Signs s n) (hs : s.size < 900000) (xs : List Int) (hx : xs = (List.range n).map (fun t => ((st s t : Nat) : Int))) :
    ∀ (c j k : Nat), j + c = n → c * 20 + 20 ≤ k → bureaulaw02_GlyphCovers.l0 k s ((st s j : Nat) : Int) xs ((n : Nat) : Int) (j : Int) = some true := by
  have hlen : xs.length = n := by rw [hx]; simp
  have hn := h.le
  have hN : n < 1000000 := by omega
  intro c
  induction c with
  | zero =>
    intro j k hj hk
    obtain ⟨k, rfl⟩ : ∃ k', k = k' + 1 := ⟨k - 1, by omega⟩
    rw [bureaulaw02_GlyphCovers.l0, if_neg (by omega), show j = n by omega, h.last]
    simp
  | succ c ih =>
    intro j k hj hk
    obtain ⟨k, rfl⟩ : ∃ k', k = k' + 2 := ⟨k - 2, by omega⟩
    have hjn : j < n := by omega
    have hw1 : wrap64 ((j : Int) + 1) = ((j + 1 : Nat) : Int) := by rw [wrapZ _ (by omega) (by omega)]; omega
    have hlt := h.lt j hjn
    have hw := width_pos s _ hlt
    have h4 := width_le4 s (st s j)
    have hle := h.le_size (show j + 1 ≤ n by omega)
    have hrd : rd xs (j : Int) = ((st s j : Nat) : Int) := by
      rw [rd_nat xs j (by rw [hlen]; exact hjn)]
      simp only [hx, List.getElem_map, List.getElem_range]
    have hA : At s n ((st s j : Nat) : Int) j := At.of h hjn (Int.le_refl _) (Int.ofNat_lt.2 (h.step hjn))
    have hs2 : s.size < 1000000 := by omega
    have hk10 : k + 1 - 10 + 10 = k + 1 := by omega
    have eA := at_eq h hs2 hA (k + 1 - 10)
    have eN := next_eq h hs2 hA (k + 1 - 10)
    have eP := prev_eq h hs2 hA (k + 1 - 10)
    rw [hk10, if_pos hjn] at eA eN
    rw [hk10] at eP
    have hE := dec_err s (st s j)
    have hal : ∀ a k : Nat, st s j ≤ a → a < st s (j + 1) → glyph_Align.f (k + 10) s (a : Int) = some ((st s j : Nat) : Int) := fun a k h1 h2 =>
      align_eq h hs2 (At.of h hjn (Int.ofNat_le.2 h1) (Int.ofNat_lt.2 h2)) k
    have hnext := fun k hk => ih (j + 1) k (by omega) hk
    have hprev : 0 < j → (if j = 0 then (0 : Int) else ((st s (j - 1) : Nat) : Int)) < ((st s j : Nat) : Int) := fun h0 => by
      have hp := h.step (t := j - 1) (by omega)
      rw [show j - 1 + 1 = j by omega] at hp
      rw [if_neg (by omega)]
      exact Int.ofNat_lt.2 hp
    have hq : st s (j + 1) = st s j + (Utf8.decode s (st s j)).2 := rfl
    rw [hq] at hle eN hal hnext
    generalize Utf8.decode s (st s j) = d at *
    obtain ⟨R, w⟩ := d
    simp only [] at *
    generalize (if j = 0 then (0 : Int) else ((st s (j - 1) : Nat) : Int)) = prev at *
    generalize st s j = p at *
    clear hq hlt hA h hx ih
    have hpw : p + w < 1000000 := Nat.lt_of_le_of_lt hle hs2
    refine outer_step s xs n j k p w R prev hN hpw hlen hjn hrd hw h4 hE eA eN eP hprev ?_
    refine inner s xs (n : Int) (j : Int) (some true) (c * 20 + 20) p w hpw hal (fun k hk => ?_) w p k rfl (Nat.le_refl _) (by clear eA eN eP hal hnext hE hprev hrd; omega)
    rw [hw1]
    exact hnext k hk
theorem GlyphCovers : bureaulaw02_GlyphCovers.Pure := by
  intro s _
  refine ⟨s.size * 20 + 20, ?_⟩
  unfold bureaulaw02_GlyphCovers.f
  rw [alive_eq, Option.bind_some, if_pos rfl]
  by_cases hs : (s.size : Int) > 4096
  · rw [if_pos hs]
  rw [if_neg hs]
  obtain ⟨n, h⟩ := signs_ex s
  have hn := h.le
  have h1 : glyph_Starts.f s = some ((List.range n).map (fun t => ((st s t : Nat) : Int))) := by
    unfold glyph_Starts.f
    rw [if_pos (by omega), h.eq, List.map_map]
    rfl
  rw [h1, Option.bind_some]
  have := outer h (by omega) _ rfl n 0 (s.size * 20 + 20) (by omega) (by omega)
  rw [show (((List.range n).map (fun t => ((st s t : Nat) : Int))).length : Int) = ((n : Nat) : Int) by simp]
  exact this

end Go.Proofs.YtodlhgpmenhnoaaDoor.Pure
