/- Bytes without a broken sign are those of their runes, and no others: for every text. -/
import Derived.Test.YtodlhgpmenhnoaaDoorXGlyphBackx2
import Derived.Test.YtodlhgpmenhnoaaDoorExt02S
import Derived.OpenShut
set_option linter.unusedVariables false
set_option linter.unusedSimpArgs false
namespace Go.Proofs.YtodlhgpmenhnoaaDoor.Pure
open Go.RowKit Go.Proofs.YtodlhgpmenhnoaaDoor.XGlyphBack Go.Proofs.YtodlhgpmenhnoaaDoorW.PrintWords Go.Proofs.YtodlhgpmenhnoaaDoorW.PrintMore Go.Proofs.YtodlhgpmenhnoaaDoor.Ext

theorem tmodN (a b : Nat) : Int.tmod (a : Int) (b : Int) = ((a % b : Nat) : Int) := rfl
theorem tdivN (a b : Nat) : Int.tdiv (a : Int) (b : Int) = ((a / b : Nat) : Int) := rfl
theorem wrapN (a : Nat) (h : a < 9223372036854775808) : wrap64 (a : Int) = (a : Int) := by
  unfold wrap64
  omega
theorem wrapZ (a : Int) (h0 : -9223372036854775808 ≤ a) (h1 : a < 9223372036854775808) : wrap64 a = a := by
  unfold wrap64
  omega
/-- The byte of a text at a place, as a number. -/
def gb (s : ByteArray) (i : Nat) : Nat := (s.get! i).toNat
theorem gb_lt (s : ByteArray) (i : Nat) : gb s i < 256 := UInt8.toNat_lt _
theorem get_ext (s : ByteArray) (i n j : Nat) (h : i + n ≤ s.size) (hj : j < n) : (s.extract i (i + n)).get! j = s.get! (i + j) := by
  show (s.extract i (i + n)).data[j]! = s.data[i + j]!
  have hs : s.size = s.data.size := rfl
  rw [ByteArray.data_extract, getElem!_def, getElem!_def, Array.getElem?_extract, if_pos (by omega)]
theorem size_ext (s : ByteArray) (i n : Nat) (h : i + n ≤ s.size) : (s.extract i (i + n)).size = n := by
  rw [ByteArray.size_extract]
  omega
theorem bt_gb (x : ByteArray) (j : Nat) (hj : j < x.size) : bt x (j : Int) = ((gb x j : Nat) : Int) := by
  have h : ((j : Int).toNat) < x.size := by simpa using hj
  unfold bt gb
  rw [dif_pos h]
  have e : x[(j : Int).toNat]'h = x.get! j := by
    show x.data[j] = x.data[j]!
    rw [getElem!_pos x.data j hj]
  rw [e]
theorem list_bytes (x : ByteArray) : x.data.toList = (List.range x.size).map (fun j => x.get! j) := by
  apply List.ext_getElem?
  intro j
  have hs : x.size = x.data.size := rfl
  by_cases h : j < x.size
  · rw [List.getElem?_map, List.getElem?_range h]
    show x.data.toList[j]? = some x.data[j]!
    rw [getElem!_pos x.data j h]
    simp [hs ▸ h]
  · rw [List.getElem?_eq_none (by simp; omega), List.getElem?_eq_none (by simp; omega)]
/-! The numbers' bytes. -/
def enc (r : Nat) : List Nat :=
  if r < 128 then [r] else if r < 2048 then [192 + r / 64, 128 + r % 64] else if r < 65536 then [224 + r / 4096, 128 + r / 64 % 64, 128 + r % 64] else [240 + r / 262144, 128 + r / 4096 % 64, 128 + r / 64 % 64, 128 + r % 64]
def mayN (r : Nat) : Bool := r ≤ 1114111 && (r < 55296 || 57344 ≤ r)
theorem enc_lt {r : Nat} (h : r ≤ 1114111) : ∀ x ∈ enc r, x < 256 := by
  unfold enc
  intro x hx
  split at hx
  · simp only [List.mem_cons, List.not_mem_nil, or_false] at hx
    omega
  split at hx
  · simp only [List.mem_cons, List.not_mem_nil, or_false] at hx
    omega
  split at hx
  · simp only [List.mem_cons, List.not_mem_nil, or_false] at hx
    omega
  · simp only [List.mem_cons, List.not_mem_nil, or_false] at hx
    omega
/-! What the document's 'number' reads, and which so many bytes are a sign. -/
def numN (n b0 b1 b2 b3 : Nat) : Nat :=
  if n = 1 then b0 else if n = 2 then b0 % 32 * 64 + b1 % 64 else if n = 3 then (b0 % 16 * 64 + b1 % 64) * 64 + b2 % 64 else ((b0 % 8 * 64 + b1 % 64) * 64 + b2 % 64) * 64 + b3 % 64
theorem num1 (b0 b1 b2 b3 : Nat) : numN 1 b0 b1 b2 b3 = b0 := rfl
theorem num2 (b0 b1 b2 b3 : Nat) : numN 2 b0 b1 b2 b3 = b0 % 32 * 64 + b1 % 64 := rfl
theorem num3 (b0 b1 b2 b3 : Nat) : numN 3 b0 b1 b2 b3 = (b0 % 16 * 64 + b1 % 64) * 64 + b2 % 64 := rfl
theorem num4 (b0 b1 b2 b3 : Nat) : numN 4 b0 b1 b2 b3 = ((b0 % 8 * 64 + b1 % 64) * 64 + b2 % 64) * 64 + b3 % 64 := rfl
def okN (n b0 b1 b2 b3 : Nat) : Bool := mayN (numN n b0 b1 b2 b3) && enc (numN n b0 b1 b2 b3) == [b0, b1, b2, b3].take n
theorem ok1 {b0 : Nat} (b1 b2 b3 : Nat) (h0 : b0 < 256) : okN 1 b0 b1 b2 b3 = decide (b0 < 128) := by
  unfold okN mayN enc numN
  rw [if_pos rfl, Bool.eq_iff_iff]
  simp only [Bool.and_eq_true, Bool.or_eq_true, decide_eq_true_eq, beq_iff_eq, List.take_succ_cons, List.take_zero]
  constructor
  · rintro ⟨_, h⟩
    split at h
    · assumption
    · exfalso
      split at h
      · simp only [List.cons.injEq] at h
        exact absurd h.2 (by simp)
      split at h
      · simp only [List.cons.injEq] at h
        exact absurd h.2 (by simp)
      · simp only [List.cons.injEq] at h
        exact absurd h.2 (by simp)
  · intro h
    exact ⟨by omega, by rw [if_pos h]⟩
theorem ok2 {b0 b1 : Nat} (b2 b3 : Nat) (h0 : b0 < 256) (h1 : b1 < 256) : okN 2 b0 b1 b2 b3 = decide (b0 / 32 = 6 ∧ b1 / 64 = 2 ∧ 128 ≤ b0 % 32 * 64 + b1 % 64) := by
  unfold okN mayN enc numN
  rw [if_neg (by omega), if_pos rfl, Bool.eq_iff_iff]
  simp only [Bool.and_eq_true, Bool.or_eq_true, decide_eq_true_eq, beq_iff_eq, List.take_succ_cons, List.take_zero]
  generalize hr : b0 % 32 * 64 + b1 % 64 = r
  constructor
  · rintro ⟨_, h⟩
    split at h
    · cases h
    split at h
    · simp only [List.cons.injEq, and_true] at h
      omega
    split at h
    · cases h
    · cases h
  · intro h
    refine ⟨by omega, ?_⟩
    rw [if_neg (by omega), if_pos (by omega)]
    simp only [List.cons.injEq, and_true]
    omega
theorem ok3 {b0 b1 b2 : Nat} (b3 : Nat) (h0 : b0 < 256) (h1 : b1 < 256) (h2 : b2 < 256) : okN 3 b0 b1 b2 b3 =
    decide (b0 / 16 = 14 ∧ b1 / 64 = 2 ∧ b2 / 64 = 2 ∧ 2048 ≤ b0 % 16 * 4096 + b1 % 64 * 64 + b2 % 64 ∧ (b0 % 16 * 4096 + b1 % 64 * 64 + b2 % 64 < 55296 ∨ 57344 ≤ b0 % 16 * 4096 + b1 % 64 * 64 + b2 % 64)) := by
  unfold okN mayN enc numN
  rw [if_neg (by omega), if_neg (by omega), if_pos rfl, Bool.eq_iff_iff]
  simp only [Bool.and_eq_true, Bool.or_eq_true, decide_eq_true_eq, beq_iff_eq, List.take_succ_cons, List.take_zero]
  rw [show (b0 % 16 * 64 + b1 % 64) * 64 + b2 % 64 = b0 % 16 * 4096 + b1 % 64 * 64 + b2 % 64 by omega]
  generalize hr : b0 % 16 * 4096 + b1 % 64 * 64 + b2 % 64 = r
  constructor
  · rintro ⟨_, h⟩
    split at h
    · cases h
    split at h
    · cases h
    split at h
    · simp only [List.cons.injEq, and_true] at h
      omega
    · cases h
  · intro h
    refine ⟨by omega, ?_⟩
    rw [if_neg (by omega), if_neg (by omega), if_pos (by omega)]
    simp only [List.cons.injEq, and_true]
    omega
theorem ok4 {b0 b1 b2 b3 : Nat} (h0 : b0 < 256) (h1 : b1 < 256) (h2 : b2 < 256) (h3 : b3 < 256) : okN 4 b0 b1 b2 b3 =
    decide (b0 / 8 = 30 ∧ b1 / 64 = 2 ∧ b2 / 64 = 2 ∧ b3 / 64 = 2 ∧ 65536 ≤ b0 % 8 * 262144 + b1 % 64 * 4096 + b2 % 64 * 64 + b3 % 64 ∧ b0 % 8 * 262144 + b1 % 64 * 4096 + b2 % 64 * 64 + b3 % 64 ≤ 1114111) := by
  unfold okN mayN enc numN
  rw [if_neg (by omega), if_neg (by omega), if_neg (by omega), Bool.eq_iff_iff]
  simp only [Bool.and_eq_true, Bool.or_eq_true, decide_eq_true_eq, beq_iff_eq, List.take_succ_cons, List.take_zero]
  rw [show ((b0 % 8 * 64 + b1 % 64) * 64 + b2 % 64) * 64 + b3 % 64 = b0 % 8 * 262144 + b1 % 64 * 4096 + b2 % 64 * 64 + b3 % 64 by omega]
  generalize hr : b0 % 8 * 262144 + b1 % 64 * 4096 + b2 % 64 * 64 + b3 % 64 = r
  constructor
  · rintro ⟨_, h⟩
    split at h
    · cases h
    split at h
    · cases h
    split at h
    · cases h
    · simp only [List.cons.injEq, and_true] at h
      omega
  · intro h
    refine ⟨by omega, ?_⟩
    rw [if_neg (by omega), if_neg (by omega), if_neg (by omega)]
    simp only [List.cons.injEq, and_true]
    omega
/-- The model's decoding, by which so many bytes are a sign. -/
def firstOk (m b0 b1 b2 b3 : Nat) : Nat × Nat × Bool :=
  if okN 1 b0 b1 b2 b3 = true then (numN 1 b0 b1 b2 b3, 1, true)
  else if 2 ≤ m ∧ okN 2 b0 b1 b2 b3 = true then (numN 2 b0 b1 b2 b3, 2, true)
  else if 3 ≤ m ∧ okN 3 b0 b1 b2 b3 = true then (numN 3 b0 b1 b2 b3, 3, true)
  else if 4 ≤ m ∧ okN 4 b0 b1 b2 b3 = true then (numN 4 b0 b1 b2 b3, 4, true)
  else (65533, 1, false)
theorem first_decode {m b0 b1 b2 b3 : Nat} (h0 : b0 < 256) (h1 : b1 < 256) (h2 : b2 < 256) (h3 : b3 < 256) :
    firstOk m b0 b1 b2 b3 = ((Lib.decodeN m b0 b1 b2 b3).1, (Lib.decodeN m b0 b1 b2 b3).2, whole (0, Lib.decodeN m b0 b1 b2 b3)) := by
  unfold firstOk
  rw [ok1 b1 b2 b3 h0, ok2 b2 b3 h0 h1, ok3 b3 h0 h1 h2, ok4 h0 h1 h2 h3]
  simp only [decide_eq_true_eq]
  have n1 : numN 1 b0 b1 b2 b3 = b0 := rfl
  have n2 : numN 2 b0 b1 b2 b3 = b0 % 32 * 64 + b1 % 64 := rfl
  have n3 : numN 3 b0 b1 b2 b3 = b0 % 16 * 4096 + b1 % 64 * 64 + b2 % 64 := by unfold numN; rw [if_neg (by omega), if_neg (by omega), if_pos rfl]; omega
  have n4 : numN 4 b0 b1 b2 b3 = b0 % 8 * 262144 + b1 % 64 * 4096 + b2 % 64 * 64 + b3 % 64 := by unfold numN; rw [if_neg (by omega), if_neg (by omega), if_neg (by omega)]; omega
  rw [n1, n2, n3, n4]
  unfold Lib.decodeN
  by_cases c1 : b0 < 128
  · rw [if_pos c1, if_pos c1]
    have : (b0 == 65533) = false := by rw [beq_eq_false_iff_ne]; omega
    simp [whole, this]
  rw [if_neg c1, if_neg c1]
  by_cases c2 : b0 / 32 = 6 ∧ (1 < m ∧ b1 / 64 = 2)
  · rw [if_pos c2]
    by_cases d2 : b0 % 32 * 64 + b1 % 64 ≥ 128
    · rw [if_pos d2, if_pos (by omega)]
      simp [whole]
    · rw [if_neg d2, if_neg (by omega), if_neg (by omega), if_neg (by omega)]
      rfl
  rw [if_neg c2, if_neg (by omega)]
  by_cases c3 : b0 / 16 = 14 ∧ (1 < m ∧ b1 / 64 = 2) ∧ (2 < m ∧ b2 / 64 = 2)
  · rw [if_pos c3]
    by_cases d3 : b0 % 16 * 4096 + b1 % 64 * 64 + b2 % 64 ≥ 2048 ∧ (b0 % 16 * 4096 + b1 % 64 * 64 + b2 % 64 < 55296 ∨ (57344 ≤ b0 % 16 * 4096 + b1 % 64 * 64 + b2 % 64 ∧ b0 % 16 * 4096 + b1 % 64 * 64 + b2 % 64 ≤ 1114111))
    · rw [if_pos d3, if_pos (by omega)]
      simp [whole]
    · rw [if_neg d3, if_neg (by omega), if_neg (by omega)]
      rfl
  rw [if_neg c3, if_neg (by omega)]
  by_cases c4 : b0 / 8 = 30 ∧ (1 < m ∧ b1 / 64 = 2) ∧ (2 < m ∧ b2 / 64 = 2) ∧ (3 < m ∧ b3 / 64 = 2)
  · rw [if_pos c4]
    by_cases d4 : b0 % 8 * 262144 + b1 % 64 * 4096 + b2 % 64 * 64 + b3 % 64 ≥ 65536 ∧ (b0 % 8 * 262144 + b1 % 64 * 4096 + b2 % 64 * 64 + b3 % 64 < 55296 ∨ (57344 ≤ b0 % 8 * 262144 + b1 % 64 * 4096 + b2 % 64 * 64 + b3 % 64 ∧ b0 % 8 * 262144 + b1 % 64 * 4096 + b2 % 64 * 64 + b3 % 64 ≤ 1114111))
    · rw [if_pos d4, if_pos (by omega)]
      simp [whole]
    · rw [if_neg d4, if_neg (by omega)]
      rfl
  rw [if_neg c4, if_neg (by omega)]
  rfl
theorem decN_le (n b0 b1 b2 b3 : Nat) : (Lib.decodeN n b0 b1 b2 b3).2 ≤ 4 := by
  unfold Lib.decodeN
  repeat' split
  all_goals (simp only; omega)
theorem decN_fits (n b0 b1 b2 b3 : Nat) (hn : 1 ≤ n) : (Lib.decodeN n b0 b1 b2 b3).2 ≤ n := by
  unfold Lib.decodeN
  repeat' split
  all_goals (simp only; omega)
theorem decN_rune (n b0 b1 b2 b3 : Nat) (h : b0 < 256) : (Lib.decodeN n b0 b1 b2 b3).1 ≤ 1114111 := by
  unfold Lib.decodeN
  repeat' split
  all_goals (simp only; omega)
theorem dec_le (s : ByteArray) (i : Nat) : (Utf8.decode s i).1 ≤ 1114111 := by
  rw [Lib.decode_at]
  exact decN_rune _ _ _ _ _ (UInt8.toNat_lt _)
theorem width_le4 (s : ByteArray) (i : Nat) : (Utf8.decode s i).2 ≤ 4 := by
  rw [Lib.decode_at]
  exact decN_le _ _ _ _ _
theorem width_fits (s : ByteArray) (i : Nat) (h : i < s.size) : i + (Utf8.decode s i).2 ≤ s.size := by
  rw [Lib.decode_at]
  have := decN_fits (s.size - i) (s.get! i).toNat (s.get! (i + 1)).toNat (s.get! (i + 2)).toNat (s.get! (i + 3)).toNat (by omega)
  omega
/-- Where the sign of a number begins. -/
def st (s : ByteArray) : Nat → Nat
  | 0 => 0
  | j + 1 => st s j + (Utf8.decode s (st s j)).2
theorem scan_st (s : ByteArray) : ∀ (b j : Nat), s.size ≤ st s j + b → st s j ≤ s.size →
    ∃ n, scan s b (st s j) = (List.range n).map (fun t => (st s (j + t), Utf8.decode s (st s (j + t)))) ∧ st s (j + n) = s.size ∧ ∀ t, t < n → st s (j + t) < s.size := by
  intro b
  induction b with
  | zero =>
    intro j h hj
    exact ⟨0, rfl, by simp only [Nat.add_zero]; omega, fun t ht => absurd ht (by omega)⟩
  | succ b ih =>
    intro j h hj
    by_cases hc : st s j < s.size
    · have hp := width_pos s _ hc
      have hf := width_fits s _ hc
      obtain ⟨n, h1, h2, h3⟩ := ih (j + 1) (by simp only [st]; omega) hf
      refine ⟨n + 1, ?_, by rw [← h2]; congr 1; omega, fun t ht => ?_⟩
      · rw [scan, if_pos hc, List.range_succ_eq_map, List.map_cons, List.map_map]
        have e : st s j + (Utf8.decode s (st s j)).2 = st s (j + 1) := rfl
        rw [e, h1]
        simp only [Nat.add_zero]
        congr 1
        refine List.map_congr_left (fun t _ => ?_)
        simp only [Function.comp]
        rw [show j + 1 + t = j + t.succ by omega]
      · cases t with
        | zero => exact hc
        | succ t => have := h3 t (by omega); rwa [show j + (t + 1) = j + 1 + t by omega]
    · refine ⟨0, ?_, by simp only [Nat.add_zero]; omega, fun t ht => absurd ht (by omega)⟩
      rw [scan, if_neg hc]
      rfl
/-- The signs of a text, by number. -/
structure Signs (s : ByteArray) (n : Nat) : Prop where
  eq : scan s s.size 0 = (List.range n).map (fun t => (st s t, Utf8.decode s (st s t)))
  last : st s n = s.size
  lt : ∀ t, t < n → st s t < s.size
theorem signs_ex (s : ByteArray) : ∃ n, Signs s n := by
  obtain ⟨n, h1, h2, h3⟩ := scan_st s s.size 0 (by simp) (by simp [st])
  simp only [Nat.zero_add] at h1 h2 h3
  exact ⟨n, h1, h2, h3⟩
theorem Signs.len {s : ByteArray} {n : Nat} (h : Signs s n) : (scan s s.size 0).length = n := by rw [h.eq]; simp
theorem Signs.le {s : ByteArray} {n : Nat} (h : Signs s n) : n ≤ s.size := by rw [← h.len]; exact scan_len s s.size 0
theorem st_mono (s : ByteArray) {a b : Nat} (h : a ≤ b) : st s a ≤ st s b := by
  induction h with
  | refl => exact Nat.le_refl _
  | step _ ih => simp only [st]; omega
theorem Signs.step {s : ByteArray} {n t : Nat} (h : Signs s n) (ht : t < n) : st s t < st s (t + 1) := by
  have := width_pos s _ (h.lt t ht)
  simp only [st]
  omega
theorem Signs.le_size {s : ByteArray} {n t : Nat} (h : Signs s n) (ht : t ≤ n) : st s t ≤ s.size := by
  rw [← h.last]
  exact st_mono s ht
theorem Signs.cover {s : ByteArray} {n : Nat} (h : Signs s n) : ∀ m, m ≤ n → ∀ a, a < st s m → ∃ t, t < m ∧ st s t ≤ a ∧ a < st s (t + 1) := by
  intro m
  induction m with
  | zero => intro _ a ha; simp [st] at ha
  | succ m ih =>
    intro hm a ha
    by_cases hc : a < st s m
    · obtain ⟨t, h1, h2, h3⟩ := ih (by omega) a hc
      exact ⟨t, by omega, h2, h3⟩
    · exact ⟨m, by omega, by omega, ha⟩
/-! The bytes of a sign: only its first one may begin a sign. -/
theorem decN_conts (n b0 b1 b2 b3 : Nat) : (2 ≤ (Lib.decodeN n b0 b1 b2 b3).2 → ¬ b0 / 64 = 2 ∧ b1 / 64 = 2) ∧ (3 ≤ (Lib.decodeN n b0 b1 b2 b3).2 → b2 / 64 = 2) ∧ (4 ≤ (Lib.decodeN n b0 b1 b2 b3).2 → b3 / 64 = 2) := by
  unfold Lib.decodeN
  repeat' split
  all_goals (simp only; omega)
theorem conts (s : ByteArray) (i t : Nat) (h1 : 1 ≤ t) (h2 : t < (Utf8.decode s i).2) : ¬ gb s i / 64 = 2 ∧ gb s (i + t) / 64 = 2 := by
  have h4 := width_le4 s i
  have hc := decN_conts (s.size - i) (gb s i) (gb s (i + 1)) (gb s (i + 2)) (gb s (i + 3))
  have hd : Utf8.decode s i = Lib.decodeN (s.size - i) (gb s i) (gb s (i + 1)) (gb s (i + 2)) (gb s (i + 3)) := Lib.decode_at s i
  rw [← hd] at hc
  obtain ⟨c1, c2, c3⟩ := hc
  refine ⟨(c1 (by omega)).1, ?_⟩
  rcases (by omega : t = 1 ∨ t = 2 ∨ t = 3) with rfl | rfl | rfl
  · exact (c1 (by omega)).2
  · exact c2 (by omega)
  · exact c3 (by omega)
theorem start_eq : ∀ b : Nat, b < 256 → ((Go.bits .and .u8 (b : Int) 192) != 128) = !(b / 64 == 2) := by decide +kernel
/-- glyph.Align's way back. -/
def al (s : ByteArray) (a : Nat) : Nat → Nat → Nat
  | 0, _ => a
  | n + 1, b => if b ≤ a then (if gb s (a - b) / 64 = 2 then al s a n (b + 1) else if b < (Utf8.decode s (a - b)).2 then a - b else a) else a
theorem suffix_dec (s : ByteArray) (i : Nat) (h : i < s.size) : utf8_DecodeRuneInString.f (s.extract i s.size) = some ((((Utf8.decode s i).1 : Nat) : Int), (((Utf8.decode s i).2 : Nat) : Int)) := by
  unfold utf8_DecodeRuneInString.f
  rw [suffix_decode s i h]
theorem align_loop (s : ByteArray) (a : Nat) (ha : a < s.size) (hs : s.size < 1000000) : ∀ (n b k : Nat), n + b = 4 → glyph_Align.l0 (n * 2 + k + 2) s (a : Int) (b : Int) = some ((al s a n b : Nat) : Int) := by
  intro n
  induction n with
  | zero =>
    intro b k hb
    rw [show 0 * 2 + k + 2 = (k + 1) + 1 by omega, glyph_Align.l0, if_neg (by omega), glyph_Align.j1, if_neg (by decide)]
    rfl
  | succ n ih =>
    intro b k hb
    rw [show (n + 1) * 2 + k + 2 = ((n * 2 + k + 2) + 1) + 1 by omega, glyph_Align.l0, if_pos (by omega)]
    have hal : al s a (n + 1) b = if b ≤ a then (if gb s (a - b) / 64 = 2 then al s a n (b + 1) else if b < (Utf8.decode s (a - b)).2 then a - b else a) else a := rfl
    rw [hal]
    by_cases hc : b ≤ a
    · have hd : decide ((b : Int) ≤ (a : Int)) = true := decide_eq_true (by omega)
      have hw : wrap64 ((a : Int) - (b : Int)) = ((a - b : Nat) : Int) := by rw [wrapZ _ (by omega) (by omega)]; omega
      have hw1 : wrap64 ((b : Int) + 1) = ((b + 1 : Nat) : Int) := by rw [wrapZ _ (by omega) (by omega)]; omega
      have c1 : (0 : Int) ≤ ((a - b : Nat) : Int) := by omega
      have c2 : ((a - b : Nat) : Int) < (s.size : Int) := by omega
      have c3 : ((a - b : Nat) : Int) ≤ (s.size : Int) := by omega
      rw [hd, glyph_Align.j1, if_pos rfl, hw, hw1, if_pos c1, if_pos c2, bt_gb s (a - b) (by omega)]
      unfold utf8_RuneStart.f
      rw [start_eq _ (gb_lt s _), Option.bind_some, if_pos hc]
      by_cases hg : gb s (a - b) / 64 = 2
      · rw [if_neg (by simp [hg]), if_pos hg]
        exact ih (b + 1) k (by omega)
      · rw [if_pos (by simp [hg]), if_neg hg, if_pos c3, Int.toNat_natCast, suffix_dec s (a - b) (by omega), Option.bind_some]
        simp only []
        by_cases hl : b < (Utf8.decode s (a - b)).2
        · rw [if_pos hl, if_pos (by omega)]
        · rw [if_neg hl, if_neg (by omega)]
    · have hd : decide ((b : Int) ≤ (a : Int)) = false := decide_eq_false (by omega)
      rw [hd, glyph_Align.j1, if_neg (by decide), if_neg hc]
theorem al_start {s : ByteArray} {n m : Nat} (h : Signs s n) (hm : m < n) : ∀ (c b : Nat), al s (st s m) c b = st s m := by
  intro c
  induction c with
  | zero => intro b; rfl
  | succ c ih =>
    intro b
    unfold al
    by_cases hb : b ≤ st s m
    · rw [if_pos hb]
      by_cases hg : gb s (st s m - b) / 64 = 2
      · rw [if_pos hg]
        exact ih (b + 1)
      · rw [if_neg hg]
        by_cases hl : b < (Utf8.decode s (st s m - b)).2
        · rw [if_pos hl]
          by_cases h0 : b = 0
          · omega
          · exfalso
            obtain ⟨t, h1, h2, h3⟩ := h.cover m (by omega) (st s m - b) (by omega)
            by_cases he : st s t = st s m - b
            · have h4 := st_mono s (show t + 1 ≤ m by omega)
              simp only [st, he] at h3 h4
              omega
            · have := conts s (st s t) (st s m - b - st s t) (by omega) (by simp only [st] at h3; omega)
              rw [show st s t + (st s m - b - st s t) = st s m - b by omega] at this
              exact hg this.2
        · rw [if_neg hl]
    · rw [if_neg hb]
theorem al_in {s : ByteArray} {n m a : Nat} (h : Signs s n) (hm : m < n) (ha : st s m < a) (ha2 : a < st s (m + 1)) : ∀ (d c b : Nat), a - st s m = b + d → d + 1 ≤ c → al s a c b = st s m := by
  have hw : a < st s m + (Utf8.decode s (st s m)).2 := ha2
  intro d
  induction d with
  | zero =>
    intro c b hd hc
    obtain ⟨c, rfl⟩ : ∃ c', c = c' + 1 := ⟨c - 1, by omega⟩
    have e : a - b = st s m := by omega
    unfold al
    rw [if_pos (by omega), e, if_neg (conts s (st s m) 1 (by omega) (by omega)).1, if_pos (by omega)]
  | succ d ih =>
    intro c b hd hc
    obtain ⟨c, rfl⟩ : ∃ c', c = c' + 1 := ⟨c - 1, by omega⟩
    have hg := (conts s (st s m) (a - b - st s m) (by omega) (by omega)).2
    rw [show st s m + (a - b - st s m) = a - b by omega] at hg
    unfold al
    rw [if_pos (by omega), if_pos hg]
    exact ih c (b + 1) (by omega) (by omega)
theorem al_eq {s : ByteArray} {n m a : Nat} (h : Signs s n) (hm : m < n) (ha : st s m ≤ a) (ha2 : a < st s (m + 1)) : al s a 4 0 = st s m := by
  by_cases he : a = st s m
  · rw [he]
    exact al_start h hm 4 0
  · have h4 := width_le4 s (st s m)
    have hw : a < st s m + (Utf8.decode s (st s m)).2 := ha2
    exact al_in h hm (by omega) ha2 (a - st s m) 4 0 (by omega) (by omega)
/-- Which sign holds a place. -/
def At (s : ByteArray) (n : Nat) (a : Int) (j : Nat) : Prop := j ≤ n ∧ (a < 0 → j = 0) ∧ (0 ≤ a → a < (s.size : Int) → j < n ∧ (st s j : Int) ≤ a ∧ a < (st s (j + 1) : Int)) ∧ ((s.size : Int) ≤ a → j = n)
theorem At.ex {s : ByteArray} {n : Nat} (h : Signs s n) (a : Int) : ∃ j, At s n a j := by
  by_cases h0 : a < 0
  · exact ⟨0, by omega, fun _ => rfl, fun h1 => absurd h1 (by omega), fun h1 => absurd h1 (by omega)⟩
  · by_cases h1 : a < (s.size : Int)
    · have hl := h.last
      obtain ⟨t, e1, e2, e3⟩ := h.cover n (Nat.le_refl _) a.toNat (by omega)
      exact ⟨t, by omega, fun h => absurd h h0, fun _ _ => ⟨e1, by omega, by omega⟩, fun h => absurd h (by omega)⟩
    · exact ⟨n, by omega, fun h => absurd h h0, fun _ h => absurd h h1, fun _ => rfl⟩
theorem At.of {s : ByteArray} {n m : Nat} (h : Signs s n) (hm : m < n) {a : Int} (h1 : (st s m : Int) ≤ a) (h2 : a < (st s (m + 1) : Int)) : At s n a m := by
  have := h.le_size (show m + 1 ≤ n by omega)
  exact ⟨by omega, fun h => by omega, fun _ _ => ⟨hm, h1, h2⟩, fun h => by omega⟩
theorem st_zero (s : ByteArray) : st s 0 = 0 := rfl
theorem align_eq {s : ByteArray} {n j : Nat} (h : Signs s n) (hs : s.size < 1000000) {a : Int} (ha : At s n a j) (k : Nat) : glyph_Align.f (k + 10) s a = some ((st s j : Nat) : Int) := by
  obtain ⟨hj, h1, h2, h3⟩ := ha
  unfold glyph_Align.f
  by_cases c0 : a < 0
  · rw [if_pos c0, h1 c0]
    rfl
  rw [if_neg c0]
  by_cases c1 : a ≥ (s.size : Int)
  · rw [if_pos c1, h3 c1, h.last]
  rw [if_neg c1]
  obtain ⟨e1, e2, e3⟩ := h2 (by omega) (by omega)
  obtain ⟨a, rfl⟩ : ∃ a' : Nat, a = a' := ⟨a.toNat, by omega⟩
  have := align_loop s a (by omega) hs 4 0 k (by omega)
  rw [show 4 * 2 + k + 2 = k + 10 by omega] at this
  rw [show (0 : Int) = ((0 : Nat) : Int) from rfl, this, al_eq h e1 (by omega) (by omega)]
theorem at_eq {s : ByteArray} {n j : Nat} (h : Signs s n) (hs : s.size < 1000000) {a : Int} (ha : At s n a j) (k : Nat) :
    glyph_At.f (k + 10) s a = some (if j < n then ((((Utf8.decode s (st s j)).1 : Nat) : Int), (((Utf8.decode s (st s j)).2 : Nat) : Int)) else (0, 0)) := by
  unfold glyph_At.f
  rw [align_eq h hs ha k, Option.bind_some]
  by_cases hc : j < n
  · have hl := h.lt j hc
    rw [if_neg (by omega), if_pos (by omega), if_pos (by omega), Int.toNat_natCast, suffix_dec s _ hl, Option.bind_some, if_pos hc]
  · have : j = n := by have := ha.1; omega
    rw [this, h.last, if_pos rfl, if_neg (by omega)]
/-! A list of numbers, as bytes. -/
def fixR (r : Int) : Nat := if Utf8.valid r then r.toNat else 65533
theorem fix_may (r : Int) : mayN (fixR r) = true := by
  unfold fixR mayN
  split
  · rename_i h
    simp only [Utf8.valid, Bool.or_eq_true, Bool.and_eq_true, decide_eq_true_eq] at h ⊢
    omega
  · rfl
theorem encode_eq (r : Int) : (Utf8.encode r).data.toList = (enc (fixR r)).map UInt8.ofNat := by
  unfold Utf8.encode enc
  have hf : (if Utf8.valid r = true then r.toNat else Utf8.runeError) = fixR r := rfl
  simp only [hf]
  repeat' split
  all_goals rfl
theorem rb_fold (l : List Int) : ∀ s : ByteArray, (l.foldl (fun r n => r ++ Utf8.encode n) s).data.toList = s.data.toList ++ (l.flatMap fun r => enc (fixR r)).map UInt8.ofNat := by
  induction l with
  | nil => intro s; simp
  | cons r l ih =>
    intro s
    rw [List.foldl_cons, ih, ByteArray.data_append, Array.toList_append, encode_eq, List.flatMap_cons, List.map_append, List.append_assoc]
theorem rb_eq (l : List Int) : (runesBytes l).data.toList = (l.flatMap fun r => enc (fixR r)).map UInt8.ofNat := by
  unfold runesBytes
  rw [rb_fold]
  rfl
theorem enc_len (r : Nat) : 1 ≤ (enc r).length ∧ (enc r).length ≤ 4 := by
  unfold enc
  split
  · simp
  split
  · simp
  split
  · simp
  · simp
theorem may_le {r : Nat} (h : mayN r = true) : r ≤ 1114111 := by
  simp only [mayN, Bool.and_eq_true, decide_eq_true_eq] at h
  exact h.1
theorem alive_eq (k : Nat) : bureaulaw02_alive.f (k + 20) = some true := by
  have h : bureaulaw02_alive.f 20 = some true := by decide +kernel
  induction k with
  | zero => exact h
  | succ k ih =>
    have := bureaulaw02_alive.mono (k + 20) true ih
    rwa [show k + 1 + 20 = k + 20 + 1 by omega]
theorem rd_nat (xs : List Int) (i : Nat) (h : i < xs.length) : rd xs (i : Int) = xs[i] := by
  unfold rd
  rw [Int.toNat_natCast, List.getD_eq_getElem?_getD, List.getElem?_eq_getElem h]
  rfl
theorem decN_may (n b0 b1 b2 b3 : Nat) (h0 : b0 < 256) : mayN (Lib.decodeN n b0 b1 b2 b3).1 = true := by
  unfold Lib.decodeN mayN
  simp only [Bool.and_eq_true, Bool.or_eq_true, decide_eq_true_eq]
  repeat' split
  all_goals (simp only; omega)
theorem dec_may (s : ByteArray) (i : Nat) : mayN (Utf8.decode s i).1 = true := by
  rw [Lib.decode_at]
  exact decN_may _ _ _ _ _ (UInt8.toNat_lt _)
theorem fix_of_may {r : Nat} (h : mayN r = true) : fixR (r : Int) = r := by
  simp only [mayN, Bool.and_eq_true, Bool.or_eq_true, decide_eq_true_eq] at h
  have : Utf8.valid (r : Int) = true := by
    simp only [Utf8.valid, Bool.or_eq_true, Bool.and_eq_true, decide_eq_true_eq]
    omega
  unfold fixR
  rw [if_pos this, Int.toNat_natCast]
/-- A whole sign has its rune's bytes. -/
theorem first_enc {m b0 b1 b2 b3 : Nat} (h : (firstOk m b0 b1 b2 b3).2.2 = true) : enc (firstOk m b0 b1 b2 b3).1 = [b0, b1, b2, b3].take (firstOk m b0 b1 b2 b3).2.1 := by
  have key (n : Nat) (hk : okN n b0 b1 b2 b3 = true) : enc (numN n b0 b1 b2 b3) = [b0, b1, b2, b3].take n := by
    simp only [okN, Bool.and_eq_true, beq_iff_eq] at hk
    exact hk.2
  unfold firstOk at h ⊢
  by_cases c1 : okN 1 b0 b1 b2 b3 = true
  · rw [if_pos c1]
    exact key 1 c1
  rw [if_neg c1] at h ⊢
  by_cases c2 : 2 ≤ m ∧ okN 2 b0 b1 b2 b3 = true
  · rw [if_pos c2]
    exact key 2 c2.2
  rw [if_neg c2] at h ⊢
  by_cases c3 : 3 ≤ m ∧ okN 3 b0 b1 b2 b3 = true
  · rw [if_pos c3]
    exact key 3 c3.2
  rw [if_neg c3] at h ⊢
  by_cases c4 : 4 ≤ m ∧ okN 4 b0 b1 b2 b3 = true
  · rw [if_pos c4]
    exact key 4 c4.2
  rw [if_neg c4] at h
  cases h
theorem size_list (s : ByteArray) : s.size = s.data.toList.length := by rw [Array.length_toList]; rfl
theorem get_list (s : ByteArray) (j : Nat) (h : j < s.size) : s.data.toList[j]? = some (s.get! j) := by
  rw [list_bytes s, List.getElem?_map, List.getElem?_range h]
  rfl
theorem enc_at {s : ByteArray} {i : Nat} (hi : i < s.size) (h : whole (0, Utf8.decode s i) = true) :
    (enc (Utf8.decode s i).1).map UInt8.ofNat = (s.data.toList.drop i).take (Utf8.decode s i).2 := by
  have b0 := gb_lt s i
  have b1 := gb_lt s (i + 1)
  have b2 := gb_lt s (i + 2)
  have b3 := gb_lt s (i + 3)
  have hd : Utf8.decode s i = Lib.decodeN (s.size - i) (gb s i) (gb s (i + 1)) (gb s (i + 2)) (gb s (i + 3)) := Lib.decode_at s i
  have hf := first_decode (m := s.size - i) b0 b1 b2 b3
  rw [← hd] at hf
  have h1 := congrArg (fun x : Nat × Nat × Bool => x.1) hf
  have h2 := congrArg (fun x : Nat × Nat × Bool => x.2.1) hf
  have h3 := congrArg (fun x : Nat × Nat × Bool => x.2.2) hf
  simp only at h1 h2 h3
  have he := first_enc (m := s.size - i) (h3.trans h)
  rw [h1, h2] at he
  have hw := width_fits s i hi
  have h4 := width_le4 s i
  clear hf h1 h2 h3 hd
  rw [he]
  generalize (Utf8.decode s i).2 = w at *
  have g0 (j : Nat) : UInt8.ofNat (gb s j) = s.get! j := by unfold gb; exact UInt8.ofNat_toNat
  apply List.ext_getElem?
  intro t
  rw [List.getElem?_map, List.getElem?_take, List.getElem?_take]
  by_cases ht : t < w
  · rw [if_pos ht, if_pos ht, List.getElem?_drop, get_list s (i + t) (by omega)]
    rcases (by omega : t = 0 ∨ t = 1 ∨ t = 2 ∨ t = 3) with rfl | rfl | rfl | rfl <;> simp [g0]
  · rw [if_neg ht, if_neg ht]
    rfl
/-- The runes' bytes, up to a sign. -/
def upTo (s : ByteArray) (m : Nat) : List Nat := (List.range m).flatMap fun t => enc (Utf8.decode s (st s t)).1
theorem upTo_succ (s : ByteArray) (m : Nat) : upTo s (m + 1) = upTo s m ++ enc (Utf8.decode s (st s m)).1 := by
  unfold upTo
  rw [List.range_succ, List.flatMap_append]
  simp
theorem upTo_whole {s : ByteArray} {n : Nat} (h : Signs s n) : ∀ m, m ≤ n → (∀ t, t < m → whole (0, Utf8.decode s (st s t)) = true) → (upTo s m).map UInt8.ofNat = s.data.toList.take (st s m) := by
  intro m
  induction m with
  | zero => intro _ _; rfl
  | succ m ih =>
    intro hm hw
    rw [upTo_succ, List.map_append, ih (by omega) (fun t ht => hw t (by omega)), enc_at (h.lt m (by omega)) (hw m (by omega))]
    show _ = List.take (st s m + (Utf8.decode s (st s m)).2) _
    rw [List.take_add]
theorem len_whole {s : ByteArray} {i : Nat} (hi : i < s.size) (h : whole (0, Utf8.decode s i) = true) : (enc (Utf8.decode s i).1).length = (Utf8.decode s i).2 := by
  have := congrArg List.length (enc_at hi h)
  have hw := width_fits s i hi
  rw [List.length_map, List.length_take, List.length_drop, ← size_list] at this
  omega
theorem len_broken {s : ByteArray} {i : Nat} (h : ¬ whole (0, Utf8.decode s i) = true) : (enc (Utf8.decode s i).1).length = (Utf8.decode s i).2 + 2 := by
  simp only [whole, Bool.not_eq_true, Bool.not_eq_false', Bool.and_eq_true, beq_iff_eq] at h
  rw [h.1, h.2]
  rfl
theorem upTo_len {s : ByteArray} {n : Nat} (h : Signs s n) : ∀ m, m ≤ n → st s m ≤ (upTo s m).length ∧ ((∃ t, t < m ∧ ¬ whole (0, Utf8.decode s (st s t)) = true) → st s m < (upTo s m).length) := by
  intro m
  induction m with
  | zero => intro _; exact ⟨Nat.le_refl _, fun ⟨t, ht, _⟩ => absurd ht (by omega)⟩
  | succ m ih =>
    intro hm
    obtain ⟨h1, h2⟩ := ih (by omega)
    rw [upTo_succ, List.length_append]
    have hst : st s (m + 1) = st s m + (Utf8.decode s (st s m)).2 := rfl
    by_cases hc : whole (0, Utf8.decode s (st s m)) = true
    · have hl := len_whole (h.lt m (by omega)) hc
      refine ⟨by omega, fun ⟨t, ht, hb⟩ => ?_⟩
      have : t < m := by
        rcases Nat.lt_or_ge t m with h | h
        · exact h
        · exact absurd hc (by rwa [show m = t by omega])
      have := h2 ⟨t, this, hb⟩
      omega
    · have hl := len_broken hc
      exact ⟨by omega, fun _ => by omega⟩
theorem back_loop {s : ByteArray} {n : Nat} (h : Signs s n) (hs : s.size ≤ 4096) (xs : List Int) (hx : xs = (List.range n).map (fun t => ((st s t : Nat) : Int))) (r : Option Bool)
    (hr : ∀ k, bureaulaw02_GlyphBack.l0 (k + 1) s ((List.range n).map (fun t => (((Utf8.decode s (st s t)).1 : Nat) : Int))) xs (n : Int) (n : Int) = r) :
    ∀ (c j k : Nat), j + c = n → bureaulaw02_GlyphBack.l0 (c + k + 12) s ((List.range j).map (fun t => (((Utf8.decode s (st s t)).1 : Nat) : Int))) xs (n : Int) (j : Int) = r := by
  have hlen : xs.length = n := by rw [hx]; simp
  have hn := h.le
  intro c
  induction c with
  | zero =>
    intro j k hj
    rw [show j = n by omega]
    exact hr _
  | succ c ih =>
    intro j k hj
    have hjn : j < n := by omega
    have hwi : wrap64 ((j : Int) + 1) = ((j + 1 : Nat) : Int) := by rw [wrapZ _ (by omega) (by omega)]; omega
    have hrd : rd xs (j : Int) = ((st s j : Nat) : Int) := by
      rw [rd_nat xs j (by omega)]
      simp only [hx, List.getElem_map, List.getElem_range]
    have hA := at_eq h (by omega) (At.of h hjn (Int.le_refl _) (Int.ofNat_lt.2 (h.step hjn))) (c + k + 2)
    have hl : ((List.range j).map (fun t => (((Utf8.decode s (st s t)).1 : Nat) : Int))).length < 35184372088832 := by
      rw [List.length_map, List.length_range]
      omega
    rw [if_pos hjn] at hA
    have hi := ih (j + 1) k (by omega)
    rw [List.range_succ, List.map_append] at hi
    have c1 : (j : Int) < (n : Int) := by omega
    have c2 : (0 : Int) ≤ (j : Int) := by omega
    have c3 : (j : Int) < (xs.length : Int) := by omega
    rw [show c + 1 + k + 12 = (c + k + 2 + 10) + 1 by omega, bureaulaw02_GlyphBack.l0, if_pos c1, if_pos c2, if_pos c3, hrd, hA, Option.bind_some, if_pos hl, hwi, show c + k + 2 + 10 = c + k + 12 by omega]
    exact hi
theorem GlyphBack : bureaulaw02_GlyphBack.Pure := by
  intro s _
  refine ⟨s.size + 8 + 12, ?_⟩
  unfold bureaulaw02_GlyphBack.f
  have hal : bureaulaw02_alive.f (s.size + 8 + 12) = some true := by rw [show s.size + 8 + 12 = s.size + 20 by omega]; exact alive_eq _
  rw [hal, Option.bind_some, if_pos rfl]
  by_cases hs : (s.size : Int) > 4096
  · rw [if_pos hs]
  rw [if_neg hs]
  obtain ⟨n, h⟩ := signs_ex s
  have hn := h.le
  have h1 : glyph_Starts.f s = some ((List.range n).map (fun t => ((st s t : Nat) : Int))) := by
    unfold glyph_Starts.f
    rw [if_pos (by omega), h.eq, List.map_map]
    rfl
  have hlen : (((List.range n).map (fun t => ((st s t : Nat) : Int))).length : Int) = ((n : Nat) : Int) := by simp
  rw [h1, Option.bind_some, hlen]
  have hV : glyph_Valid.f s = some ((scan s s.size 0).all whole) := rfl
  have hall : (scan s s.size 0).all whole = true ↔ ∀ t, t < n → whole (0, Utf8.decode s (st s t)) = true := by
    rw [h.eq, List.all_map, List.all_eq_true]
    constructor
    · intro hw t ht
      exact hw t (List.mem_range.2 ht)
    · intro hw t ht
      exact hw t (List.mem_range.1 ht)
  have hup : (((List.range n).map (fun t => (((Utf8.decode s (st s t)).1 : Nat) : Int))).flatMap fun r => enc (fixR r)) = upTo s n := by
    unfold upTo
    rw [List.flatMap_map]
    simp only [fix_of_may (dec_may s _)]
  have hlist : ((runesBytes ((List.range n).map (fun t => (((Utf8.decode s (st s t)).1 : Nat) : Int)))).toList = s.toList) ↔ (scan s s.size 0).all whole = true := by
    rw [ByteArray.toList_eq, ByteArray.toList_eq, rb_eq, hup, hall]
    constructor
    · intro he t ht
      have hc := congrArg List.length he
      rw [List.length_map, ← size_list] at hc
      by_cases hw : whole (0, Utf8.decode s (st s t)) = true
      · exact hw
      · have := (upTo_len h n (Nat.le_refl _)).2 ⟨t, ht, hw⟩
        rw [h.last] at this
        omega
    · intro hw
      rw [upTo_whole h n (Nat.le_refl _) hw, h.last, List.take_of_length_le (by rw [← size_list]; exact Nat.le_refl _)]
  have hb := back_loop h (by omega) _ rfl (some true) (fun k => by
    rw [bureaulaw02_GlyphBack.l0, if_neg (by omega), hV]
    unfold glyph_Encode.f
    rw [Option.bind_some, Option.bind_some]
    by_cases hw : (scan s s.size 0).all whole = true
    · rw [if_pos (hlist.2 hw), hw]
    · rw [if_neg (fun he => hw (hlist.1 he))]
      simp only [Bool.not_eq_true] at hw
      rw [hw]
      rfl) n 0 (s.size - n + 8) (by omega)
  rw [show n + (s.size - n + 8) + 12 = s.size + 8 + 12 by omega] at hb
  exact hb

end Go.Proofs.YtodlhgpmenhnoaaDoor.Pure
