/- Behind whole signs the signs of any bytes are what they are alone: for all pairs of texts. -/
import Derived.Test.YtodlhgpmenhnoaaDoorXGlyphJoinsx2
import Derived.Test.YtodlhgpmenhnoaaDoorExt02S
import Derived.OpenShut
set_option linter.unusedVariables false
set_option linter.unusedSimpArgs false
namespace Go.Proofs.YtodlhgpmenhnoaaDoor.Pure
open Go.RowKit Go.Proofs.YtodlhgpmenhnoaaDoor.XGlyphJoins Go.Proofs.YtodlhgpmenhnoaaDoorW.PrintWords Go.Proofs.YtodlhgpmenhnoaaDoorW.PrintMore Go.Proofs.YtodlhgpmenhnoaaDoor.Ext

theorem tmodN (a b : Nat) : Int.tmod (a : Int) (b : Int) = ((a % b : Nat) : Int) := rfl
theorem tdivN (a b : Nat) : Int.tdiv (a : Int) (b : Int) = ((a / b : Nat) : Int) := rfl
theorem wrapN (a : Nat) (h : a < 9223372036854775808) : wrap64 (a : Int) = (a : Int) := by
  unfold wrap64
  omega
theorem wrapZ (a : Int) (h0 : -9223372036854775808 ≤ a) (h1 : a < 9223372036854775808) : wrap64 a = a := by
  unfold wrap64
  omega
/-- The byte of a text at a place, as a number. -/
def gb (s : ByteArray) (i : Nat) : Nat := (s.get! i).toNat
theorem gb_lt (s : ByteArray) (i : Nat) : gb s i < 256 := UInt8.toNat_lt _
theorem get_ext (s : ByteArray) (i n j : Nat) (h : i + n ≤ s.size) (hj : j < n) : (s.extract i (i + n)).get! j = s.get! (i + j) := by
  show (s.extract i (i + n)).data[j]! = s.data[i + j]!
  have hs : s.size = s.data.size := rfl
  rw [ByteArray.data_extract, getElem!_def, getElem!_def, Array.getElem?_extract, if_pos (by omega)]
theorem size_ext (s : ByteArray) (i n : Nat) (h : i + n ≤ s.size) : (s.extract i (i + n)).size = n := by
  rw [ByteArray.size_extract]
  omega
theorem bt_gb (x : ByteArray) (j : Nat) (hj : j < x.size) : bt x (j : Int) = ((gb x j : Nat) : Int) := by
  have h : ((j : Int).toNat) < x.size := by simpa using hj
  unfold bt gb
  rw [dif_pos h]
  have e : x[(j : Int).toNat]'h = x.get! j := by
    show x.data[j] = x.data[j]!
    rw [getElem!_pos x.data j hj]
  rw [e]
theorem list_bytes (x : ByteArray) : x.data.toList = (List.range x.size).map (fun j => x.get! j) := by
  apply List.ext_getElem?
  intro j
  have hs : x.size = x.data.size := rfl
  by_cases h : j < x.size
  · rw [List.getElem?_map, List.getElem?_range h]
    show x.data.toList[j]? = some x.data[j]!
    rw [getElem!_pos x.data j h]
    simp [hs ▸ h]
  · rw [List.getElem?_eq_none (by simp; omega), List.getElem?_eq_none (by simp; omega)]
/-! The numbers' bytes. -/
def enc (r : Nat) : List Nat :=
  if r < 128 then [r] else if r < 2048 then [192 + r / 64, 128 + r % 64] else if r < 65536 then [224 + r / 4096, 128 + r / 64 % 64, 128 + r % 64] else [240 + r / 262144, 128 + r / 4096 % 64, 128 + r / 64 % 64, 128 + r % 64]
def mayN (r : Nat) : Bool := r ≤ 1114111 && (r < 55296 || 57344 ≤ r)
theorem enc_lt {r : Nat} (h : r ≤ 1114111) : ∀ x ∈ enc r, x < 256 := by
  unfold enc
  intro x hx
  split at hx
  · simp only [List.mem_cons, List.not_mem_nil, or_false] at hx
    omega
  split at hx
  · simp only [List.mem_cons, List.not_mem_nil, or_false] at hx
    omega
  split at hx
  · simp only [List.mem_cons, List.not_mem_nil, or_false] at hx
    omega
  · simp only [List.mem_cons, List.not_mem_nil, or_false] at hx
    omega
/-! What the document's 'number' reads, and which so many bytes are a sign. -/
def numN (n b0 b1 b2 b3 : Nat) : Nat :=
  if n = 1 then b0 else if n = 2 then b0 % 32 * 64 + b1 % 64 else if n = 3 then (b0 % 16 * 64 + b1 % 64) * 64 + b2 % 64 else ((b0 % 8 * 64 + b1 % 64) * 64 + b2 % 64) * 64 + b3 % 64
theorem num1 (b0 b1 b2 b3 : Nat) : numN 1 b0 b1 b2 b3 = b0 := rfl
theorem num2 (b0 b1 b2 b3 : Nat) : numN 2 b0 b1 b2 b3 = b0 % 32 * 64 + b1 % 64 := rfl
theorem num3 (b0 b1 b2 b3 : Nat) : numN 3 b0 b1 b2 b3 = (b0 % 16 * 64 + b1 % 64) * 64 + b2 % 64 := rfl
theorem num4 (b0 b1 b2 b3 : Nat) : numN 4 b0 b1 b2 b3 = ((b0 % 8 * 64 + b1 % 64) * 64 + b2 % 64) * 64 + b3 % 64 := rfl
def okN (n b0 b1 b2 b3 : Nat) : Bool := mayN (numN n b0 b1 b2 b3) && enc (numN n b0 b1 b2 b3) == [b0, b1, b2, b3].take n
theorem ok1 {b0 : Nat} (b1 b2 b3 : Nat) (h0 : b0 < 256) : okN 1 b0 b1 b2 b3 = decide (b0 < 128) := by
  unfold okN mayN enc numN
  rw [if_pos rfl, Bool.eq_iff_iff]
  simp only [Bool.and_eq_true, Bool.or_eq_true, decide_eq_true_eq, beq_iff_eq, List.take_succ_cons, List.take_zero]
  constructor
  · rintro ⟨_, h⟩
    split at h
    · assumption
    · exfalso
      split at h
      · simp only [List.cons.injEq] at h
        exact absurd h.2 (by simp)
      split at h
      · simp only [List.cons.injEq] at h
        exact absurd h.2 (by simp)
      · simp only [List.cons.injEq] at h
        exact absurd h.2 (by simp)
  · intro h
    exact ⟨by omega, by rw [if_pos h]⟩
theorem ok2 {b0 b1 : Nat} (b2 b3 : Nat) (h0 : b0 < 256) (h1 : b1 < 256) : okN 2 b0 b1 b2 b3 = decide (b0 / 32 = 6 ∧ b1 / 64 = 2 ∧ 128 ≤ b0 % 32 * 64 + b1 % 64) := by
  unfold okN mayN enc numN
  rw [if_neg (by omega), if_pos rfl, Bool.eq_iff_iff]
  simp only [Bool.and_eq_true, Bool.or_eq_true, decide_eq_true_eq, beq_iff_eq, List.take_succ_cons, List.take_zero]
  generalize hr : b0 % 32 * 64 + b1 % 64 = r
  constructor
  · rintro ⟨_, h⟩
    split at h
    · cases h
    split at h
    · simp only [List.cons.injEq, and_true] at h
      omega
    split at h
    · cases h
    · cases h
  · intro h
    refine ⟨by omega, ?_⟩
    rw [if_neg (by omega), if_pos (by omega)]
    simp only [List.cons.injEq, and_true]
    omega
theorem ok3 {b0 b1 b2 : Nat} (b3 : Nat) (h0 : b0 < 256) (h1 : b1 < 256) (h2 : b2 < 256) : okN 3 b0 b1 b2 b3 =
    decide (b0 / 16 = 14 ∧ b1 / 64 = 2 ∧ b2 / 64 = 2 ∧ 2048 ≤ b0 % 16 * 4096 + b1 % 64 * 64 + b2 % 64 ∧ (b0 % 16 * 4096 + b1 % 64 * 64 + b2 % 64 < 55296 ∨ 57344 ≤ b0 % 16 * 4096 + b1 % 64 * 64 + b2 % 64)) := by
  unfold okN mayN enc numN
  rw [if_neg (by omega), if_neg (by omega), if_pos rfl, Bool.eq_iff_iff]
  simp only [Bool.and_eq_true, Bool.or_eq_true, decide_eq_true_eq, beq_iff_eq, List.take_succ_cons, List.take_zero]
  rw [show (b0 % 16 * 64 + b1 % 64) * 64 + b2 % 64 = b0 % 16 * 4096 + b1 % 64 * 64 + b2 % 64 by omega]
  generalize hr : b0 % 16 * 4096 + b1 % 64 * 64 + b2 % 64 = r
  constructor
  · rintro ⟨_, h⟩
    split at h
    · cases h
    split at h
    · cases h
    split at h
    · simp only [List.cons.injEq, and_true] at h
      omega
    · cases h
  · intro h
    refine ⟨by omega, ?_⟩
    rw [if_neg (by omega), if_neg (by omega), if_pos (by omega)]
    simp only [List.cons.injEq, and_true]
    omega
theorem ok4 {b0 b1 b2 b3 : Nat} (h0 : b0 < 256) (h1 : b1 < 256) (h2 : b2 < 256) (h3 : b3 < 256) : okN 4 b0 b1 b2 b3 =
    decide (b0 / 8 = 30 ∧ b1 / 64 = 2 ∧ b2 / 64 = 2 ∧ b3 / 64 = 2 ∧ 65536 ≤ b0 % 8 * 262144 + b1 % 64 * 4096 + b2 % 64 * 64 + b3 % 64 ∧ b0 % 8 * 262144 + b1 % 64 * 4096 + b2 % 64 * 64 + b3 % 64 ≤ 1114111) := by
  unfold okN mayN enc numN
  rw [if_neg (by omega), if_neg (by omega), if_neg (by omega), Bool.eq_iff_iff]
  simp only [Bool.and_eq_true, Bool.or_eq_true, decide_eq_true_eq, beq_iff_eq, List.take_succ_cons, List.take_zero]
  rw [show ((b0 % 8 * 64 + b1 % 64) * 64 + b2 % 64) * 64 + b3 % 64 = b0 % 8 * 262144 + b1 % 64 * 4096 + b2 % 64 * 64 + b3 % 64 by omega]
  generalize hr : b0 % 8 * 262144 + b1 % 64 * 4096 + b2 % 64 * 64 + b3 % 64 = r
  constructor
  · rintro ⟨_, h⟩
    split at h
    · cases h
    split at h
    · cases h
    split at h
    · cases h
    · simp only [List.cons.injEq, and_true] at h
      omega
  · intro h
    refine ⟨by omega, ?_⟩
    rw [if_neg (by omega), if_neg (by omega), if_neg (by omega)]
    simp only [List.cons.injEq, and_true]
    omega
/-- The model's decoding, by which so many bytes are a sign. -/
def firstOk (m b0 b1 b2 b3 : Nat) : Nat × Nat × Bool :=
  if okN 1 b0 b1 b2 b3 = true then (numN 1 b0 b1 b2 b3, 1, true)
  else if 2 ≤ m ∧ okN 2 b0 b1 b2 b3 = true then (numN 2 b0 b1 b2 b3, 2, true)
  else if 3 ≤ m ∧ okN 3 b0 b1 b2 b3 = true then (numN 3 b0 b1 b2 b3, 3, true)
  else if 4 ≤ m ∧ okN 4 b0 b1 b2 b3 = true then (numN 4 b0 b1 b2 b3, 4, true)
  else (65533, 1, false)
theorem first_decode {m b0 b1 b2 b3 : Nat} (h0 : b0 < 256) (h1 : b1 < 256) (h2 : b2 < 256) (h3 : b3 < 256) :
    firstOk m b0 b1 b2 b3 = ((Lib.decodeN m b0 b1 b2 b3).1, (Lib.decodeN m b0 b1 b2 b3).2, whole (0, Lib.decodeN m b0 b1 b2 b3)) := by
  unfold firstOk
  rw [ok1 b1 b2 b3 h0, ok2 b2 b3 h0 h1, ok3 b3 h0 h1 h2, ok4 h0 h1 h2 h3]
  simp only [decide_eq_true_eq]
  have n1 : numN 1 b0 b1 b2 b3 = b0 := rfl
  have n2 : numN 2 b0 b1 b2 b3 = b0 % 32 * 64 + b1 % 64 := rfl
  have n3 : numN 3 b0 b1 b2 b3 = b0 % 16 * 4096 + b1 % 64 * 64 + b2 % 64 := by unfold numN; rw [if_neg (by omega), if_neg (by omega), if_pos rfl]; omega
  have n4 : numN 4 b0 b1 b2 b3 = b0 % 8 * 262144 + b1 % 64 * 4096 + b2 % 64 * 64 + b3 % 64 := by unfold numN; rw [if_neg (by omega), if_neg (by omega), if_neg (by omega)]; omega
  rw [n1, n2, n3, n4]
  unfold Lib.decodeN
  by_cases c1 : b0 < 128
  · rw [if_pos c1, if_pos c1]
    have : (b0 == 65533) = false := by rw [beq_eq_false_iff_ne]; omega
    simp [whole, this]
  rw [if_neg c1, if_neg c1]
  by_cases c2 : b0 / 32 = 6 ∧ (1 < m ∧ b1 / 64 = 2)
  · rw [if_pos c2]
    by_cases d2 : b0 % 32 * 64 + b1 % 64 ≥ 128
    · rw [if_pos d2, if_pos (by omega)]
      simp [whole]
    · rw [if_neg d2, if_neg (by omega), if_neg (by omega), if_neg (by omega)]
      rfl
  rw [if_neg c2, if_neg (by omega)]
  by_cases c3 : b0 / 16 = 14 ∧ (1 < m ∧ b1 / 64 = 2) ∧ (2 < m ∧ b2 / 64 = 2)
  · rw [if_pos c3]
    by_cases d3 : b0 % 16 * 4096 + b1 % 64 * 64 + b2 % 64 ≥ 2048 ∧ (b0 % 16 * 4096 + b1 % 64 * 64 + b2 % 64 < 55296 ∨ (57344 ≤ b0 % 16 * 4096 + b1 % 64 * 64 + b2 % 64 ∧ b0 % 16 * 4096 + b1 % 64 * 64 + b2 % 64 ≤ 1114111))
    · rw [if_pos d3, if_pos (by omega)]
      simp [whole]
    · rw [if_neg d3, if_neg (by omega), if_neg (by omega)]
      rfl
  rw [if_neg c3, if_neg (by omega)]
  by_cases c4 : b0 / 8 = 30 ∧ (1 < m ∧ b1 / 64 = 2) ∧ (2 < m ∧ b2 / 64 = 2) ∧ (3 < m ∧ b3 / 64 = 2)
  · rw [if_pos c4]
    by_cases d4 : b0 % 8 * 262144 + b1 % 64 * 4096 + b2 % 64 * 64 + b3 % 64 ≥ 65536 ∧ (b0 % 8 * 262144 + b1 % 64 * 4096 + b2 % 64 * 64 + b3 % 64 < 55296 ∨ (57344 ≤ b0 % 8 * 262144 + b1 % 64 * 4096 + b2 % 64 * 64 + b3 % 64 ∧ b0 % 8 * 262144 + b1 % 64 * 4096 + b2 % 64 * 64 + b3 % 64 ≤ 1114111))
    · rw [if_pos d4, if_pos (by omega)]
      simp [whole]
    · rw [if_neg d4, if_neg (by omega)]
      rfl
  rw [if_neg c4, if_neg (by omega)]
  rfl
theorem decN_le (n b0 b1 b2 b3 : Nat) : (Lib.decodeN n b0 b1 b2 b3).2 ≤ 4 := by
  unfold Lib.decodeN
  repeat' split
  all_goals (simp only; omega)
theorem decN_fits (n b0 b1 b2 b3 : Nat) (hn : 1 ≤ n) : (Lib.decodeN n b0 b1 b2 b3).2 ≤ n := by
  unfold Lib.decodeN
  repeat' split
  all_goals (simp only; omega)
theorem decN_rune (n b0 b1 b2 b3 : Nat) (h : b0 < 256) : (Lib.decodeN n b0 b1 b2 b3).1 ≤ 1114111 := by
  unfold Lib.decodeN
  repeat' split
  all_goals (simp only; omega)
theorem dec_le (s : ByteArray) (i : Nat) : (Utf8.decode s i).1 ≤ 1114111 := by
  rw [Lib.decode_at]
  exact decN_rune _ _ _ _ _ (UInt8.toNat_lt _)
theorem width_le4 (s : ByteArray) (i : Nat) : (Utf8.decode s i).2 ≤ 4 := by
  rw [Lib.decode_at]
  exact decN_le _ _ _ _ _
theorem width_fits (s : ByteArray) (i : Nat) (h : i < s.size) : i + (Utf8.decode s i).2 ≤ s.size := by
  rw [Lib.decode_at]
  have := decN_fits (s.size - i) (s.get! i).toNat (s.get! (i + 1)).toNat (s.get! (i + 2)).toNat (s.get! (i + 3)).toNat (by omega)
  omega
/-- Where the sign of a number begins. -/
def st (s : ByteArray) : Nat → Nat
  | 0 => 0
  | j + 1 => st s j + (Utf8.decode s (st s j)).2
theorem scan_st (s : ByteArray) : ∀ (b j : Nat), s.size ≤ st s j + b → st s j ≤ s.size →
    ∃ n, scan s b (st s j) = (List.range n).map (fun t => (st s (j + t), Utf8.decode s (st s (j + t)))) ∧ st s (j + n) = s.size ∧ ∀ t, t < n → st s (j + t) < s.size := by
  intro b
  induction b with
  | zero =>
    intro j h hj
    exact ⟨0, rfl, by simp only [Nat.add_zero]; omega, fun t ht => absurd ht (by omega)⟩
  | succ b ih =>
    intro j h hj
    by_cases hc : st s j < s.size
    · have hp := width_pos s _ hc
      have hf := width_fits s _ hc
      obtain ⟨n, h1, h2, h3⟩ := ih (j + 1) (by simp only [st]; omega) hf
      refine ⟨n + 1, ?_, by rw [← h2]; congr 1; omega, fun t ht => ?_⟩
      · rw [scan, if_pos hc, List.range_succ_eq_map, List.map_cons, List.map_map]
        have e : st s j + (Utf8.decode s (st s j)).2 = st s (j + 1) := rfl
        rw [e, h1]
        simp only [Nat.add_zero]
        congr 1
        refine List.map_congr_left (fun t _ => ?_)
        simp only [Function.comp]
        rw [show j + 1 + t = j + t.succ by omega]
      · cases t with
        | zero => exact hc
        | succ t => have := h3 t (by omega); rwa [show j + (t + 1) = j + 1 + t by omega]
    · refine ⟨0, ?_, by simp only [Nat.add_zero]; omega, fun t ht => absurd ht (by omega)⟩
      rw [scan, if_neg hc]
      rfl
/-- The signs of a text, by number. -/
structure Signs (s : ByteArray) (n : Nat) : Prop where
  eq : scan s s.size 0 = (List.range n).map (fun t => (st s t, Utf8.decode s (st s t)))
  last : st s n = s.size
  lt : ∀ t, t < n → st s t < s.size
theorem signs_ex (s : ByteArray) : ∃ n, Signs s n := by
  obtain ⟨n, h1, h2, h3⟩ := scan_st s s.size 0 (by simp) (by simp [st])
  simp only [Nat.zero_add] at h1 h2 h3
  exact ⟨n, h1, h2, h3⟩
theorem Signs.len {s : ByteArray} {n : Nat} (h : Signs s n) : (scan s s.size 0).length = n := by rw [h.eq]; simp
theorem Signs.le {s : ByteArray} {n : Nat} (h : Signs s n) : n ≤ s.size := by rw [← h.len]; exact scan_len s s.size 0
theorem st_mono (s : ByteArray) {a b : Nat} (h : a ≤ b) : st s a ≤ st s b := by
  induction h with
  | refl => exact Nat.le_refl _
  | step _ ih => simp only [st]; omega
theorem Signs.step {s : ByteArray} {n t : Nat} (h : Signs s n) (ht : t < n) : st s t < st s (t + 1) := by
  have := width_pos s _ (h.lt t ht)
  simp only [st]
  omega
theorem Signs.le_size {s : ByteArray} {n t : Nat} (h : Signs s n) (ht : t ≤ n) : st s t ≤ s.size := by
  rw [← h.last]
  exact st_mono s ht
theorem Signs.cover {s : ByteArray} {n : Nat} (h : Signs s n) : ∀ m, m ≤ n → ∀ a, a < st s m → ∃ t, t < m ∧ st s t ≤ a ∧ a < st s (t + 1) := by
  intro m
  induction m with
  | zero => intro _ a ha; simp [st] at ha
  | succ m ih =>
    intro hm a ha
    by_cases hc : a < st s m
    · obtain ⟨t, h1, h2, h3⟩ := ih (by omega) a hc
      exact ⟨t, by omega, h2, h3⟩
    · exact ⟨m, by omega, by omega, ha⟩
theorem alive_eq (k : Nat) : bureaulaw02_alive.f (k + 20) = some true := by
  have h : bureaulaw02_alive.f 20 = some true := by decide +kernel
  induction k with
  | zero => exact h
  | succ k ih =>
    have := bureaulaw02_alive.mono (k + 20) true ih
    rwa [show k + 1 + 20 = k + 20 + 1 by omega]
theorem rd_nat (xs : List Int) (i : Nat) (h : i < xs.length) : rd xs (i : Int) = xs[i] := by
  unfold rd
  rw [Int.toNat_natCast, List.getD_eq_getElem?_getD, List.getElem?_eq_getElem h]
  rfl
/-- A whole sign stays what it is, whatever comes behind it. -/
theorem first_more {m m' b0 b1 b2 b3 c0 c1 c2 c3 : Nat} (h0 : b0 < 256) (h1 : b1 < 256) (h2 : b2 < 256) (h3 : b3 < 256)
    (hm : m ≤ m') (hm1 : 1 ≤ m) (e0 : b0 = c0) (e1 : 2 ≤ m → b1 = c1) (e2 : 3 ≤ m → b2 = c2) (e3 : 4 ≤ m → b3 = c3)
    (h : (firstOk m b0 b1 b2 b3).2.2 = true) : firstOk m' c0 c1 c2 c3 = firstOk m b0 b1 b2 b3 := by
  have o1 (x1 x2 x3 y1 y2 y3 : Nat) : okN 1 b0 x1 x2 x3 = okN 1 b0 y1 y2 y3 := rfl
  have o2 (x1 x2 x3 y2 y3 : Nat) : okN 2 b0 x1 x2 x3 = okN 2 b0 x1 y2 y3 := rfl
  have o3 (x1 x2 x3 y3 : Nat) : okN 3 b0 x1 x2 x3 = okN 3 b0 x1 x2 y3 := rfl
  subst e0
  unfold firstOk at h ⊢
  by_cases k1 : okN 1 b0 b1 b2 b3 = true
  · rw [if_pos k1, if_pos (by rw [o1 c1 c2 c3 b1 b2 b3]; exact k1)]
    rfl
  rw [if_neg k1] at h ⊢
  rw [if_neg (by rw [o1 c1 c2 c3 b1 b2 b3]; exact k1)]
  by_cases k2 : 2 ≤ m ∧ okN 2 b0 b1 b2 b3 = true
  · have := e1 k2.1
    subst this
    rw [if_pos k2, if_pos ⟨by omega, by rw [o2 b1 c2 c3 b2 b3]; exact k2.2⟩]
    rfl
  rw [if_neg k2] at h ⊢
  by_cases k3 : 3 ≤ m ∧ okN 3 b0 b1 b2 b3 = true
  · have := e1 (by omega)
    subst this
    have := e2 k3.1
    subst this
    rw [if_neg (fun hh => k2 ⟨by omega, by rw [o2 b1 b2 b3 b2 c3]; exact hh.2⟩), if_pos k3, if_pos ⟨by omega, by rw [o3 b1 b2 c3 b3]; exact k3.2⟩]
    rfl
  rw [if_neg k3] at h ⊢
  by_cases k4 : 4 ≤ m ∧ okN 4 b0 b1 b2 b3 = true
  · have := e1 (by omega)
    subst this
    have := e2 (by omega)
    subst this
    have := e3 k4.1
    subst this
    rw [if_neg (fun hh => k2 ⟨by omega, hh.2⟩), if_neg (fun hh => k3 ⟨by omega, hh.2⟩), if_pos k4, if_pos ⟨by omega, k4.2⟩]
  rw [if_neg k4] at h
  cases h
theorem get_app_l (s t : ByteArray) (i : Nat) (h : i < s.size) : (s ++ t).get! i = s.get! i := by
  show (s ++ t).data[i]! = s.data[i]!
  rw [ByteArray.data_append, getElem!_def, getElem!_def, Array.getElem?_append_left h]
theorem get_app_r (s t : ByteArray) (i : Nat) : (s ++ t).get! (s.size + i) = t.get! i := by
  show (s ++ t).data[s.size + i]! = t.data[i]!
  have hs : s.size = s.data.size := rfl
  rw [ByteArray.data_append, getElem!_def, getElem!_def, Array.getElem?_append_right (by omega), hs, Nat.add_sub_cancel_left]
theorem dec_right (s t : ByteArray) (i : Nat) : Utf8.decode (s ++ t) (s.size + i) = Utf8.decode t i := by
  rw [Lib.decode_at, Lib.decode_at, ByteArray.size_append]
  rw [show s.size + t.size - (s.size + i) = t.size - i by omega, get_app_r, show s.size + i + 1 = s.size + (i + 1) by omega, get_app_r, show s.size + i + 2 = s.size + (i + 2) by omega, get_app_r,
    show s.size + i + 3 = s.size + (i + 3) by omega, get_app_r]
theorem dec_left (s t : ByteArray) (i : Nat) (hi : i < s.size) (h : whole (0, Utf8.decode s i) = true) : Utf8.decode (s ++ t) i = Utf8.decode s i := by
  have b (x : ByteArray) (j : Nat) := gb_lt x j
  have hd : Utf8.decode s i = Lib.decodeN (s.size - i) (gb s i) (gb s (i + 1)) (gb s (i + 2)) (gb s (i + 3)) := Lib.decode_at s i
  have hd' : Utf8.decode (s ++ t) i = Lib.decodeN ((s ++ t).size - i) (gb (s ++ t) i) (gb (s ++ t) (i + 1)) (gb (s ++ t) (i + 2)) (gb (s ++ t) (i + 3)) := Lib.decode_at (s ++ t) i
  have hf := first_decode (m := s.size - i) (b s i) (b s (i + 1)) (b s (i + 2)) (b s (i + 3))
  have hf' := first_decode (m := (s ++ t).size - i) (b (s ++ t) i) (b (s ++ t) (i + 1)) (b (s ++ t) (i + 2)) (b (s ++ t) (i + 3))
  rw [← hd] at hf
  rw [← hd'] at hf'
  have g (j : Nat) (hj : j < s.size) : gb s j = gb (s ++ t) j := by unfold gb; rw [get_app_l s t j hj]
  have hm := first_more (m := s.size - i) (m' := (s ++ t).size - i) (b s i) (b s (i + 1)) (b s (i + 2)) (b s (i + 3)) (by rw [ByteArray.size_append]; omega) (by omega)
    (g i hi) (fun hh => g (i + 1) (by omega)) (fun hh => g (i + 2) (by omega)) (fun hh => g (i + 3) (by omega)) (by rw [hf]; exact h)
  rw [hf, hf'] at hm
  have e1 := congrArg (fun x : Nat × Nat × Bool => x.1) hm
  have e2 := congrArg (fun x : Nat × Nat × Bool => x.2.1) hm
  exact Prod.ext e1 e2
theorem st_left {s t : ByteArray} {n : Nat} (h : Signs s n) (hw : ∀ j, j < n → whole (0, Utf8.decode s (st s j)) = true) : ∀ j, j ≤ n → st (s ++ t) j = st s j := by
  intro j
  induction j with
  | zero => intro _; rfl
  | succ j ih =>
    intro hj
    show st (s ++ t) j + (Utf8.decode (s ++ t) (st (s ++ t) j)).2 = st s j + (Utf8.decode s (st s j)).2
    rw [ih (by omega), dec_left s t _ (h.lt j (by omega)) (hw j (by omega))]
theorem st_right {s t : ByteArray} {n : Nat} (h : Signs s n) (hw : ∀ j, j < n → whole (0, Utf8.decode s (st s j)) = true) : ∀ j, st (s ++ t) (n + j) = s.size + st t j := by
  intro j
  induction j with
  | zero => rw [Nat.add_zero, st_left h hw n (Nat.le_refl _), h.last]; rfl
  | succ j ih =>
    show st (s ++ t) (n + j) + (Utf8.decode (s ++ t) (st (s ++ t) (n + j))).2 = s.size + (st t j + (Utf8.decode t (st t j)).2)
    rw [ih, dec_right, Nat.add_assoc]
theorem signs_app {s t : ByteArray} {n m : Nat} (h : Signs s n) (h' : Signs t m) (hw : ∀ j, j < n → whole (0, Utf8.decode s (st s j)) = true) : Signs (s ++ t) (n + m) := by
  obtain ⟨N, hN⟩ := signs_ex (s ++ t)
  have hlast : st (s ++ t) (n + m) = (s ++ t).size := by rw [st_right h hw, h'.last, ByteArray.size_append]
  have hlt : ∀ j, j < n + m → st (s ++ t) j < (s ++ t).size := by
    intro j hj
    rw [ByteArray.size_append]
    by_cases hc : j < n
    · have := h.lt j hc
      rw [st_left h hw j (by omega)]
      omega
    · have := h'.lt (j - n) (by omega)
      have e := st_right (t := t) h hw (j - n)
      rw [show n + (j - n) = j by omega] at e
      rw [e]
      omega
  have : N = n + m := by
    rcases Nat.lt_trichotomy N (n + m) with hc | hc | hc
    · have := hlt N hc
      rw [hN.last] at this
      exact absurd this (Nat.lt_irrefl _)
    · exact hc
    · have := hN.lt _ hc
      rw [hlast] at this
      exact absurd this (Nat.lt_irrefl _)
  rw [← this]
  exact hN
theorem joins_loop {s t : ByteArray} {n m : Nat} (A B C : List Int) (hA : A.length = n) (hB : B.length = m) (hC : C.length = n + m) (hs : s.size ≤ 4096) (hn : n ≤ 4096) (hm : m ≤ 4096) (hb : ∀ j (h : j < B.length), 0 ≤ B[j] ∧ B[j] ≤ 4096)
    (h1 : ∀ j (h : j < n), C[j]'(by omega) = A[j]'(by omega)) (h2 : ∀ j (h : j < m), C[n + j]'(by omega) = (s.size : Int) + B[j]'(by omega)) (r : Option Bool)
    (hr : ∀ k, bureaulaw02_GlyphJoins.l0 (k + 1) s t A B C (C.length : Int) ((n + m : Nat) : Int) = r) :
    ∀ (c j k : Nat), j + c = n + m → bureaulaw02_GlyphJoins.l0 (c + k + 1) s t A B C (C.length : Int) (j : Int) = r := by
  intro c
  induction c with
  | zero =>
    intro j k hj
    rw [show j = n + m by omega]
    exact hr _
  | succ c ih =>
    intro j k hj
    have hi := ih (j + 1) k (by omega)
    have hwi : wrap64 ((j : Int) + 1) = ((j + 1 : Nat) : Int) := by rw [wrapZ _ (by omega) (by omega)]; omega
    have hrC := rd_nat C j (by omega)
    rw [show c + 1 + k + 1 = (c + k + 1) + 1 by omega, bureaulaw02_GlyphJoins.l0, hwi, if_pos (by omega), if_pos (by omega), if_pos (by omega)]
    by_cases hc : j < n
    · have hrA := rd_nat A j (by omega)
      rw [if_pos (by omega), hrC, hrA, h1 j hc, if_pos rfl, if_neg (by omega)]
      exact hi
    · have hw2 : wrap64 ((j : Int) - (A.length : Int)) = ((j - n : Nat) : Int) := by rw [wrapZ _ (by omega) (by omega)]; omega
      have hrB := rd_nat B (j - n) (by omega)
      have e := h2 (j - n) (by omega)
      have hbb := hb (j - n) (by omega)
      have e' : C[j]'(by omega) = (s.size : Int) + B[j - n]'(by omega) := by
        rw [← e]
        congr 1
        omega
      rw [if_neg (by omega), if_pos (by omega), hw2, if_pos (by omega), if_pos (by omega), hrC, hrB, e', wrapZ _ (by omega) (by omega), if_pos rfl]
      exact hi
theorem GlyphJoins : bureaulaw02_GlyphJoins.Pure := by
  intro s t _ _
  obtain ⟨n, h⟩ := signs_ex s
  obtain ⟨m, h'⟩ := signs_ex t
  have hn := h.le
  have hm := h'.le
  refine ⟨s.size + t.size + 20 + 2, ?_⟩
  unfold bureaulaw02_GlyphJoins.f
  have hal : bureaulaw02_alive.f (s.size + t.size + 20 + 2) = some true := by rw [show s.size + t.size + 20 + 2 = s.size + t.size + 2 + 20 by omega]; exact alive_eq _
  rw [hal, Option.bind_some, if_pos rfl]
  by_cases hs : (s.size : Int) > 4096
  · rw [if_pos hs, bureaulaw02_GlyphJoins.j0, if_pos rfl]
  rw [if_neg hs]
  by_cases ht : (t.size : Int) > 4096
  · rw [decide_eq_true ht, bureaulaw02_GlyphJoins.j0, if_pos rfl]
  have hV (x : ByteArray) : glyph_Valid.f x = some ((scan x x.size 0).all whole) := rfl
  have hall {x : ByteArray} {q : Nat} (hx : Signs x q) : (scan x x.size 0).all whole = true ↔ ∀ j, j < q → whole (0, Utf8.decode x (st x j)) = true := by
    rw [hx.eq, List.all_map, List.all_eq_true]
    constructor
    · intro hw j hj
      exact hw j (List.mem_range.2 hj)
    · intro hw j hj
      exact hw j (List.mem_range.1 hj)
  have hS {x : ByteArray} {q : Nat} (hx : Signs x q) (hz : x.size ≤ 1000000) : glyph_Starts.f x = some ((List.range q).map (fun t => ((st x t : Nat) : Int))) := by
    unfold glyph_Starts.f
    rw [if_pos hz, hx.eq, List.map_map]
    rfl
  rw [decide_eq_false ht, bureaulaw02_GlyphJoins.j0, if_neg (by decide), hV, Option.bind_some]
  by_cases hv : (scan s s.size 0).all whole = true
  · rw [if_pos hv]
    have hw := (hall h).1 hv
    have hst := signs_app h h' hw
    have hsz : (s ++ t).size = s.size + t.size := ByteArray.size_append
    rw [hS h (by omega), Option.bind_some, hS h' (by omega), Option.bind_some, if_pos (by omega), hS hst (by omega), Option.bind_some, if_pos (by simp only [List.length_map, List.length_range]; rw [wrapZ _ (by omega) (by omega)]; omega)]
    have hb := joins_loop (s := s) (t := t) (n := n) (m := m) ((List.range n).map (fun j => ((st s j : Nat) : Int))) ((List.range m).map (fun j => ((st t j : Nat) : Int))) ((List.range (n + m)).map (fun j => ((st (s ++ t) j : Nat) : Int)))
      (by simp) (by simp) (by simp) (by omega) (by omega) (by omega)
      (fun j hj => by
        simp only [List.length_map, List.length_range] at hj
        have := h'.lt j hj
        simp only [List.getElem_map, List.getElem_range]
        omega)
      (fun j hj => by simp only [List.getElem_map, List.getElem_range]; rw [st_left h hw j (by omega)])
      (fun j hj => by simp only [List.getElem_map, List.getElem_range]; rw [st_right h hw j]; omega) (some true)
      (fun k => by
        rw [bureaulaw02_GlyphJoins.l0, if_neg (by simp), if_pos (by omega), hV, hV, Option.bind_some, Option.bind_some]
        have key : (scan (s ++ t) (s ++ t).size 0).all whole = (scan t t.size 0).all whole := by
          rw [Bool.eq_iff_iff, hall hst, hall h']
          constructor
          · intro a j hj
            have := a (n + j) (by omega)
            rwa [st_right h hw, dec_right] at this
          · intro a j hj
            by_cases hc : j < n
            · rw [st_left h hw j (by omega), dec_left s t _ (h.lt j hc) (hw j hc)]
              exact hw j hc
            · have e := st_right (t := t) h hw (j - n)
              rw [show n + (j - n) = j by omega] at e
              rw [e, dec_right]
              exact a (j - n) (by omega)
        rw [key]
        cases (scan t t.size 0).all whole <;> rfl) (n + m) 0 (s.size + t.size - n - m + 20) (by omega)
    rw [show n + m + (s.size + t.size - n - m + 20) + 1 = s.size + t.size + 20 + 1 by omega] at hb
    exact hb
  · rw [if_neg hv]

end Go.Proofs.YtodlhgpmenhnoaaDoor.Pure
