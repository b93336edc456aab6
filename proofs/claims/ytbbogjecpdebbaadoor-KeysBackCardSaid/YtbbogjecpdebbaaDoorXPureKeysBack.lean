/- Keys come back from how they are written, and texts from their keys: for all lists and texts. -/
import Derived.Test.YtbbogjecpdebbaaDoorXKeysBackx1
import Derived.Test.YtbbogjecpdebbaaDoorExt10K
import Derived.OpenShut
set_option linter.unusedVariables false
set_option linter.unusedSimpArgs false
namespace Go.Proofs.YtbbogjecpdebbaaDoor.Pure
open Go.RowKit Go.Proofs.YtbbogjecpdebbaaDoor.XKeysBack Go.Proofs.YtbbogjecpdebbaaDoorW.PrintWords Go.Proofs.YtbbogjecpdebbaaDoorW.PrintMore Go.Proofs.YtbbogjecpdebbaaDoor.Ext

theorem alive_eq (k : Nat) : bureaulaw10_alive.f (k + 20) = some true := by
  have h : bureaulaw10_alive.f 20 = some true := by decide +kernel
  induction k with
  | zero => exact h
  | succ k ih =>
    have := bureaulaw10_alive.mono (k + 20) true ih
    rwa [show k + 1 + 20 = k + 20 + 1 by omega]
theorem tmodN (a b : Nat) : Int.tmod (a : Int) (b : Int) = ((a % b : Nat) : Int) := rfl
theorem tdivN (a b : Nat) : Int.tdiv (a : Int) (b : Int) = ((a / b : Nat) : Int) := rfl
theorem wrapN (a : Nat) (h : a < 9223372036854775808) : wrap64 (a : Int) = (a : Int) := by
  unfold wrap64
  omega
theorem wrapZ (a : Int) (h0 : -9223372036854775808 ≤ a) (h1 : a < 9223372036854775808) : wrap64 a = a := by
  unfold wrap64
  omega
/-- The byte of a text at a place, as a number. -/
def gb (s : ByteArray) (i : Nat) : Nat := (s.get! i).toNat
theorem gb_lt (s : ByteArray) (i : Nat) : gb s i < 256 := UInt8.toNat_lt _
theorem get_ext (s : ByteArray) (i n j : Nat) (h : i + n ≤ s.size) (hj : j < n) : (s.extract i (i + n)).get! j = s.get! (i + j) := by
  show (s.extract i (i + n)).data[j]! = s.data[i + j]!
  have hs : s.size = s.data.size := rfl
  rw [ByteArray.data_extract, getElem!_def, getElem!_def, Array.getElem?_extract, if_pos (by omega)]
theorem size_ext (s : ByteArray) (i n : Nat) (h : i + n ≤ s.size) : (s.extract i (i + n)).size = n := by
  rw [ByteArray.size_extract]
  omega
theorem bt_gb (x : ByteArray) (j : Nat) (hj : j < x.size) : bt x (j : Int) = ((gb x j : Nat) : Int) := by
  have h : ((j : Int).toNat) < x.size := by simpa using hj
  unfold bt gb
  rw [dif_pos h]
  have e : x[(j : Int).toNat]'h = x.get! j := by
    show x.data[j] = x.data[j]!
    rw [getElem!_pos x.data j hj]
  rw [e]
theorem list_bytes (x : ByteArray) : x.data.toList = (List.range x.size).map (fun j => x.get! j) := by
  apply List.ext_getElem?
  intro j
  have hs : x.size = x.data.size := rfl
  by_cases h : j < x.size
  · rw [List.getElem?_map, List.getElem?_range h]
    show x.data.toList[j]? = some x.data[j]!
    rw [getElem!_pos x.data j h]
    simp [hs ▸ h]
  · rw [List.getElem?_eq_none (by simp; omega), List.getElem?_eq_none (by simp; omega)]
/-! The numbers' bytes. -/
def enc (r : Nat) : List Nat :=
  if r < 128 then [r] else if r < 2048 then [192 + r / 64, 128 + r % 64] else if r < 65536 then [224 + r / 4096, 128 + r / 64 % 64, 128 + r % 64] else [240 + r / 262144, 128 + r / 4096 % 64, 128 + r / 64 % 64, 128 + r % 64]
def mayN (r : Nat) : Bool := r ≤ 1114111 && (r < 55296 || 57344 ≤ r)
theorem enc_lt {r : Nat} (h : r ≤ 1114111) : ∀ x ∈ enc r, x < 256 := by
  unfold enc
  intro x hx
  split at hx
  · simp only [List.mem_cons, List.not_mem_nil, or_false] at hx
    omega
  split at hx
  · simp only [List.mem_cons, List.not_mem_nil, or_false] at hx
    omega
  split at hx
  · simp only [List.mem_cons, List.not_mem_nil, or_false] at hx
    omega
  · simp only [List.mem_cons, List.not_mem_nil, or_false] at hx
    omega
/-! What the document's 'number' reads, and which so many bytes are a sign. -/
def numN (n b0 b1 b2 b3 : Nat) : Nat :=
  if n = 1 then b0 else if n = 2 then b0 % 32 * 64 + b1 % 64 else if n = 3 then (b0 % 16 * 64 + b1 % 64) * 64 + b2 % 64 else ((b0 % 8 * 64 + b1 % 64) * 64 + b2 % 64) * 64 + b3 % 64
theorem num1 (b0 b1 b2 b3 : Nat) : numN 1 b0 b1 b2 b3 = b0 := rfl
theorem num2 (b0 b1 b2 b3 : Nat) : numN 2 b0 b1 b2 b3 = b0 % 32 * 64 + b1 % 64 := rfl
theorem num3 (b0 b1 b2 b3 : Nat) : numN 3 b0 b1 b2 b3 = (b0 % 16 * 64 + b1 % 64) * 64 + b2 % 64 := rfl
theorem num4 (b0 b1 b2 b3 : Nat) : numN 4 b0 b1 b2 b3 = ((b0 % 8 * 64 + b1 % 64) * 64 + b2 % 64) * 64 + b3 % 64 := rfl
def okN (n b0 b1 b2 b3 : Nat) : Bool := mayN (numN n b0 b1 b2 b3) && enc (numN n b0 b1 b2 b3) == [b0, b1, b2, b3].take n
theorem ok1 {b0 : Nat} (b1 b2 b3 : Nat) (h0 : b0 < 256) : okN 1 b0 b1 b2 b3 = decide (b0 < 128) := by
  unfold okN mayN enc numN
  rw [if_pos rfl, Bool.eq_iff_iff]
  simp only [Bool.and_eq_true, Bool.or_eq_true, decide_eq_true_eq, beq_iff_eq, List.take_succ_cons, List.take_zero]
  constructor
  · rintro ⟨_, h⟩
    split at h
    · assumption
    · exfalso
      split at h
      · simp only [List.cons.injEq] at h
        exact absurd h.2 (by simp)
      split at h
      · simp only [List.cons.injEq] at h
        exact absurd h.2 (by simp)
      · simp only [List.cons.injEq] at h
        exact absurd h.2 (by simp)
  · intro h
    exact ⟨by omega, by rw [if_pos h]⟩
theorem ok2 {b0 b1 : Nat} (b2 b3 : Nat) (h0 : b0 < 256) (h1 : b1 < 256) : okN 2 b0 b1 b2 b3 = decide (b0 / 32 = 6 ∧ b1 / 64 = 2 ∧ 128 ≤ b0 % 32 * 64 + b1 % 64) := by
  unfold okN mayN enc numN
  rw [if_neg (by omega), if_pos rfl, Bool.eq_iff_iff]
  simp only [Bool.and_eq_true, Bool.or_eq_true, decide_eq_true_eq, beq_iff_eq, List.take_succ_cons, List.take_zero]
  generalize hr : b0 % 32 * 64 + b1 % 64 = r
  constructor
  · rintro ⟨_, h⟩
    split at h
    · cases h
    split at h
    · simp only [List.cons.injEq, and_true] at h
      omega
    split at h
    · cases h
    · cases h
  · intro h
    refine ⟨by omega, ?_⟩
    rw [if_neg (by omega), if_pos (by omega)]
    simp only [List.cons.injEq, and_true]
    omega
theorem ok3 {b0 b1 b2 : Nat} (b3 : Nat) (h0 : b0 < 256) (h1 : b1 < 256) (h2 : b2 < 256) : okN 3 b0 b1 b2 b3 =
    decide (b0 / 16 = 14 ∧ b1 / 64 = 2 ∧ b2 / 64 = 2 ∧ 2048 ≤ b0 % 16 * 4096 + b1 % 64 * 64 + b2 % 64 ∧ (b0 % 16 * 4096 + b1 % 64 * 64 + b2 % 64 < 55296 ∨ 57344 ≤ b0 % 16 * 4096 + b1 % 64 * 64 + b2 % 64)) := by
  unfold okN mayN enc numN
  rw [if_neg (by omega), if_neg (by omega), if_pos rfl, Bool.eq_iff_iff]
  simp only [Bool.and_eq_true, Bool.or_eq_true, decide_eq_true_eq, beq_iff_eq, List.take_succ_cons, List.take_zero]
  rw [show (b0 % 16 * 64 + b1 % 64) * 64 + b2 % 64 = b0 % 16 * 4096 + b1 % 64 * 64 + b2 % 64 by omega]
  generalize hr : b0 % 16 * 4096 + b1 % 64 * 64 + b2 % 64 = r
  constructor
  · rintro ⟨_, h⟩
    split at h
    · cases h
    split at h
    · cases h
    split at h
    · simp only [List.cons.injEq, and_true] at h
      omega
    · cases h
  · intro h
    refine ⟨by omega, ?_⟩
    rw [if_neg (by omega), if_neg (by omega), if_pos (by omega)]
    simp only [List.cons.injEq, and_true]
    omega
theorem ok4 {b0 b1 b2 b3 : Nat} (h0 : b0 < 256) (h1 : b1 < 256) (h2 : b2 < 256) (h3 : b3 < 256) : okN 4 b0 b1 b2 b3 =
    decide (b0 / 8 = 30 ∧ b1 / 64 = 2 ∧ b2 / 64 = 2 ∧ b3 / 64 = 2 ∧ 65536 ≤ b0 % 8 * 262144 + b1 % 64 * 4096 + b2 % 64 * 64 + b3 % 64 ∧ b0 % 8 * 262144 + b1 % 64 * 4096 + b2 % 64 * 64 + b3 % 64 ≤ 1114111) := by
  unfold okN mayN enc numN
  rw [if_neg (by omega), if_neg (by omega), if_neg (by omega), Bool.eq_iff_iff]
  simp only [Bool.and_eq_true, Bool.or_eq_true, decide_eq_true_eq, beq_iff_eq, List.take_succ_cons, List.take_zero]
  rw [show ((b0 % 8 * 64 + b1 % 64) * 64 + b2 % 64) * 64 + b3 % 64 = b0 % 8 * 262144 + b1 % 64 * 4096 + b2 % 64 * 64 + b3 % 64 by omega]
  generalize hr : b0 % 8 * 262144 + b1 % 64 * 4096 + b2 % 64 * 64 + b3 % 64 = r
  constructor
  · rintro ⟨_, h⟩
    split at h
    · cases h
    split at h
    · cases h
    split at h
    · cases h
    · simp only [List.cons.injEq, and_true] at h
      omega
  · intro h
    refine ⟨by omega, ?_⟩
    rw [if_neg (by omega), if_neg (by omega), if_neg (by omega)]
    simp only [List.cons.injEq, and_true]
    omega
/-- The model's decoding, by which so many bytes are a sign. -/
def firstOk (m b0 b1 b2 b3 : Nat) : Nat × Nat × Bool :=
  if okN 1 b0 b1 b2 b3 = true then (numN 1 b0 b1 b2 b3, 1, true)
  else if 2 ≤ m ∧ okN 2 b0 b1 b2 b3 = true then (numN 2 b0 b1 b2 b3, 2, true)
  else if 3 ≤ m ∧ okN 3 b0 b1 b2 b3 = true then (numN 3 b0 b1 b2 b3, 3, true)
  else if 4 ≤ m ∧ okN 4 b0 b1 b2 b3 = true then (numN 4 b0 b1 b2 b3, 4, true)
  else (65533, 1, false)
theorem first_decode {m b0 b1 b2 b3 : Nat} (h0 : b0 < 256) (h1 : b1 < 256) (h2 : b2 < 256) (h3 : b3 < 256) :
    firstOk m b0 b1 b2 b3 = ((Lib.decodeN m b0 b1 b2 b3).1, (Lib.decodeN m b0 b1 b2 b3).2, whole (0, Lib.decodeN m b0 b1 b2 b3)) := by
  unfold firstOk
  rw [ok1 b1 b2 b3 h0, ok2 b2 b3 h0 h1, ok3 b3 h0 h1 h2, ok4 h0 h1 h2 h3]
  simp only [decide_eq_true_eq]
  have n1 : numN 1 b0 b1 b2 b3 = b0 := rfl
  have n2 : numN 2 b0 b1 b2 b3 = b0 % 32 * 64 + b1 % 64 := rfl
  have n3 : numN 3 b0 b1 b2 b3 = b0 % 16 * 4096 + b1 % 64 * 64 + b2 % 64 := by unfold numN; rw [if_neg (by omega), if_neg (by omega), if_pos rfl]; omega
  have n4 : numN 4 b0 b1 b2 b3 = b0 % 8 * 262144 + b1 % 64 * 4096 + b2 % 64 * 64 + b3 % 64 := by unfold numN; rw [if_neg (by omega), if_neg (by omega), if_neg (by omega)]; omega
  rw [n1, n2, n3, n4]
  unfold Lib.decodeN
  by_cases c1 : b0 < 128
  · rw [if_pos c1, if_pos c1]
    have : (b0 == 65533) = false := by rw [beq_eq_false_iff_ne]; omega
    simp [whole, this]
  rw [if_neg c1, if_neg c1]
  by_cases c2 : b0 / 32 = 6 ∧ (1 < m ∧ b1 / 64 = 2)
  · rw [if_pos c2]
    by_cases d2 : b0 % 32 * 64 + b1 % 64 ≥ 128
    · rw [if_pos d2, if_pos (by omega)]
      simp [whole]
    · rw [if_neg d2, if_neg (by omega), if_neg (by omega), if_neg (by omega)]
      rfl
  rw [if_neg c2, if_neg (by omega)]
  by_cases c3 : b0 / 16 = 14 ∧ (1 < m ∧ b1 / 64 = 2) ∧ (2 < m ∧ b2 / 64 = 2)
  · rw [if_pos c3]
    by_cases d3 : b0 % 16 * 4096 + b1 % 64 * 64 + b2 % 64 ≥ 2048 ∧ (b0 % 16 * 4096 + b1 % 64 * 64 + b2 % 64 < 55296 ∨ (57344 ≤ b0 % 16 * 4096 + b1 % 64 * 64 + b2 % 64 ∧ b0 % 16 * 4096 + b1 % 64 * 64 + b2 % 64 ≤ 1114111))
    · rw [if_pos d3, if_pos (by omega)]
      simp [whole]
    · rw [if_neg d3, if_neg (by omega), if_neg (by omega)]
      rfl
  rw [if_neg c3, if_neg (by omega)]
  by_cases c4 : b0 / 8 = 30 ∧ (1 < m ∧ b1 / 64 = 2) ∧ (2 < m ∧ b2 / 64 = 2) ∧ (3 < m ∧ b3 / 64 = 2)
  · rw [if_pos c4]
    by_cases d4 : b0 % 8 * 262144 + b1 % 64 * 4096 + b2 % 64 * 64 + b3 % 64 ≥ 65536 ∧ (b0 % 8 * 262144 + b1 % 64 * 4096 + b2 % 64 * 64 + b3 % 64 < 55296 ∨ (57344 ≤ b0 % 8 * 262144 + b1 % 64 * 4096 + b2 % 64 * 64 + b3 % 64 ∧ b0 % 8 * 262144 + b1 % 64 * 4096 + b2 % 64 * 64 + b3 % 64 ≤ 1114111))
    · rw [if_pos d4, if_pos (by omega)]
      simp [whole]
    · rw [if_neg d4, if_neg (by omega)]
      rfl
  rw [if_neg c4, if_neg (by omega)]
  rfl
theorem decN_le (n b0 b1 b2 b3 : Nat) : (Lib.decodeN n b0 b1 b2 b3).2 ≤ 4 := by
  unfold Lib.decodeN
  repeat' split
  all_goals (simp only; omega)
theorem decN_fits (n b0 b1 b2 b3 : Nat) (hn : 1 ≤ n) : (Lib.decodeN n b0 b1 b2 b3).2 ≤ n := by
  unfold Lib.decodeN
  repeat' split
  all_goals (simp only; omega)
theorem decN_rune (n b0 b1 b2 b3 : Nat) (h : b0 < 256) : (Lib.decodeN n b0 b1 b2 b3).1 ≤ 1114111 := by
  unfold Lib.decodeN
  repeat' split
  all_goals (simp only; omega)
theorem dec_le (s : ByteArray) (i : Nat) : (Utf8.decode s i).1 ≤ 1114111 := by
  rw [Lib.decode_at]
  exact decN_rune _ _ _ _ _ (UInt8.toNat_lt _)
theorem width_le4 (s : ByteArray) (i : Nat) : (Utf8.decode s i).2 ≤ 4 := by
  rw [Lib.decode_at]
  exact decN_le _ _ _ _ _
theorem width_fits (s : ByteArray) (i : Nat) (h : i < s.size) : i + (Utf8.decode s i).2 ≤ s.size := by
  rw [Lib.decode_at]
  have := decN_fits (s.size - i) (s.get! i).toNat (s.get! (i + 1)).toNat (s.get! (i + 2)).toNat (s.get! (i + 3)).toNat (by omega)
  omega
/-! A list of numbers, as bytes. -/
def fixR (r : Int) : Nat := if Utf8.valid r then r.toNat else 65533
theorem fix_may (r : Int) : mayN (fixR r) = true := by
  unfold fixR mayN
  split
  · rename_i h
    simp only [Utf8.valid, Bool.or_eq_true, Bool.and_eq_true, decide_eq_true_eq] at h ⊢
    omega
  · rfl
theorem encode_eq (r : Int) : (Utf8.encode r).data.toList = (enc (fixR r)).map UInt8.ofNat := by
  unfold Utf8.encode enc
  have hf : (if Utf8.valid r = true then r.toNat else Utf8.runeError) = fixR r := rfl
  simp only [hf]
  repeat' split
  all_goals rfl
theorem enc_len (r : Nat) : 1 ≤ (enc r).length ∧ (enc r).length ≤ 4 := by
  unfold enc
  split
  · simp
  split
  · simp
  split
  · simp
  · simp
theorem may_le {r : Nat} (h : mayN r = true) : r ≤ 1114111 := by
  simp only [mayN, Bool.and_eq_true, decide_eq_true_eq] at h
  exact h.1
theorem decN_1 {n b0 b1 b2 b3 : Nat} (h : b0 < 128) : Lib.decodeN n b0 b1 b2 b3 = (b0, 1) := by
  unfold Lib.decodeN
  rw [if_pos h]
theorem decN_2 {n b0 b1 b2 b3 : Nat} (h : b0 / 32 = 6) (hn : 1 < n) (h1 : b1 / 64 = 2) (hv : 128 ≤ b0 % 32 * 64 + b1 % 64) : Lib.decodeN n b0 b1 b2 b3 = (b0 % 32 * 64 + b1 % 64, 2) := by
  have c1 : ¬ b0 < 128 := by omega
  have c2 : b0 / 32 = 6 ∧ (1 < n ∧ b1 / 64 = 2) := ⟨h, hn, h1⟩
  unfold Lib.decodeN
  rw [if_neg c1, if_pos c2, if_pos hv]
theorem decN_3 {n b0 b1 b2 b3 : Nat} (h : b0 / 16 = 14) (hn : 2 < n) (h1 : b1 / 64 = 2) (h2 : b2 / 64 = 2) (hv : 2048 ≤ b0 % 16 * 4096 + b1 % 64 * 64 + b2 % 64)
    (hs : b0 % 16 * 4096 + b1 % 64 * 64 + b2 % 64 < 55296 ∨ 57344 ≤ b0 % 16 * 4096 + b1 % 64 * 64 + b2 % 64) : Lib.decodeN n b0 b1 b2 b3 = (b0 % 16 * 4096 + b1 % 64 * 64 + b2 % 64, 3) := by
  have c1 : ¬ b0 < 128 := by omega
  have c2 : ¬ (b0 / 32 = 6 ∧ (1 < n ∧ b1 / 64 = 2)) := by omega
  have c3 : b0 / 16 = 14 ∧ (1 < n ∧ b1 / 64 = 2) ∧ (2 < n ∧ b2 / 64 = 2) := ⟨h, ⟨by omega, h1⟩, hn, h2⟩
  have c4 : b0 % 16 * 4096 + b1 % 64 * 64 + b2 % 64 ≥ 2048 ∧ (b0 % 16 * 4096 + b1 % 64 * 64 + b2 % 64 < 55296 ∨ (57344 ≤ b0 % 16 * 4096 + b1 % 64 * 64 + b2 % 64 ∧ b0 % 16 * 4096 + b1 % 64 * 64 + b2 % 64 ≤ 1114111)) := ⟨hv, by omega⟩
  unfold Lib.decodeN
  rw [if_neg c1, if_neg c2, if_pos c3, if_pos c4]
theorem decN_4 {n b0 b1 b2 b3 : Nat} (h : b0 / 8 = 30) (hn : 3 < n) (h1 : b1 / 64 = 2) (h2 : b2 / 64 = 2) (h3 : b3 / 64 = 2) (hv : 65536 ≤ b0 % 8 * 262144 + b1 % 64 * 4096 + b2 % 64 * 64 + b3 % 64)
    (hs : b0 % 8 * 262144 + b1 % 64 * 4096 + b2 % 64 * 64 + b3 % 64 ≤ 1114111) : Lib.decodeN n b0 b1 b2 b3 = (b0 % 8 * 262144 + b1 % 64 * 4096 + b2 % 64 * 64 + b3 % 64, 4) := by
  have c1 : ¬ b0 < 128 := by omega
  have c2 : ¬ (b0 / 32 = 6 ∧ (1 < n ∧ b1 / 64 = 2)) := by omega
  have c3 : ¬ (b0 / 16 = 14 ∧ (1 < n ∧ b1 / 64 = 2) ∧ (2 < n ∧ b2 / 64 = 2)) := by omega
  have c4 : b0 / 8 = 30 ∧ (1 < n ∧ b1 / 64 = 2) ∧ (2 < n ∧ b2 / 64 = 2) ∧ (3 < n ∧ b3 / 64 = 2) := ⟨h, ⟨by omega, h1⟩, ⟨by omega, h2⟩, hn, h3⟩
  have c5 : b0 % 8 * 262144 + b1 % 64 * 4096 + b2 % 64 * 64 + b3 % 64 ≥ 65536 ∧ (b0 % 8 * 262144 + b1 % 64 * 4096 + b2 % 64 * 64 + b3 % 64 < 55296 ∨ (57344 ≤ b0 % 8 * 262144 + b1 % 64 * 4096 + b2 % 64 * 64 + b3 % 64 ∧ b0 % 8 * 262144 + b1 % 64 * 4096 + b2 % 64 * 64 + b3 % 64 ≤ 1114111)) := ⟨hv, by omega⟩
  unfold Lib.decodeN
  rw [if_neg c1, if_neg c2, if_neg c3, if_pos c4, if_pos c5]
theorem decN_shape (n b0 b1 b2 b3 : Nat) :
    (b0 < 128 ∧ Lib.decodeN n b0 b1 b2 b3 = (b0, 1)) ∨
    (b0 / 32 = 6 ∧ 1 < n ∧ b1 / 64 = 2 ∧ 128 ≤ b0 % 32 * 64 + b1 % 64 ∧ Lib.decodeN n b0 b1 b2 b3 = (b0 % 32 * 64 + b1 % 64, 2)) ∨
    (b0 / 16 = 14 ∧ 2 < n ∧ b1 / 64 = 2 ∧ b2 / 64 = 2 ∧ 2048 ≤ b0 % 16 * 4096 + b1 % 64 * 64 + b2 % 64 ∧ (b0 % 16 * 4096 + b1 % 64 * 64 + b2 % 64 < 55296 ∨ 57344 ≤ b0 % 16 * 4096 + b1 % 64 * 64 + b2 % 64) ∧
      Lib.decodeN n b0 b1 b2 b3 = (b0 % 16 * 4096 + b1 % 64 * 64 + b2 % 64, 3)) ∨
    (b0 / 8 = 30 ∧ 3 < n ∧ b1 / 64 = 2 ∧ b2 / 64 = 2 ∧ b3 / 64 = 2 ∧ 65536 ≤ b0 % 8 * 262144 + b1 % 64 * 4096 + b2 % 64 * 64 + b3 % 64 ∧ b0 % 8 * 262144 + b1 % 64 * 4096 + b2 % 64 * 64 + b3 % 64 ≤ 1114111 ∧
      Lib.decodeN n b0 b1 b2 b3 = (b0 % 8 * 262144 + b1 % 64 * 4096 + b2 % 64 * 64 + b3 % 64, 4)) ∨
    Lib.decodeN n b0 b1 b2 b3 = (65533, 1) := by
  unfold Lib.decodeN
  repeat' split
  all_goals first
    | (left; exact ⟨by assumption, by rfl⟩)
    | (right; left; exact ⟨by omega, by omega, by omega, by omega, by rfl⟩)
    | (right; right; left; exact ⟨by omega, by omega, by omega, by omega, by omega, by omega, by rfl⟩)
    | (right; right; right; left; exact ⟨by omega, by omega, by omega, by omega, by omega, by omega, by omega, by rfl⟩)
    | (right; right; right; right; rfl)
/-- A sign that fits stays what it is when the text is cut behind it. -/
theorem decN_cut {m m' b0 b1 b2 b3 c1 c2 c3 : Nat} (hm : 1 ≤ m) (hmm : m ≤ m') (e1 : 1 < m → b1 = c1) (e2 : 2 < m → b2 = c2) (e3 : 3 < m → b3 = c3)
    (hw : (Lib.decodeN m' b0 c1 c2 c3).2 ≤ m) : Lib.decodeN m b0 b1 b2 b3 = Lib.decodeN m' b0 c1 c2 c3 := by
  rcases decN_shape m' b0 c1 c2 c3 with ⟨h0, h⟩ | ⟨h0, hn, h1, hv, h⟩ | ⟨h0, hn, h1, h2, hv, hs, h⟩ | ⟨h0, hn, h1, h2, h3, hv, hs, h⟩ | h
  · rw [h, decN_1 h0]
  · rw [h] at hw ⊢
    have hw : 2 ≤ m := hw
    have e1 := e1 (by omega)
    subst e1
    rw [decN_2 h0 (by omega) h1 hv]
  · rw [h] at hw ⊢
    have hw : 3 ≤ m := hw
    have e1 := e1 (by omega)
    have e2 := e2 (by omega)
    subst e1 e2
    rw [decN_3 h0 (by omega) h1 h2 hv hs]
  · rw [h] at hw ⊢
    have hw : 4 ≤ m := hw
    have e1 := e1 (by omega)
    have e2 := e2 (by omega)
    have e3 := e3 (by omega)
    subst e1 e2 e3
    rw [decN_4 h0 (by omega) h1 h2 h3 hv hs]
  · have key : ∀ x, Lib.decodeN m' b0 c1 c2 c3 = x → Lib.decodeN m b0 b1 b2 b3 = x → Lib.decodeN m b0 b1 b2 b3 = Lib.decodeN m' b0 c1 c2 c3 := fun x h1 h2 => by rw [h1, h2]
    rcases decN_shape m b0 b1 b2 b3 with ⟨g0, g⟩ | ⟨g0, gn, g1, gv, g⟩ | ⟨g0, gn, g1, g2, gv, gs, g⟩ | ⟨g0, gn, g1, g2, g3, gv, gs, g⟩ | g
    · exact key _ (decN_1 g0) g
    · have e1 := e1 (by omega)
      subst e1
      exact key _ (decN_2 g0 (by omega) g1 gv) g
    · have e1 := e1 (by omega)
      have e2 := e2 (by omega)
      subst e1 e2
      exact key _ (decN_3 g0 (by omega) g1 g2 gv gs) g
    · have e1 := e1 (by omega)
      have e2 := e2 (by omega)
      have e3 := e3 (by omega)
      subst e1 e2 e3
      exact key _ (decN_4 g0 (by omega) g1 g2 g3 gv gs) g
    · rw [g, h]
theorem gb_drop {s : ByteArray} {off : Nat} {x : UInt8} {rest : List UInt8} (h : s.data.toList.drop off = x :: rest) : off < s.size ∧ gb s off = x.toNat ∧ s.data.toList.drop (off + 1) = rest := by
  have hs : s.size = s.data.toList.length := by rw [Array.length_toList]; rfl
  have hlt : off < s.data.toList.length := by
    by_cases hc : off < s.data.toList.length
    · exact hc
    · rw [List.drop_of_length_le (by omega)] at h
      cases h
  rw [List.drop_eq_getElem_cons hlt] at h
  simp only [List.cons.injEq] at h
  refine ⟨by omega, ?_, h.2⟩
  have : s.get! off = s.data.toList[off] := by
    show s.data[off]! = _
    rw [getElem!_pos s.data off (by simpa using hlt)]
    simp
  unfold gb
  rw [this, h.1]
theorem dec_enc {s : ByteArray} {off r : Nat} (hr : mayN r = true) (rest : List UInt8) (h : s.data.toList.drop off = (enc r).map UInt8.ofNat ++ rest) :
    off < s.size ∧ Utf8.decode s off = (r, (enc r).length) ∧ s.data.toList.drop (off + (enc r).length) = rest := by
  have hm : r ≤ 1114111 ∧ (r < 55296 ∨ 57344 ≤ r) := by
    simp only [mayN, Bool.and_eq_true, Bool.or_eq_true, decide_eq_true_eq] at hr
    exact hr
  have hd : Utf8.decode s off = Lib.decodeN (s.size - off) (gb s off) (gb s (off + 1)) (gb s (off + 2)) (gb s (off + 3)) := Lib.decode_at s off
  have ofn (x : Nat) (h : x < 256) : (UInt8.ofNat x).toNat = x := by rw [UInt8.toNat_ofNat']; omega
  rw [hd]
  clear hd
  unfold enc at h ⊢
  by_cases c1 : r < 128
  · rw [if_pos c1] at h ⊢
    simp only [List.map_cons, List.map_nil, List.cons_append, List.nil_append] at h
    obtain ⟨l0, g0, h0⟩ := gb_drop h
    rw [ofn _ (by omega)] at g0
    refine ⟨l0, ?_, h0⟩
    unfold Lib.decodeN
    rw [g0, if_pos c1]
    rfl
  rw [if_neg c1] at h ⊢
  by_cases c2 : r < 2048
  · rw [if_pos c2] at h ⊢
    simp only [List.map_cons, List.map_nil, List.cons_append, List.nil_append] at h
    obtain ⟨l0, g0, h0⟩ := gb_drop h
    obtain ⟨l1, g1, h1⟩ := gb_drop h0
    rw [ofn _ (by omega)] at g0 g1
    refine ⟨l0, ?_, h1⟩
    unfold Lib.decodeN
    rw [g0, g1, if_neg (by omega), if_pos (by omega), if_pos (by omega)]
    simp only [List.length_cons, List.length_nil, Prod.mk.injEq, and_true]
    omega
  rw [if_neg c2] at h ⊢
  by_cases c3 : r < 65536
  · rw [if_pos c3] at h ⊢
    simp only [List.map_cons, List.map_nil, List.cons_append, List.nil_append] at h
    obtain ⟨l0, g0, h0⟩ := gb_drop h
    obtain ⟨l1, g1, h1⟩ := gb_drop h0
    obtain ⟨l2, g2, h2⟩ := gb_drop h1
    rw [show off + 1 + 1 = off + 2 from rfl] at g2 l2
    rw [ofn _ (by omega)] at g0 g1 g2
    refine ⟨l0, ?_, h2⟩
    unfold Lib.decodeN
    rw [g0, g1, g2, if_neg (by omega), if_neg (by omega), if_pos (by omega), if_pos (by omega)]
    simp only [List.length_cons, List.length_nil, Prod.mk.injEq, and_true]
    omega
  · rw [if_neg c3] at h ⊢
    simp only [List.map_cons, List.map_nil, List.cons_append, List.nil_append] at h
    obtain ⟨l0, g0, h0⟩ := gb_drop h
    obtain ⟨l1, g1, h1⟩ := gb_drop h0
    obtain ⟨l2, g2, h2⟩ := gb_drop h1
    obtain ⟨l3, g3, h3⟩ := gb_drop h2
    rw [show off + 1 + 1 = off + 2 from rfl] at g2 l2
    rw [show off + 1 + 1 + 1 = off + 3 from rfl] at g3 l3
    rw [ofn _ (by omega)] at g0 g1 g2 g3
    refine ⟨l0, ?_, h3⟩
    unfold Lib.decodeN
    rw [g0, g1, g2, g3, if_neg (by omega), if_neg (by omega), if_neg (by omega), if_pos (by omega), if_pos (by omega)]
    simp only [List.length_cons, List.length_nil, Prod.mk.injEq, and_true]
    omega
theorem size_list (s : ByteArray) : s.size = s.data.toList.length := by rw [Array.length_toList]; rfl
theorem names_ok : ∀ i : Nat, i < 61 → (1 ≤ i ∧ i ≤ 27 ∨ i = 60) → keyZ (nameB (i : Int)) = (i : Int) ∧ (nameB (i : Int)).all (fun x => decide (x.toNat < 128) && (x != 62)) = true ∧ mayZ (i : Int) = true ∧ nameB (i : Int) ≠ [] := by decide +kernel
theorem named {r : Int} (h : mayZ r = true) (hn : ¬ nameB r = []) : ∃ i : Nat, r = (i : Int) ∧ i < 61 ∧ (1 ≤ i ∧ i ≤ 27 ∨ i = 60) := by
  have hb := may_bounds h
  refine ⟨r.toNat, by omega, ?_⟩
  by_cases h60 : r = 60
  · omega
  by_cases h32 : r < 32
  · simp only [mayZ, Bool.or_eq_true, Bool.and_eq_true, decide_eq_true_eq] at h
    omega
  · exact absurd (by unfold nameB; rw [if_neg (by omega), if_neg (by omega), if_neg (by omega), if_neg (by omega), if_neg h60, if_neg h32]) hn
theorem ascii_at {s : ByteArray} {off : Nat} {c : UInt8} {rest : List UInt8} (hc : c.toNat < 128) (h : s.data.toList.drop off = c :: rest) : off < s.size ∧ Utf8.decode s off = (c.toNat, 1) ∧ s.data.toList.drop (off + 1) = rest := by
  obtain ⟨h1, h2, h3⟩ := gb_drop h
  refine ⟨h1, ?_, h3⟩
  have hd : Utf8.decode s off = Lib.decodeN (s.size - off) (gb s off) (gb s (off + 1)) (gb s (off + 2)) (gb s (off + 3)) := Lib.decode_at s off
  rw [hd, h2]
  exact decN_1 hc
theorem open_run (s : ByteArray) (o : Int) (ho : o ≥ 0) (acc : List Int) : ∀ (n : List UInt8) (off b : Nat) (rest : List UInt8), n.all (fun x => decide (x.toNat < 128) && (x != 62)) = true → s.data.toList.drop off = n ++ rest → s.size ≤ off + b →
    ∃ b', pz s (scan s b off) o acc = pz s (scan s b' (off + n.length)) o acc ∧ s.size ≤ off + n.length + b' ∧ (scan s b off).all whole = (scan s b' (off + n.length)).all whole ∧ s.data.toList.drop (off + n.length) = rest := by
  intro n
  induction n with
  | nil => intro off b rest _ h hb; exact ⟨b, rfl, hb, rfl, h⟩
  | cons c n ih =>
    intro off b rest hall h hb
    simp only [List.all_cons, Bool.and_eq_true, decide_eq_true_eq, bne_iff_ne] at hall
    obtain ⟨⟨hc, hne⟩, hall⟩ := hall
    obtain ⟨h1, h2, h3⟩ := ascii_at hc h
    cases b with
    | zero => omega
    | succ b =>
      obtain ⟨b', e1, e2, e3, e4⟩ := ih (off + 1) b rest hall h3 (by omega)
      have hc62 : ¬ ((c.toNat : Nat) : Int) = 62 := by
        intro hh
        apply hne
        apply UInt8.toNat_inj.1
        show c.toNat = 62
        omega
      have hw : whole (off, c.toNat, 1) = true := by
        have : (c.toNat == 65533) = false := by rw [beq_eq_false_iff_ne]; omega
        simp [whole, this]
      rw [List.length_cons, show off + (n.length + 1) = off + 1 + n.length by omega]
      refine ⟨b', ?_, e2, ?_, e4⟩
      · rw [scan, if_pos h1, h2, pz_in s off c.toNat 1 _ o acc ho hc62]
        exact e1
      · rw [scan, if_pos h1, h2, List.all_cons, hw, Bool.true_and]
        exact e3
theorem ext_list (s : ByteArray) (a b : Nat) : (s.extract a b).data.toList = (s.data.toList.drop a).take (b - a) := by
  rw [ByteArray.data_extract, Array.toList_extract, List.extract_eq_take_drop]
theorem parse_run (s : ByteArray) : ∀ (l : List Int) (off b : Nat) (acc : List Int), l.all mayZ = true → s.data.toList.drop off = l.flatMap writB → s.size ≤ off + b →
    pz s (scan s b off) (-1) acc = some (acc ++ l) ∧ (scan s b off).all whole = true := by
  intro l
  induction l with
  | nil =>
    intro off b acc _ h hb
    have : ¬ off < s.size := by
      intro hc
      rw [List.drop_eq_getElem_cons (by rw [← size_list]; exact hc)] at h
      simp at h
    rw [scan_end s b off this]
    exact ⟨by rw [pz_nil s _ _ (by decide), List.append_nil], rfl⟩
  | cons r l ih =>
    intro off b acc hall h hb
    rw [List.all_cons, Bool.and_eq_true] at hall
    obtain ⟨hm, hall⟩ := hall
    rw [List.flatMap_cons] at h
    have hbd := may_bounds hm
    have hv := may_valid hm
    by_cases hn : nameB r = []
    · have hw : writB r = (Utf8.encode r).data.toList := by unfold writB; rw [if_pos hn]
      have hvv : mayN r.toNat = true := by
        simp only [validZ, decide_eq_true_eq] at hv
        simp only [mayN, Bool.and_eq_true, Bool.or_eq_true, decide_eq_true_eq]
        omega
      have hfx : fixR r = r.toNat := by
        simp only [validZ, decide_eq_true_eq] at hv
        have : Utf8.valid r = true := by
          simp only [Utf8.valid, Bool.or_eq_true, Bool.and_eq_true, decide_eq_true_eq]
          omega
        unfold fixR
        rw [if_pos this]
      rw [hw, encode_eq, hfx] at h
      obtain ⟨h1, h2, h3⟩ := dec_enc hvv _ h
      have hl := enc_len r.toNat
      have hr : ((r.toNat : Nat) : Int) = r := by omega
      have h60 : ¬ r = 60 := by
        intro hh
        rw [hh] at hn
        exact absurd hn (by decide)
      have h32 : ¬ r < 32 := by
        intro hh
        have h27 : 1 ≤ r ∧ r ≤ 27 := by
          simp only [mayZ, Bool.or_eq_true, Bool.and_eq_true, decide_eq_true_eq] at hm
          omega
        have := (names_ok r.toNat (by omega) (by omega)).2.2.2
        rw [hr] at this
        exact this hn
      cases b with
      | zero => omega
      | succ b =>
        obtain ⟨e1, e2⟩ := ih (off + (enc r.toNat).length) b (acc ++ [r]) hall h3 (by omega)
        rw [scan, if_pos h1, h2]
        refine ⟨?_, ?_⟩
        · rw [pz_sign s off r.toNat _ _ (-1) acc (by decide) (by rw [hr]; exact h60) (by rw [hr]; exact h32) (by rw [hr]; exact hm), hr, e1, List.append_assoc]
          rfl
        · rw [List.all_cons, e2, Bool.and_true]
          unfold whole
          by_cases h5 : r.toNat = 65533
          · rw [h5]
            rfl
          · simp [h5]
    · obtain ⟨i, rfl, hi, hi2⟩ := named hm hn
      obtain ⟨k1, k2, k3, k4⟩ := names_ok i hi hi2
      have hw : writB (i : Int) = 60 :: nameB (i : Int) ++ [62] := by unfold writB; rw [if_neg hn]
      rw [hw, List.cons_append, List.cons_append, List.append_assoc] at h
      obtain ⟨h1, h2, h3⟩ := ascii_at (by decide) h
      cases b with
      | zero => omega
      | succ b =>
        obtain ⟨b', e1, e2, e3, e4⟩ := open_run s (off : Int) (by omega) acc (nameB (i : Int)) (off + 1) b _ k2 h3 (by omega)
        obtain ⟨g1, g2, g3⟩ := ascii_at (c := 62) (by decide) e4
        have hname : (s.extract ((off : Int) + 1).toNat (off + 1 + (nameB (i : Int)).length)).data.toList = nameB (i : Int) := by
          rw [ext_list, show ((off : Int) + 1).toNat = off + 1 by omega, h3, Nat.add_sub_cancel_left, List.take_left']
          rfl
        cases b' with
        | zero => omega
        | succ b' =>
          obtain ⟨f1, f2⟩ := ih (off + 1 + (nameB (i : Int)).length + 1) b' (acc ++ [(i : Int)]) hall g3 (by omega)
          have w62 : whole (off + 1 + (nameB (i : Int)).length, (62 : UInt8).toNat, 1) = true := rfl
          have w60 : whole (off, (60 : UInt8).toNat, 1) = true := rfl
          rw [scan, if_pos h1, h2]
          refine ⟨?_, ?_⟩
          · show pz s ((off, (60 : UInt8).toNat, 1) :: scan s b (off + 1)) (-1) acc = _
            rw [pz_open s off (60 : UInt8).toNat 1 _ (-1) acc (by decide) rfl, e1, scan, if_pos g1, g2]
            show pz s ((off + 1 + (nameB (i : Int)).length, (62 : UInt8).toNat, 1) :: scan s b' (off + 1 + (nameB (i : Int)).length + 1)) (off : Int) acc = _
            rw [pz_key s _ (62 : UInt8).toNat 1 _ (off : Int) acc (by omega) rfl (by rw [hname, k1]; omega), hname, k1, f1, List.append_assoc]
            rfl
          · rw [List.all_cons, w60, Bool.true_and]
            show (scan s b (off + 1)).all whole = true
            rw [e3, scan, if_pos g1, g2, List.all_cons, w62, Bool.true_and]
            exact f2
theorem parse_print (l : List Int) (hl : l.length ≤ 256) (hm : l.all mayZ = true) : parseZ ⟨(l.flatMap writB).toArray⟩ = (l, 0) := by
  obtain ⟨h1, h2⟩ := parse_run ⟨(l.flatMap writB).toArray⟩ l 0 (⟨(l.flatMap writB).toArray⟩ : ByteArray).size [] hm (by rw [List.drop_zero]) (by omega)
  unfold parseZ
  rw [if_pos h2, h1]
  exact if_neg (by simpa using hl)
theorem keyL_spec : ∀ (c i : Nat) (n : List UInt8), ¬ keyL c i n = 0 → ∃ j : Nat, i ≤ j ∧ j < i + c ∧ keyL c i n = (j : Int) ∧ nameB (j : Int) = n := by
  intro c
  induction c with
  | zero => intro i n h; exact absurd rfl h
  | succ c ih =>
    intro i n h
    have hx : keyL (c + 1) i n = if nameB (i : Int) = n then (i : Int) else keyL c (i + 1) n := rfl
    rw [hx] at h ⊢
    by_cases he : nameB (i : Int) = n
    · rw [if_pos he]
      exact ⟨i, by omega, by omega, rfl, he⟩
    · rw [if_neg he] at h ⊢
      obtain ⟨j, h1, h2, h3, h4⟩ := ih (i + 1) n h
      exact ⟨j, by omega, by omega, h3, h4⟩
theorem keyZ_spec (n : List UInt8) (h : ¬ keyZ n = 0) : nameB (keyZ n) = n ∧ mayZ (keyZ n) = true ∧ ¬ n = [] := by
  have key : ∃ j : Nat, (1 ≤ j ∧ j ≤ 27 ∨ j = 60) ∧ keyZ n = (j : Int) ∧ nameB (j : Int) = n := by
    unfold keyZ at h ⊢
    by_cases hn : n = [108, 116]
    · rw [if_pos hn]
      exact ⟨60, Or.inr rfl, rfl, by rw [hn]; rfl⟩
    · rw [if_neg hn] at h ⊢
      obtain ⟨j, h1, h2, h3, h4⟩ := keyL_spec 27 1 n h
      exact ⟨j, Or.inl ⟨h1, by omega⟩, h3, h4⟩
  obtain ⟨j, hj, e, hn⟩ := key
  obtain ⟨_, _, h3, h4⟩ := names_ok j (by omega) hj
  rw [e]
  exact ⟨hn, h3, by rw [← hn]; exact h4⟩
theorem get_list (s : ByteArray) (j : Nat) (h : j < s.size) : s.data.toList[j]? = some (s.get! j) := by
  rw [list_bytes s, List.getElem?_map, List.getElem?_range h]
  rfl
/-- A whole sign has its rune's bytes. -/
theorem first_enc {m b0 b1 b2 b3 : Nat} (h : (firstOk m b0 b1 b2 b3).2.2 = true) : enc (firstOk m b0 b1 b2 b3).1 = [b0, b1, b2, b3].take (firstOk m b0 b1 b2 b3).2.1 := by
  have key (n : Nat) (hk : okN n b0 b1 b2 b3 = true) : enc (numN n b0 b1 b2 b3) = [b0, b1, b2, b3].take n := by
    simp only [okN, Bool.and_eq_true, beq_iff_eq] at hk
    exact hk.2
  unfold firstOk at h ⊢
  by_cases c1 : okN 1 b0 b1 b2 b3 = true
  · rw [if_pos c1]
    exact key 1 c1
  rw [if_neg c1] at h ⊢
  by_cases c2 : 2 ≤ m ∧ okN 2 b0 b1 b2 b3 = true
  · rw [if_pos c2]
    exact key 2 c2.2
  rw [if_neg c2] at h ⊢
  by_cases c3 : 3 ≤ m ∧ okN 3 b0 b1 b2 b3 = true
  · rw [if_pos c3]
    exact key 3 c3.2
  rw [if_neg c3] at h ⊢
  by_cases c4 : 4 ≤ m ∧ okN 4 b0 b1 b2 b3 = true
  · rw [if_pos c4]
    exact key 4 c4.2
  rw [if_neg c4] at h
  cases h
theorem enc_at {s : ByteArray} {i : Nat} (hi : i < s.size) (h : whole (0, Utf8.decode s i) = true) :
    (enc (Utf8.decode s i).1).map UInt8.ofNat = (s.data.toList.drop i).take (Utf8.decode s i).2 := by
  have b0 := gb_lt s i
  have b1 := gb_lt s (i + 1)
  have b2 := gb_lt s (i + 2)
  have b3 := gb_lt s (i + 3)
  have hd : Utf8.decode s i = Lib.decodeN (s.size - i) (gb s i) (gb s (i + 1)) (gb s (i + 2)) (gb s (i + 3)) := Lib.decode_at s i
  have hf := first_decode (m := s.size - i) b0 b1 b2 b3
  rw [← hd] at hf
  have h1 := congrArg (fun x : Nat × Nat × Bool => x.1) hf
  have h2 := congrArg (fun x : Nat × Nat × Bool => x.2.1) hf
  have h3 := congrArg (fun x : Nat × Nat × Bool => x.2.2) hf
  simp only at h1 h2 h3
  have he := first_enc (m := s.size - i) (h3.trans h)
  rw [h1, h2] at he
  have hw := width_fits s i hi
  have h4 := width_le4 s i
  clear hf h1 h2 h3 hd
  rw [he]
  generalize (Utf8.decode s i).2 = w at *
  have g0 (j : Nat) : UInt8.ofNat (gb s j) = s.get! j := by unfold gb; exact UInt8.ofNat_toNat
  apply List.ext_getElem?
  intro t
  rw [List.getElem?_map, List.getElem?_take, List.getElem?_take]
  by_cases ht : t < w
  · rw [if_pos ht, if_pos ht, List.getElem?_drop, get_list s (i + t) (by omega)]
    rcases (by omega : t = 0 ∨ t = 1 ∨ t = 2 ∨ t = 3) with rfl | rfl | rfl | rfl <;> simp [g0]
  · rw [if_neg ht, if_neg ht]
    rfl
/-- A sign of one ASCII number is its byte. -/
theorem dec_ascii {s : ByteArray} {p c : Nat} (hp : p < s.size) (hc : c < 128) (h : (Utf8.decode s p).1 = c) : (Utf8.decode s p).2 = 1 ∧ s.data.toList[p]? = some (UInt8.ofNat c) := by
  have hd : Utf8.decode s p = Lib.decodeN (s.size - p) (gb s p) (gb s (p + 1)) (gb s (p + 2)) (gb s (p + 3)) := Lib.decode_at s p
  rw [hd] at h ⊢
  have key : (Lib.decodeN (s.size - p) (gb s p) (gb s (p + 1)) (gb s (p + 2)) (gb s (p + 3))) = (gb s p, 1) → gb s p = c ∧ (Lib.decodeN (s.size - p) (gb s p) (gb s (p + 1)) (gb s (p + 2)) (gb s (p + 3))).2 = 1 := fun e => by
    rw [e] at h ⊢
    exact ⟨h, rfl⟩
  rcases decN_shape (s.size - p) (gb s p) (gb s (p + 1)) (gb s (p + 2)) (gb s (p + 3)) with ⟨h0, e⟩ | ⟨_, _, _, hv, e⟩ | ⟨_, _, _, _, hv, _, e⟩ | ⟨_, _, _, _, _, hv, _, e⟩ | e
  · obtain ⟨k1, k2⟩ := key e
    refine ⟨k2, ?_⟩
    rw [get_list s p hp, ← k1]
    unfold gb
    rw [UInt8.ofNat_toNat]
  · rw [e] at h
    simp only at h
    omega
  · rw [e] at h
    simp only at h
    omega
  · rw [e] at h
    simp only at h
    omega
  · rw [e] at h
    simp only at h
    omega
theorem take_more (l : List UInt8) (p w : Nat) : l.take (p + w) = l.take p ++ (l.drop p).take w := by rw [List.take_add]
theorem back_run (s : ByteArray) : ∀ (b p : Nat) (o : Int) (acc m : List Int), (scan s b p).all whole = true → s.size ≤ p + b → p ≤ s.size → pz s (scan s b p) o acc = some m → acc.all mayZ = true →
    (¬ o ≥ 0 → acc.flatMap writB = s.data.toList.take p) → (o ≥ 0 → acc.flatMap writB = s.data.toList.take o.toNat ∧ s.data.toList[o.toNat]? = some 60 ∧ o.toNat + 1 ≤ p) → m.all mayZ = true ∧ m.flatMap writB = s.data.toList := by
  intro b
  induction b with
  | zero =>
    intro p o acc m _ h1 h2 h3 h4 h5 h6
    have hs : scan s 0 p = [] := rfl
    rw [hs] at h3
    by_cases ho : o ≥ 0
    · rw [pz_nilO s o acc ho] at h3
      cases h3
    · rw [pz_nil s o acc ho] at h3
      cases h3
      rw [h5 ho, List.take_of_length_le (by rw [← size_list]; omega)]
      exact ⟨h4, rfl⟩
  | succ b ih =>
    intro p o acc m hw h1 h2 h3 h4 h5 h6
    by_cases hp : p < s.size
    · have hfit := width_fits s p hp
      rw [scan, if_pos hp, List.all_cons, Bool.and_eq_true] at hw
      rw [scan, if_pos hp] at h3
      obtain ⟨hw1, hw2⟩ := hw
      have hwp : whole (0, Utf8.decode s p) = true := hw1
      have hstep := take_more s.data.toList p (Utf8.decode s p).2
      have hpos := width_pos s p hp
      obtain ⟨r, hr⟩ : ∃ r, (Utf8.decode s p).1 = r := ⟨_, rfl⟩
      by_cases ho : o ≥ 0
      · obtain ⟨g1, g2, g3⟩ := h6 ho
        by_cases h62 : r = 62
        · obtain ⟨e1, e2⟩ := dec_ascii hp (by decide : 62 < 128) (hr.trans h62)
          by_cases hk : keyZ (s.extract (o + 1).toNat p).data.toList = 0
          · rw [pz_key0 s p _ _ _ o acc ho (by rw [hr, h62]; rfl) hk] at h3
            cases h3
          · rw [pz_key s p _ _ _ o acc ho (by rw [hr, h62]; rfl) hk] at h3
            obtain ⟨n1, n2, n3⟩ := keyZ_spec _ hk
            rw [e1] at hw2 h3 hfit
            refine ih (p + 1) (-1) _ m hw2 (by omega) (by omega) h3 (by rw [List.all_append, h4, Bool.true_and, List.all_cons, n2]; rfl) (fun _ => ?_) (fun h => absurd h (by decide))
            have hwr : writB (keyZ (s.extract (o + 1).toNat p).data.toList) = 60 :: (s.extract (o + 1).toNat p).data.toList ++ [62] := by unfold writB; rw [n1, if_neg n3]
            rw [List.flatMap_append, g1, List.flatMap_cons, List.flatMap_nil, List.append_nil, hwr, ext_list]
            obtain ⟨q, hq⟩ : ∃ q : Nat, o = (q : Int) := ⟨o.toNat, by omega⟩
            subst hq
            rw [Int.toNat_natCast] at g2 g3 ⊢
            rw [show ((q : Int) + 1).toNat = q + 1 by omega]
            have ql : q < s.data.toList.length := by rw [← size_list]; omega
            have pl : p < s.data.toList.length := by rw [← size_list]; omega
            have hsplit : s.data.toList.take (p + 1) = s.data.toList.take q ++ (s.data.toList.drop q).take (p + 1 - q) := by
              rw [← take_more, show q + (p + 1 - q) = p + 1 by omega]
            rw [hsplit, List.drop_eq_getElem_cons ql, show p + 1 - q = (p - (q + 1) + 1) + 1 by omega, List.take_succ_cons, take_more (s.data.toList.drop (q + 1))]
            have hq60 : s.data.toList[q] = 60 := by rw [List.getElem?_eq_getElem ql] at g2; exact Option.some.inj g2
            have hp62 : s.data.toList[p] = 62 := by rw [List.getElem?_eq_getElem pl] at e2; exact Option.some.inj e2
            have hd1 : (List.drop (p - (q + 1)) (s.data.toList.drop (q + 1))).take 1 = [62] := by
              rw [List.drop_drop, show q + 1 + (p - (q + 1)) = p by omega, List.drop_eq_getElem_cons pl, List.take_succ_cons, List.take_zero, hp62]
            rw [hd1, hq60]
            rfl
        · rw [pz_in s p _ _ _ o acc ho (by rw [hr]; omega)] at h3
          exact ih (p + (Utf8.decode s p).2) o acc m hw2 (by omega) hfit h3 h4 (fun h => absurd ho h) (fun _ => ⟨g1, g2, by omega⟩)
      · have g1 := h5 ho
        by_cases h60 : r = 60
        · obtain ⟨e1, e2⟩ := dec_ascii hp (by decide : 60 < 128) (hr.trans h60)
          rw [pz_open s p _ _ _ o acc ho (by rw [hr, h60]; rfl)] at h3
          rw [e1] at hw2 h3 hfit
          exact ih (p + 1) (p : Int) acc m hw2 (by omega) (by omega) h3 h4 (fun h => absurd (by omega) h) (fun _ => by rw [Int.toNat_natCast]; exact ⟨g1, e2, by omega⟩)
        · by_cases hbad : (r : Int) < 32 ∨ mayZ (r : Int) = false
          · rw [pz_bad s p _ _ _ o acc ho (by rw [hr]; omega) (by rw [hr]; exact hbad)] at h3
            cases h3
          · have hb1 : ¬ (r : Int) < 32 := fun h => hbad (Or.inl h)
            have hb2 : mayZ (r : Int) = true := by
              cases hh : mayZ (r : Int) with
              | true => rfl
              | false => exact absurd (Or.inr hh) hbad
            rw [pz_sign s p _ _ _ o acc ho (by rw [hr]; omega) (by rw [hr]; exact hb1) (by rw [hr]; exact hb2)] at h3
            rw [hr] at h3
            refine ih (p + (Utf8.decode s p).2) (-1) _ m hw2 (by omega) hfit h3 (by rw [List.all_append, h4, Bool.true_and, List.all_cons, hb2]; rfl) (fun _ => ?_) (fun h => absurd h (by decide))
            have hn : nameB (r : Int) = [] := by
              unfold nameB
              rw [if_neg (by omega), if_neg (by omega), if_neg (by omega), if_neg (by omega), if_neg (by omega), if_neg (by omega)]
            have hv := may_valid hb2
            have hfx : fixR (r : Int) = r := by
              simp only [validZ, decide_eq_true_eq] at hv
              have : Utf8.valid (r : Int) = true := by
                simp only [Utf8.valid, Bool.or_eq_true, Bool.and_eq_true, decide_eq_true_eq]
                omega
              unfold fixR
              rw [if_pos this, Int.toNat_natCast]
            have hwr : writB (r : Int) = (s.data.toList.drop p).take (Utf8.decode s p).2 := by
              unfold writB
              rw [if_pos hn, encode_eq, hfx, ← hr]
              exact enc_at hp hwp
            rw [List.flatMap_append, g1, List.flatMap_cons, List.flatMap_nil, List.append_nil, hwr, hstep]
    · rw [scan_end s (b + 1) p hp] at h3
      by_cases ho : o ≥ 0
      · rw [pz_nilO s o acc ho] at h3
        cases h3
      · rw [pz_nil s o acc ho] at h3
        cases h3
        rw [h5 ho, List.take_of_length_le (by rw [← size_list]; omega)]
        exact ⟨h4, rfl⟩
theorem print_parse (s : ByteArray) (h : (parseZ s).2 = 0) : (printZ (parseZ s).1).2 = 0 ∧ (printZ (parseZ s).1).1.data.toList = s.data.toList := by
  unfold parseZ at h ⊢
  by_cases hw : (scan s s.size 0).all whole = true
  · rw [if_pos hw] at h ⊢
    cases hp : pz s (scan s s.size 0) (-1) [] with
    | none =>
      rw [hp] at h
      cases h
    | some m =>
      rw [hp] at h
      simp only at h ⊢
      by_cases hl : m.length > 256
      · rw [if_pos hl] at h
        cases h
      · rw [if_neg hl]
        obtain ⟨h1, h2⟩ := back_run s s.size 0 (-1) [] m hw (by omega) (by omega) hp rfl (fun _ => by simp) (fun h => absurd h (by decide))
        unfold printZ
        rw [if_neg hl, if_pos h1]
        exact ⟨rfl, h2⟩
  · rw [if_neg hw] at h
    cases h
theorem rd_natS (xs : List Int) (i : Nat) (h : i < xs.length) : rd xs (i : Int) = xs[i] := by
  unfold rd
  rw [Int.toNat_natCast, List.getD_eq_getElem?_getD, List.getElem?_eq_getElem h]
  rfl
theorem same_loop (xs : List Int) (hx : xs.length < 1000000) : ∀ (n k i : Nat), xs.length ≤ i + n → bureauref10_Same.l0 (n + k + 1) xs xs (i : Int) = some true := by
  intro n
  induction n with
  | zero =>
    intro k i h
    rw [show (0 + k + 1 : Nat) = k + 1 by omega, bureauref10_Same.l0, if_neg (by omega)]
  | succ n ih =>
    intro k i h
    rw [show (n + 1 + k + 1 : Nat) = (n + k + 1) + 1 by omega, bureauref10_Same.l0]
    by_cases hc : i < xs.length
    · rw [if_pos (by omega), if_pos (by omega), if_pos (by omega), if_pos rfl]
      have hw : wrap64 ((i : Int) + 1) = ((i + 1 : Nat) : Int) := by rw [wrapZ _ (by omega) (by omega)]; omega
      rw [hw, ih k _ (by omega)]
    · rw [if_neg (by omega)]
theorem same_eq (xs : List Int) (n k : Nat) (hx : xs.length < 1000000) (hn : xs.length ≤ n) : bureauref10_Same.f (n + k + 1) xs xs = some true := by
  unfold bureauref10_Same.f
  rw [if_pos rfl, show (0 : Int) = ((0 : Nat) : Int) from rfl]
  exact same_loop xs hx n k 0 (by omega)
theorem KeysBack : bureaulaw10_KeysBack.Pure := by
  intro l s _ _ _
  refine ⟨l.length + 19 + 3, ?_⟩
  unfold bureaulaw10_KeysBack.f
  have hal : bureaulaw10_alive.f (l.length + 19 + 3) = some true := by rw [show l.length + 19 + 3 = (l.length + 2) + 20 by omega]; exact alive_eq _
  rw [hal, Option.bind_some, if_pos rfl]
  by_cases hl : (l.length : Int) > 4096
  · rw [if_pos hl, bureaulaw10_KeysBack.j0, if_pos rfl]
  rw [if_neg hl]
  by_cases hs : (s.size : Int) > 4096
  · rw [decide_eq_true hs, bureaulaw10_KeysBack.j0, if_pos rfl]
  rw [decide_eq_false hs, bureaulaw10_KeysBack.j0, if_neg (by decide)]
  have hj1 : ∀ k, bureaulaw10_KeysBack.j1 (k + 1) s = some true := by
    intro k
    have hp : keys_Parse.f s = some (parseZ s) := by unfold keys_Parse.f; rw [if_pos (by omega)]
    have hq : keys_Print.f (parseZ s).1 = some (printZ (parseZ s).1) := rfl
    rw [bureaulaw10_KeysBack.j1, hp, Option.bind_some]
    by_cases h0 : (parseZ s).2 = 0
    · obtain ⟨e1, e2⟩ := print_parse s h0
      rw [if_pos h0, hq, Option.bind_some, if_pos e1, if_pos (by rw [ByteArray.toList_eq, ByteArray.toList_eq, e2])]
    · rw [if_neg h0]
  have hq : keys_Print.f l = some (printZ l) := rfl
  rw [hq, Option.bind_some]
  by_cases h0 : (printZ l).2 = 0
  · have hlm : l.length ≤ 256 ∧ l.all mayZ = true := by
      unfold printZ at h0
      by_cases h1 : l.length > 256
      · rw [if_pos h1] at h0
        cases h0
      · rw [if_neg h1] at h0
        cases hm : l.all mayZ with
        | true => exact ⟨by omega, rfl⟩
        | false =>
          rw [hm, if_neg (by decide)] at h0
          cases h0
    have hz : printZ l = (⟨(l.flatMap writB).toArray⟩, 0) := by unfold printZ; rw [if_neg (by omega), if_pos hlm.2]
    have hsz : (⟨(l.flatMap writB).toArray⟩ : ByteArray).size ≤ 1000000 := by
      have hlen : ∀ x : List Int, (x.flatMap writB).length ≤ 5 * x.length := by
        intro x
        induction x with
        | nil => simp
        | cons a x ih =>
          have := writB_len a
          rw [List.flatMap_cons, List.length_append, List.length_cons]
          omega
      have := hlen l
      show (l.flatMap writB).toArray.size ≤ 1000000
      rw [List.size_toArray]
      omega
    have hp : keys_Parse.f ⟨(l.flatMap writB).toArray⟩ = some (l, 0) := by
      unfold keys_Parse.f
      rw [if_pos hsz, parse_print l hlm.1 hlm.2]
    rw [hz, if_pos rfl, hp, Option.bind_some, if_pos rfl, show l.length + 19 + 2 = l.length + 20 + 1 by omega, same_eq l l.length 20 (by omega) (Nat.le_refl _), Option.bind_some, if_pos rfl]
    exact hj1 _
  · rw [if_neg h0]
    exact hj1 _

end Go.Proofs.YtbbogjecpdebbaaDoor.Pure
