/- Keys one behind the other are written one behind the other: for all pairs of lists. -/
import Derived.Test.YtbbogjecpdebbaaDoorXKeysJoinsx1
import Derived.Test.YtbbogjecpdebbaaDoorExt10K
import Derived.OpenShut
set_option linter.unusedVariables false
set_option linter.unusedSimpArgs false
namespace Go.Proofs.YtbbogjecpdebbaaDoor.Pure
open Go.RowKit Go.Proofs.YtbbogjecpdebbaaDoor.XKeysJoins Go.Proofs.YtbbogjecpdebbaaDoorW.PrintWords Go.Proofs.YtbbogjecpdebbaaDoorW.PrintMore Go.Proofs.YtbbogjecpdebbaaDoor.Ext

theorem alive_eq (k : Nat) : bureaulaw10_alive.f (k + 20) = some true := by
  have h : bureaulaw10_alive.f 20 = some true := by decide +kernel
  induction k with
  | zero => exact h
  | succ k ih =>
    have := bureaulaw10_alive.mono (k + 20) true ih
    rwa [show k + 1 + 20 = k + 20 + 1 by omega]
theorem tmodN (a b : Nat) : Int.tmod (a : Int) (b : Int) = ((a % b : Nat) : Int) := rfl
theorem tdivN (a b : Nat) : Int.tdiv (a : Int) (b : Int) = ((a / b : Nat) : Int) := rfl
theorem wrapN (a : Nat) (h : a < 9223372036854775808) : wrap64 (a : Int) = (a : Int) := by
  unfold wrap64
  omega
theorem wrapZ (a : Int) (h0 : -9223372036854775808 ≤ a) (h1 : a < 9223372036854775808) : wrap64 a = a := by
  unfold wrap64
  omega
/-- The byte of a text at a place, as a number. -/
def gb (s : ByteArray) (i : Nat) : Nat := (s.get! i).toNat
theorem gb_lt (s : ByteArray) (i : Nat) : gb s i < 256 := UInt8.toNat_lt _
theorem get_ext (s : ByteArray) (i n j : Nat) (h : i + n ≤ s.size) (hj : j < n) : (s.extract i (i + n)).get! j = s.get! (i + j) := by
  show (s.extract i (i + n)).data[j]! = s.data[i + j]!
  have hs : s.size = s.data.size := rfl
  rw [ByteArray.data_extract, getElem!_def, getElem!_def, Array.getElem?_extract, if_pos (by omega)]
theorem size_ext (s : ByteArray) (i n : Nat) (h : i + n ≤ s.size) : (s.extract i (i + n)).size = n := by
  rw [ByteArray.size_extract]
  omega
theorem bt_gb (x : ByteArray) (j : Nat) (hj : j < x.size) : bt x (j : Int) = ((gb x j : Nat) : Int) := by
  have h : ((j : Int).toNat) < x.size := by simpa using hj
  unfold bt gb
  rw [dif_pos h]
  have e : x[(j : Int).toNat]'h = x.get! j := by
    show x.data[j] = x.data[j]!
    rw [getElem!_pos x.data j hj]
  rw [e]
theorem list_bytes (x : ByteArray) : x.data.toList = (List.range x.size).map (fun j => x.get! j) := by
  apply List.ext_getElem?
  intro j
  have hs : x.size = x.data.size := rfl
  by_cases h : j < x.size
  · rw [List.getElem?_map, List.getElem?_range h]
    show x.data.toList[j]? = some x.data[j]!
    rw [getElem!_pos x.data j h]
    simp [hs ▸ h]
  · rw [List.getElem?_eq_none (by simp; omega), List.getElem?_eq_none (by simp; omega)]
/-! The numbers' bytes. -/
def enc (r : Nat) : List Nat :=
  if r < 128 then [r] else if r < 2048 then [192 + r / 64, 128 + r % 64] else if r < 65536 then [224 + r / 4096, 128 + r / 64 % 64, 128 + r % 64] else [240 + r / 262144, 128 + r / 4096 % 64, 128 + r / 64 % 64, 128 + r % 64]
def mayN (r : Nat) : Bool := r ≤ 1114111 && (r < 55296 || 57344 ≤ r)
theorem enc_lt {r : Nat} (h : r ≤ 1114111) : ∀ x ∈ enc r, x < 256 := by
  unfold enc
  intro x hx
  split at hx
  · simp only [List.mem_cons, List.not_mem_nil, or_false] at hx
    omega
  split at hx
  · simp only [List.mem_cons, List.not_mem_nil, or_false] at hx
    omega
  split at hx
  · simp only [List.mem_cons, List.not_mem_nil, or_false] at hx
    omega
  · simp only [List.mem_cons, List.not_mem_nil, or_false] at hx
    omega
/-! What the document's 'number' reads, and which so many bytes are a sign. -/
def numN (n b0 b1 b2 b3 : Nat) : Nat :=
  if n = 1 then b0 else if n = 2 then b0 % 32 * 64 + b1 % 64 else if n = 3 then (b0 % 16 * 64 + b1 % 64) * 64 + b2 % 64 else ((b0 % 8 * 64 + b1 % 64) * 64 + b2 % 64) * 64 + b3 % 64
theorem num1 (b0 b1 b2 b3 : Nat) : numN 1 b0 b1 b2 b3 = b0 := rfl
theorem num2 (b0 b1 b2 b3 : Nat) : numN 2 b0 b1 b2 b3 = b0 % 32 * 64 + b1 % 64 := rfl
theorem num3 (b0 b1 b2 b3 : Nat) : numN 3 b0 b1 b2 b3 = (b0 % 16 * 64 + b1 % 64) * 64 + b2 % 64 := rfl
theorem num4 (b0 b1 b2 b3 : Nat) : numN 4 b0 b1 b2 b3 = ((b0 % 8 * 64 + b1 % 64) * 64 + b2 % 64) * 64 + b3 % 64 := rfl
def okN (n b0 b1 b2 b3 : Nat) : Bool := mayN (numN n b0 b1 b2 b3) && enc (numN n b0 b1 b2 b3) == [b0, b1, b2, b3].take n
theorem ok1 {b0 : Nat} (b1 b2 b3 : Nat) (h0 : b0 < 256) : okN 1 b0 b1 b2 b3 = decide (b0 < 128) := by
  unfold okN mayN enc numN
  rw [if_pos rfl, Bool.eq_iff_iff]
  simp only [Bool.and_eq_true, Bool.or_eq_true, decide_eq_true_eq, beq_iff_eq, List.take_succ_cons, List.take_zero]
  constructor
  · rintro ⟨_, h⟩
    split at h
    · assumption
    · exfalso
      split at h
      · simp only [List.cons.injEq] at h
        exact absurd h.2 (by simp)
      split at h
      · simp only [List.cons.injEq] at h
        exact absurd h.2 (by simp)
      · simp only [List.cons.injEq] at h
        exact absurd h.2 (by simp)
  · intro h
    exact ⟨by omega, by rw [if_pos h]⟩
theorem ok2 {b0 b1 : Nat} (b2 b3 : Nat) (h0 : b0 < 256) (h1 : b1 < 256) : okN 2 b0 b1 b2 b3 = decide (b0 / 32 = 6 ∧ b1 / 64 = 2 ∧ 128 ≤ b0 % 32 * 64 + b1 % 64) := by
  unfold okN mayN enc numN
  rw [if_neg (by omega), if_pos rfl, Bool.eq_iff_iff]
  simp only [Bool.and_eq_true, Bool.or_eq_true, decide_eq_true_eq, beq_iff_eq, List.take_succ_cons, List.take_zero]
  generalize hr : b0 % 32 * 64 + b1 % 64 = r
  constructor
  · rintro ⟨_, h⟩
    split at h
    · cases h
    split at h
    · simp only [List.cons.injEq, and_true] at h
      omega
    split at h
    · cases h
    · cases h
  · intro h
    refine ⟨by omega, ?_⟩
    rw [if_neg (by omega), if_pos (by omega)]
    simp only [List.cons.injEq, and_true]
    omega
theorem ok3 {b0 b1 b2 : Nat} (b3 : Nat) (h0 : b0 < 256) (h1 : b1 < 256) (h2 : b2 < 256) : okN 3 b0 b1 b2 b3 =
    decide (b0 / 16 = 14 ∧ b1 / 64 = 2 ∧ b2 / 64 = 2 ∧ 2048 ≤ b0 % 16 * 4096 + b1 % 64 * 64 + b2 % 64 ∧ (b0 % 16 * 4096 + b1 % 64 * 64 + b2 % 64 < 55296 ∨ 57344 ≤ b0 % 16 * 4096 + b1 % 64 * 64 + b2 % 64)) := by
  unfold okN mayN enc numN
  rw [if_neg (by omega), if_neg (by omega), if_pos rfl, Bool.eq_iff_iff]
  simp only [Bool.and_eq_true, Bool.or_eq_true, decide_eq_true_eq, beq_iff_eq, List.take_succ_cons, List.take_zero]
  rw [show (b0 % 16 * 64 + b1 % 64) * 64 + b2 % 64 = b0 % 16 * 4096 + b1 % 64 * 64 + b2 % 64 by omega]
  generalize hr : b0 % 16 * 4096 + b1 % 64 * 64 + b2 % 64 = r
  constructor
  · rintro ⟨_, h⟩
    split at h
    · cases h
    split at h
    · cases h
    split at h
    · simp only [List.cons.injEq, and_true] at h
      omega
    · cases h
  · intro h
    refine ⟨by omega, ?_⟩
    rw [if_neg (by omega), if_neg (by omega), if_pos (by omega)]
    simp only [List.cons.injEq, and_true]
    omega
theorem ok4 {b0 b1 b2 b3 : Nat} (h0 : b0 < 256) (h1 : b1 < 256) (h2 : b2 < 256) (h3 : b3 < 256) : okN 4 b0 b1 b2 b3 =
    decide (b0 / 8 = 30 ∧ b1 / 64 = 2 ∧ b2 / 64 = 2 ∧ b3 / 64 = 2 ∧ 65536 ≤ b0 % 8 * 262144 + b1 % 64 * 4096 + b2 % 64 * 64 + b3 % 64 ∧ b0 % 8 * 262144 + b1 % 64 * 4096 + b2 % 64 * 64 + b3 % 64 ≤ 1114111) := by
  unfold okN mayN enc numN
  rw [if_neg (by omega), if_neg (by omega), if_neg (by omega), Bool.eq_iff_iff]
  simp only [Bool.and_eq_true, Bool.or_eq_true, decide_eq_true_eq, beq_iff_eq, List.take_succ_cons, List.take_zero]
  rw [show ((b0 % 8 * 64 + b1 % 64) * 64 + b2 % 64) * 64 + b3 % 64 = b0 % 8 * 262144 + b1 % 64 * 4096 + b2 % 64 * 64 + b3 % 64 by omega]
  generalize hr : b0 % 8 * 262144 + b1 % 64 * 4096 + b2 % 64 * 64 + b3 % 64 = r
  constructor
  · rintro ⟨_, h⟩
    split at h
    · cases h
    split at h
    · cases h
    split at h
    · cases h
    · simp only [List.cons.injEq, and_true] at h
      omega
  · intro h
    refine ⟨by omega, ?_⟩
    rw [if_neg (by omega), if_neg (by omega), if_neg (by omega)]
    simp only [List.cons.injEq, and_true]
    omega
/-- The model's decoding, by which so many bytes are a sign. -/
def firstOk (m b0 b1 b2 b3 : Nat) : Nat × Nat × Bool :=
  if okN 1 b0 b1 b2 b3 = true then (numN 1 b0 b1 b2 b3, 1, true)
  else if 2 ≤ m ∧ okN 2 b0 b1 b2 b3 = true then (numN 2 b0 b1 b2 b3, 2, true)
  else if 3 ≤ m ∧ okN 3 b0 b1 b2 b3 = true then (numN 3 b0 b1 b2 b3, 3, true)
  else if 4 ≤ m ∧ okN 4 b0 b1 b2 b3 = true then (numN 4 b0 b1 b2 b3, 4, true)
  else (65533, 1, false)
theorem first_decode {m b0 b1 b2 b3 : Nat} (h0 : b0 < 256) (h1 : b1 < 256) (h2 : b2 < 256) (h3 : b3 < 256) :
    firstOk m b0 b1 b2 b3 = ((Lib.decodeN m b0 b1 b2 b3).1, (Lib.decodeN m b0 b1 b2 b3).2, whole (0, Lib.decodeN m b0 b1 b2 b3)) := by
  unfold firstOk
  rw [ok1 b1 b2 b3 h0, ok2 b2 b3 h0 h1, ok3 b3 h0 h1 h2, ok4 h0 h1 h2 h3]
  simp only [decide_eq_true_eq]
  have n1 : numN 1 b0 b1 b2 b3 = b0 := rfl
  have n2 : numN 2 b0 b1 b2 b3 = b0 % 32 * 64 + b1 % 64 := rfl
  have n3 : numN 3 b0 b1 b2 b3 = b0 % 16 * 4096 + b1 % 64 * 64 + b2 % 64 := by unfold numN; rw [if_neg (by omega), if_neg (by omega), if_pos rfl]; omega
  have n4 : numN 4 b0 b1 b2 b3 = b0 % 8 * 262144 + b1 % 64 * 4096 + b2 % 64 * 64 + b3 % 64 := by unfold numN; rw [if_neg (by omega), if_neg (by omega), if_neg (by omega)]; omega
  rw [n1, n2, n3, n4]
  unfold Lib.decodeN
  by_cases c1 : b0 < 128
  · rw [if_pos c1, if_pos c1]
    have : (b0 == 65533) = false := by rw [beq_eq_false_iff_ne]; omega
    simp [whole, this]
  rw [if_neg c1, if_neg c1]
  by_cases c2 : b0 / 32 = 6 ∧ (1 < m ∧ b1 / 64 = 2)
  · rw [if_pos c2]
    by_cases d2 : b0 % 32 * 64 + b1 % 64 ≥ 128
    · rw [if_pos d2, if_pos (by omega)]
      simp [whole]
    · rw [if_neg d2, if_neg (by omega), if_neg (by omega), if_neg (by omega)]
      rfl
  rw [if_neg c2, if_neg (by omega)]
  by_cases c3 : b0 / 16 = 14 ∧ (1 < m ∧ b1 / 64 = 2) ∧ (2 < m ∧ b2 / 64 = 2)
  · rw [if_pos c3]
    by_cases d3 : b0 % 16 * 4096 + b1 % 64 * 64 + b2 % 64 ≥ 2048 ∧ (b0 % 16 * 4096 + b1 % 64 * 64 + b2 % 64 < 55296 ∨ (57344 ≤ b0 % 16 * 4096 + b1 % 64 * 64 + b2 % 64 ∧ b0 % 16 * 4096 + b1 % 64 * 64 + b2 % 64 ≤ 1114111))
    · rw [if_pos d3, if_pos (by omega)]
      simp [whole]
    · rw [if_neg d3, if_neg (by omega), if_neg (by omega)]
      rfl
  rw [if_neg c3, if_neg (by omega)]
  by_cases c4 : b0 / 8 = 30 ∧ (1 < m ∧ b1 / 64 = 2) ∧ (2 < m ∧ b2 / 64 = 2) ∧ (3 < m ∧ b3 / 64 = 2)
  · rw [if_pos c4]
    by_cases d4 : b0 % 8 * 262144 + b1 % 64 * 4096 + b2 % 64 * 64 + b3 % 64 ≥ 65536 ∧ (b0 % 8 * 262144 + b1 % 64 * 4096 + b2 % 64 * 64 + b3 % 64 < 55296 ∨ (57344 ≤ b0 % 8 * 262144 + b1 % 64 * 4096 + b2 % 64 * 64 + b3 % 64 ∧ b0 % 8 * 262144 + b1 % 64 * 4096 + b2 % 64 * 64 + b3 % 64 ≤ 1114111))
    · rw [if_pos d4, if_pos (by omega)]
      simp [whole]
    · rw [if_neg d4, if_neg (by omega)]
      rfl
  rw [if_neg c4, if_neg (by omega)]
  rfl
theorem decN_le (n b0 b1 b2 b3 : Nat) : (Lib.decodeN n b0 b1 b2 b3).2 ≤ 4 := by
  unfold Lib.decodeN
  repeat' split
  all_goals (simp only; omega)
theorem decN_fits (n b0 b1 b2 b3 : Nat) (hn : 1 ≤ n) : (Lib.decodeN n b0 b1 b2 b3).2 ≤ n := by
  unfold Lib.decodeN
  repeat' split
  all_goals (simp only; omega)
theorem decN_rune (n b0 b1 b2 b3 : Nat) (h : b0 < 256) : (Lib.decodeN n b0 b1 b2 b3).1 ≤ 1114111 := by
  unfold Lib.decodeN
  repeat' split
  all_goals (simp only; omega)
theorem dec_le (s : ByteArray) (i : Nat) : (Utf8.decode s i).1 ≤ 1114111 := by
  rw [Lib.decode_at]
  exact decN_rune _ _ _ _ _ (UInt8.toNat_lt _)
theorem width_le4 (s : ByteArray) (i : Nat) : (Utf8.decode s i).2 ≤ 4 := by
  rw [Lib.decode_at]
  exact decN_le _ _ _ _ _
theorem width_fits (s : ByteArray) (i : Nat) (h : i < s.size) : i + (Utf8.decode s i).2 ≤ s.size := by
  rw [Lib.decode_at]
  have := decN_fits (s.size - i) (s.get! i).toNat (s.get! (i + 1)).toNat (s.get! (i + 2)).toNat (s.get! (i + 3)).toNat (by omega)
  omega
/-! A list of numbers, as bytes. -/
def fixR (r : Int) : Nat := if Utf8.valid r then r.toNat else 65533
theorem fix_may (r : Int) : mayN (fixR r) = true := by
  unfold fixR mayN
  split
  · rename_i h
    simp only [Utf8.valid, Bool.or_eq_true, Bool.and_eq_true, decide_eq_true_eq] at h ⊢
    omega
  · rfl
theorem encode_eq (r : Int) : (Utf8.encode r).data.toList = (enc (fixR r)).map UInt8.ofNat := by
  unfold Utf8.encode enc
  have hf : (if Utf8.valid r = true then r.toNat else Utf8.runeError) = fixR r := rfl
  simp only [hf]
  repeat' split
  all_goals rfl
theorem enc_len (r : Nat) : 1 ≤ (enc r).length ∧ (enc r).length ≤ 4 := by
  unfold enc
  split
  · simp
  split
  · simp
  split
  · simp
  · simp
theorem may_le {r : Nat} (h : mayN r = true) : r ≤ 1114111 := by
  simp only [mayN, Bool.and_eq_true, decide_eq_true_eq] at h
  exact h.1
theorem decN_1 {n b0 b1 b2 b3 : Nat} (h : b0 < 128) : Lib.decodeN n b0 b1 b2 b3 = (b0, 1) := by
  unfold Lib.decodeN
  rw [if_pos h]
theorem decN_2 {n b0 b1 b2 b3 : Nat} (h : b0 / 32 = 6) (hn : 1 < n) (h1 : b1 / 64 = 2) (hv : 128 ≤ b0 % 32 * 64 + b1 % 64) : Lib.decodeN n b0 b1 b2 b3 = (b0 % 32 * 64 + b1 % 64, 2) := by
  have c1 : ¬ b0 < 128 := by omega
  have c2 : b0 / 32 = 6 ∧ (1 < n ∧ b1 / 64 = 2) := ⟨h, hn, h1⟩
  unfold Lib.decodeN
  rw [if_neg c1, if_pos c2, if_pos hv]
theorem decN_3 {n b0 b1 b2 b3 : Nat} (h : b0 / 16 = 14) (hn : 2 < n) (h1 : b1 / 64 = 2) (h2 : b2 / 64 = 2) (hv : 2048 ≤ b0 % 16 * 4096 + b1 % 64 * 64 + b2 % 64)
    (hs : b0 % 16 * 4096 + b1 % 64 * 64 + b2 % 64 < 55296 ∨ 57344 ≤ b0 % 16 * 4096 + b1 % 64 * 64 + b2 % 64) : Lib.decodeN n b0 b1 b2 b3 = (b0 % 16 * 4096 + b1 % 64 * 64 + b2 % 64, 3) := by
  have c1 : ¬ b0 < 128 := by omega
  have c2 : ¬ (b0 / 32 = 6 ∧ (1 < n ∧ b1 / 64 = 2)) := by omega
  have c3 : b0 / 16 = 14 ∧ (1 < n ∧ b1 / 64 = 2) ∧ (2 < n ∧ b2 / 64 = 2) := ⟨h, ⟨by omega, h1⟩, hn, h2⟩
  have c4 : b0 % 16 * 4096 + b1 % 64 * 64 + b2 % 64 ≥ 2048 ∧ (b0 % 16 * 4096 + b1 % 64 * 64 + b2 % 64 < 55296 ∨ (57344 ≤ b0 % 16 * 4096 + b1 % 64 * 64 + b2 % 64 ∧ b0 % 16 * 4096 + b1 % 64 * 64 + b2 % 64 ≤ 1114111)) := ⟨hv, by omega⟩
  unfold Lib.decodeN
  rw [if_neg c1, if_neg c2, if_pos c3, if_pos c4]
theorem decN_4 {n b0 b1 b2 b3 : Nat} (h : b0 / 8 = 30) (hn : 3 < n) (h1 : b1 / 64 = 2) (h2 : b2 / 64 = 2) (h3 : b3 / 64 = 2) (hv : 65536 ≤ b0 % 8 * 262144 + b1 % 64 * 4096 + b2 % 64 * 64 + b3 % 64)
    (hs : b0 % 8 * 262144 + b1 % 64 * 4096 + b2 % 64 * 64 + b3 % 64 ≤ 1114111) : Lib.decodeN n b0 b1 b2 b3 = (b0 % 8 * 262144 + b1 % 64 * 4096 + b2 % 64 * 64 + b3 % 64, 4) := by
  have c1 : ¬ b0 < 128 := by omega
  have c2 : ¬ (b0 / 32 = 6 ∧ (1 < n ∧ b1 / 64 = 2)) := by omega
  have c3 : ¬ (b0 / 16 = 14 ∧ (1 < n ∧ b1 / 64 = 2) ∧ (2 < n ∧ b2 / 64 = 2)) := by omega
  have c4 : b0 / 8 = 30 ∧ (1 < n ∧ b1 / 64 = 2) ∧ (2 < n ∧ b2 / 64 = 2) ∧ (3 < n ∧ b3 / 64 = 2) := ⟨h, ⟨by omega, h1⟩, ⟨by omega, h2⟩, hn, h3⟩
  have c5 : b0 % 8 * 262144 + b1 % 64 * 4096 + b2 % 64 * 64 + b3 % 64 ≥ 65536 ∧ (b0 % 8 * 262144 + b1 % 64 * 4096 + b2 % 64 * 64 + b3 % 64 < 55296 ∨ (57344 ≤ b0 % 8 * 262144 + b1 % 64 * 4096 + b2 % 64 * 64 + b3 % 64 ∧ b0 % 8 * 262144 + b1 % 64 * 4096 + b2 % 64 * 64 + b3 % 64 ≤ 1114111)) := ⟨hv, by omega⟩
  unfold Lib.decodeN
  rw [if_neg c1, if_neg c2, if_neg c3, if_pos c4, if_pos c5]
theorem decN_shape (n b0 b1 b2 b3 : Nat) :
    (b0 < 128 ∧ Lib.decodeN n b0 b1 b2 b3 = (b0, 1)) ∨
    (b0 / 32 = 6 ∧ 1 < n ∧ b1 / 64 = 2 ∧ 128 ≤ b0 % 32 * 64 + b1 % 64 ∧ Lib.decodeN n b0 b1 b2 b3 = (b0 % 32 * 64 + b1 % 64, 2)) ∨
    (b0 / 16 = 14 ∧ 2 < n ∧ b1 / 64 = 2 ∧ b2 / 64 = 2 ∧ 2048 ≤ b0 % 16 * 4096 + b1 % 64 * 64 + b2 % 64 ∧ (b0 % 16 * 4096 + b1 % 64 * 64 + b2 % 64 < 55296 ∨ 57344 ≤ b0 % 16 * 4096 + b1 % 64 * 64 + b2 % 64) ∧
      Lib.decodeN n b0 b1 b2 b3 = (b0 % 16 * 4096 + b1 % 64 * 64 + b2 % 64, 3)) ∨
    (b0 / 8 = 30 ∧ 3 < n ∧ b1 / 64 = 2 ∧ b2 / 64 = 2 ∧ b3 / 64 = 2 ∧ 65536 ≤ b0 % 8 * 262144 + b1 % 64 * 4096 + b2 % 64 * 64 + b3 % 64 ∧ b0 % 8 * 262144 + b1 % 64 * 4096 + b2 % 64 * 64 + b3 % 64 ≤ 1114111 ∧
      Lib.decodeN n b0 b1 b2 b3 = (b0 % 8 * 262144 + b1 % 64 * 4096 + b2 % 64 * 64 + b3 % 64, 4)) ∨
    Lib.decodeN n b0 b1 b2 b3 = (65533, 1) := by
  unfold Lib.decodeN
  repeat' split
  all_goals first
    | (left; exact ⟨by assumption, by rfl⟩)
    | (right; left; exact ⟨by omega, by omega, by omega, by omega, by rfl⟩)
    | (right; right; left; exact ⟨by omega, by omega, by omega, by omega, by omega, by omega, by rfl⟩)
    | (right; right; right; left; exact ⟨by omega, by omega, by omega, by omega, by omega, by omega, by omega, by rfl⟩)
    | (right; right; right; right; rfl)
/-- A sign that fits stays what it is when the text is cut behind it. -/
theorem decN_cut {m m' b0 b1 b2 b3 c1 c2 c3 : Nat} (hm : 1 ≤ m) (hmm : m ≤ m') (e1 : 1 < m → b1 = c1) (e2 : 2 < m → b2 = c2) (e3 : 3 < m → b3 = c3)
    (hw : (Lib.decodeN m' b0 c1 c2 c3).2 ≤ m) : Lib.decodeN m b0 b1 b2 b3 = Lib.decodeN m' b0 c1 c2 c3 := by
  rcases decN_shape m' b0 c1 c2 c3 with ⟨h0, h⟩ | ⟨h0, hn, h1, hv, h⟩ | ⟨h0, hn, h1, h2, hv, hs, h⟩ | ⟨h0, hn, h1, h2, h3, hv, hs, h⟩ | h
  · rw [h, decN_1 h0]
  · rw [h] at hw ⊢
    have hw : 2 ≤ m := hw
    have e1 := e1 (by omega)
    subst e1
    rw [decN_2 h0 (by omega) h1 hv]
  · rw [h] at hw ⊢
    have hw : 3 ≤ m := hw
    have e1 := e1 (by omega)
    have e2 := e2 (by omega)
    subst e1 e2
    rw [decN_3 h0 (by omega) h1 h2 hv hs]
  · rw [h] at hw ⊢
    have hw : 4 ≤ m := hw
    have e1 := e1 (by omega)
    have e2 := e2 (by omega)
    have e3 := e3 (by omega)
    subst e1 e2 e3
    rw [decN_4 h0 (by omega) h1 h2 h3 hv hs]
  · have key : ∀ x, Lib.decodeN m' b0 c1 c2 c3 = x → Lib.decodeN m b0 b1 b2 b3 = x → Lib.decodeN m b0 b1 b2 b3 = Lib.decodeN m' b0 c1 c2 c3 := fun x h1 h2 => by rw [h1, h2]
    rcases decN_shape m b0 b1 b2 b3 with ⟨g0, g⟩ | ⟨g0, gn, g1, gv, g⟩ | ⟨g0, gn, g1, g2, gv, gs, g⟩ | ⟨g0, gn, g1, g2, g3, gv, gs, g⟩ | g
    · exact key _ (decN_1 g0) g
    · have e1 := e1 (by omega)
      subst e1
      exact key _ (decN_2 g0 (by omega) g1 gv) g
    · have e1 := e1 (by omega)
      have e2 := e2 (by omega)
      subst e1 e2
      exact key _ (decN_3 g0 (by omega) g1 g2 gv gs) g
    · have e1 := e1 (by omega)
      have e2 := e2 (by omega)
      have e3 := e3 (by omega)
      subst e1 e2 e3
      exact key _ (decN_4 g0 (by omega) g1 g2 g3 gv gs) g
    · rw [g, h]
theorem gb_drop {s : ByteArray} {off : Nat} {x : UInt8} {rest : List UInt8} (h : s.data.toList.drop off = x :: rest) : off < s.size ∧ gb s off = x.toNat ∧ s.data.toList.drop (off + 1) = rest := by
  have hs : s.size = s.data.toList.length := by rw [Array.length_toList]; rfl
  have hlt : off < s.data.toList.length := by
    by_cases hc : off < s.data.toList.length
    · exact hc
    · rw [List.drop_of_length_le (by omega)] at h
      cases h
  rw [List.drop_eq_getElem_cons hlt] at h
  simp only [List.cons.injEq] at h
  refine ⟨by omega, ?_, h.2⟩
  have : s.get! off = s.data.toList[off] := by
    show s.data[off]! = _
    rw [getElem!_pos s.data off (by simpa using hlt)]
    simp
  unfold gb
  rw [this, h.1]
theorem dec_enc {s : ByteArray} {off r : Nat} (hr : mayN r = true) (rest : List UInt8) (h : s.data.toList.drop off = (enc r).map UInt8.ofNat ++ rest) :
    off < s.size ∧ Utf8.decode s off = (r, (enc r).length) ∧ s.data.toList.drop (off + (enc r).length) = rest := by
  have hm : r ≤ 1114111 ∧ (r < 55296 ∨ 57344 ≤ r) := by
    simp only [mayN, Bool.and_eq_true, Bool.or_eq_true, decide_eq_true_eq] at hr
    exact hr
  have hd : Utf8.decode s off = Lib.decodeN (s.size - off) (gb s off) (gb s (off + 1)) (gb s (off + 2)) (gb s (off + 3)) := Lib.decode_at s off
  have ofn (x : Nat) (h : x < 256) : (UInt8.ofNat x).toNat = x := by rw [UInt8.toNat_ofNat']; omega
  rw [hd]
  clear hd
  unfold enc at h ⊢
  by_cases c1 : r < 128
  · rw [if_pos c1] at h ⊢
    simp only [List.map_cons, List.map_nil, List.cons_append, List.nil_append] at h
    obtain ⟨l0, g0, h0⟩ := gb_drop h
    rw [ofn _ (by omega)] at g0
    refine ⟨l0, ?_, h0⟩
    unfold Lib.decodeN
    rw [g0, if_pos c1]
    rfl
  rw [if_neg c1] at h ⊢
  by_cases c2 : r < 2048
  · rw [if_pos c2] at h ⊢
    simp only [List.map_cons, List.map_nil, List.cons_append, List.nil_append] at h
    obtain ⟨l0, g0, h0⟩ := gb_drop h
    obtain ⟨l1, g1, h1⟩ := gb_drop h0
    rw [ofn _ (by omega)] at g0 g1
    refine ⟨l0, ?_, h1⟩
    unfold Lib.decodeN
    rw [g0, g1, if_neg (by omega), if_pos (by omega), if_pos (by omega)]
    simp only [List.length_cons, List.length_nil, Prod.mk.injEq, and_true]
    omega
  rw [if_neg c2] at h ⊢
  by_cases c3 : r < 65536
  · rw [if_pos c3] at h ⊢
    simp only [List.map_cons, List.map_nil, List.cons_append, List.nil_append] at h
    obtain ⟨l0, g0, h0⟩ := gb_drop h
    obtain ⟨l1, g1, h1⟩ := gb_drop h0
    obtain ⟨l2, g2, h2⟩ := gb_drop h1
    rw [show off + 1 + 1 = off + 2 from rfl] at g2 l2
    rw [ofn _ (by omega)] at g0 g1 g2
    refine ⟨l0, ?_, h2⟩
    unfold Lib.decodeN
    rw [g0, g1, g2, if_neg (by omega), if_neg (by omega), if_pos (by omega), if_pos (by omega)]
    simp only [List.length_cons, List.length_nil, Prod.mk.injEq, and_true]
    omega
  · rw [if_neg c3] at h ⊢
    simp only [List.map_cons, List.map_nil, List.cons_append, List.nil_append] at h
    obtain ⟨l0, g0, h0⟩ := gb_drop h
    obtain ⟨l1, g1, h1⟩ := gb_drop h0
    obtain ⟨l2, g2, h2⟩ := gb_drop h1
    obtain ⟨l3, g3, h3⟩ := gb_drop h2
    rw [show off + 1 + 1 = off + 2 from rfl] at g2 l2
    rw [show off + 1 + 1 + 1 = off + 3 from rfl] at g3 l3
    rw [ofn _ (by omega)] at g0 g1 g2 g3
    refine ⟨l0, ?_, h3⟩
    unfold Lib.decodeN
    rw [g0, g1, g2, g3, if_neg (by omega), if_neg (by omega), if_neg (by omega), if_pos (by omega), if_pos (by omega)]
    simp only [List.length_cons, List.length_nil, Prod.mk.injEq, and_true]
    omega
theorem size_list (s : ByteArray) : s.size = s.data.toList.length := by rw [Array.length_toList]; rfl
theorem names_ok : ∀ i : Nat, i < 61 → (1 ≤ i ∧ i ≤ 27 ∨ i = 60) → keyZ (nameB (i : Int)) = (i : Int) ∧ (nameB (i : Int)).all (fun x => decide (x.toNat < 128) && (x != 62)) = true ∧ mayZ (i : Int) = true ∧ nameB (i : Int) ≠ [] := by decide +kernel
theorem named {r : Int} (h : mayZ r = true) (hn : ¬ nameB r = []) : ∃ i : Nat, r = (i : Int) ∧ i < 61 ∧ (1 ≤ i ∧ i ≤ 27 ∨ i = 60) := by
  have hb := may_bounds h
  refine ⟨r.toNat, by omega, ?_⟩
  by_cases h60 : r = 60
  · omega
  by_cases h32 : r < 32
  · simp only [mayZ, Bool.or_eq_true, Bool.and_eq_true, decide_eq_true_eq] at h
    omega
  · exact absurd (by unfold nameB; rw [if_neg (by omega), if_neg (by omega), if_neg (by omega), if_neg (by omega), if_neg h60, if_neg h32]) hn
theorem ascii_at {s : ByteArray} {off : Nat} {c : UInt8} {rest : List UInt8} (hc : c.toNat < 128) (h : s.data.toList.drop off = c :: rest) : off < s.size ∧ Utf8.decode s off = (c.toNat, 1) ∧ s.data.toList.drop (off + 1) = rest := by
  obtain ⟨h1, h2, h3⟩ := gb_drop h
  refine ⟨h1, ?_, h3⟩
  have hd : Utf8.decode s off = Lib.decodeN (s.size - off) (gb s off) (gb s (off + 1)) (gb s (off + 2)) (gb s (off + 3)) := Lib.decode_at s off
  rw [hd, h2]
  exact decN_1 hc
theorem open_run (s : ByteArray) (o : Int) (ho : o ≥ 0) (acc : List Int) : ∀ (n : List UInt8) (off b : Nat) (rest : List UInt8), n.all (fun x => decide (x.toNat < 128) && (x != 62)) = true → s.data.toList.drop off = n ++ rest → s.size ≤ off + b →
    ∃ b', pz s (scan s b off) o acc = pz s (scan s b' (off + n.length)) o acc ∧ s.size ≤ off + n.length + b' ∧ (scan s b off).all whole = (scan s b' (off + n.length)).all whole ∧ s.data.toList.drop (off + n.length) = rest := by
  intro n
  induction n with
  | nil => intro off b rest _ h hb; exact ⟨b, rfl, hb, rfl, h⟩
  | cons c n ih =>
    intro off b rest hall h hb
    simp only [List.all_cons, Bool.and_eq_true, decide_eq_true_eq, bne_iff_ne] at hall
    obtain ⟨⟨hc, hne⟩, hall⟩ := hall
    obtain ⟨h1, h2, h3⟩ := ascii_at hc h
    cases b with
    | zero => omega
    | succ b =>
      obtain ⟨b', e1, e2, e3, e4⟩ := ih (off + 1) b rest hall h3 (by omega)
      have hc62 : ¬ ((c.toNat : Nat) : Int) = 62 := by
        intro hh
        apply hne
        apply UInt8.toNat_inj.1
        show c.toNat = 62
        omega
      have hw : whole (off, c.toNat, 1) = true := by
        have : (c.toNat == 65533) = false := by rw [beq_eq_false_iff_ne]; omega
        simp [whole, this]
      rw [List.length_cons, show off + (n.length + 1) = off + 1 + n.length by omega]
      refine ⟨b', ?_, e2, ?_, e4⟩
      · rw [scan, if_pos h1, h2, pz_in s off c.toNat 1 _ o acc ho hc62]
        exact e1
      · rw [scan, if_pos h1, h2, List.all_cons, hw, Bool.true_and]
        exact e3
theorem ext_list (s : ByteArray) (a b : Nat) : (s.extract a b).data.toList = (s.data.toList.drop a).take (b - a) := by
  rw [ByteArray.data_extract, Array.toList_extract, List.extract_eq_take_drop]
theorem parse_run (s : ByteArray) : ∀ (l : List Int) (off b : Nat) (acc : List Int), l.all mayZ = true → s.data.toList.drop off = l.flatMap writB → s.size ≤ off + b →
    pz s (scan s b off) (-1) acc = some (acc ++ l) ∧ (scan s b off).all whole = true := by
  intro l
  induction l with
  | nil =>
    intro off b acc _ h hb
    have : ¬ off < s.size := by
      intro hc
      rw [List.drop_eq_getElem_cons (by rw [← size_list]; exact hc)] at h
      simp at h
    rw [scan_end s b off this]
    exact ⟨by rw [pz_nil s _ _ (by decide), List.append_nil], rfl⟩
  | cons r l ih =>
    intro off b acc hall h hb
    rw [List.all_cons, Bool.and_eq_true] at hall
    obtain ⟨hm, hall⟩ := hall
    rw [List.flatMap_cons] at h
    have hbd := may_bounds hm
    have hv := may_valid hm
    by_cases hn : nameB r = []
    · have hw : writB r = (Utf8.encode r).data.toList := by unfold writB; rw [if_pos hn]
      have hvv : mayN r.toNat = true := by
        simp only [validZ, decide_eq_true_eq] at hv
        simp only [mayN, Bool.and_eq_true, Bool.or_eq_true, decide_eq_true_eq]
        omega
      have hfx : fixR r = r.toNat := by
        simp only [validZ, decide_eq_true_eq] at hv
        have : Utf8.valid r = true := by
          simp only [Utf8.valid, Bool.or_eq_true, Bool.and_eq_true, decide_eq_true_eq]
          omega
        unfold fixR
        rw [if_pos this]
      rw [hw, encode_eq, hfx] at h
      obtain ⟨h1, h2, h3⟩ := dec_enc hvv _ h
      have hl := enc_len r.toNat
      have hr : ((r.toNat : Nat) : Int) = r := by omega
      have h60 : ¬ r = 60 := by
        intro hh
        rw [hh] at hn
        exact absurd hn (by decide)
      have h32 : ¬ r < 32 := by
        intro hh
        have h27 : 1 ≤ r ∧ r ≤ 27 := by
          simp only [mayZ, Bool.or_eq_true, Bool.and_eq_true, decide_eq_true_eq] at hm
          omega
        have := (names_ok r.toNat (by omega) (by omega)).2.2.2
        rw [hr] at this
        exact this hn
      cases b with
      | zero => omega
      | succ b =>
        obtain ⟨e1, e2⟩ := ih (off + (enc r.toNat).length) b (acc ++ [r]) hall h3 (by omega)
        rw [scan, if_pos h1, h2]
        refine ⟨?_, ?_⟩
        · rw [pz_sign s off r.toNat _ _ (-1) acc (by decide) (by rw [hr]; exact h60) (by rw [hr]; exact h32) (by rw [hr]; exact hm), hr, e1, List.append_assoc]
          rfl
        · rw [List.all_cons, e2, Bool.and_true]
          unfold whole
          by_cases h5 : r.toNat = 65533
          · rw [h5]
            rfl
          · simp [h5]
    · obtain ⟨i, rfl, hi, hi2⟩ := named hm hn
      obtain ⟨k1, k2, k3, k4⟩ := names_ok i hi hi2
      have hw : writB (i : Int) = 60 :: nameB (i : Int) ++ [62] := by unfold writB; rw [if_neg hn]
      rw [hw, List.cons_append, List.cons_append, List.append_assoc] at h
      obtain ⟨h1, h2, h3⟩ := ascii_at (by decide) h
      cases b with
      | zero => omega
      | succ b =>
        obtain ⟨b', e1, e2, e3, e4⟩ := open_run s (off : Int) (by omega) acc (nameB (i : Int)) (off + 1) b _ k2 h3 (by omega)
        obtain ⟨g1, g2, g3⟩ := ascii_at (c := 62) (by decide) e4
        have hname : (s.extract ((off : Int) + 1).toNat (off + 1 + (nameB (i : Int)).length)).data.toList = nameB (i : Int) := by
          rw [ext_list, show ((off : Int) + 1).toNat = off + 1 by omega, h3, Nat.add_sub_cancel_left, List.take_left']
          rfl
        cases b' with
        | zero => omega
        | succ b' =>
          obtain ⟨f1, f2⟩ := ih (off + 1 + (nameB (i : Int)).length + 1) b' (acc ++ [(i : Int)]) hall g3 (by omega)
          have w62 : whole (off + 1 + (nameB (i : Int)).length, (62 : UInt8).toNat, 1) = true := rfl
          have w60 : whole (off, (60 : UInt8).toNat, 1) = true := rfl
          rw [scan, if_pos h1, h2]
          refine ⟨?_, ?_⟩
          · show pz s ((off, (60 : UInt8).toNat, 1) :: scan s b (off + 1)) (-1) acc = _
            rw [pz_open s off (60 : UInt8).toNat 1 _ (-1) acc (by decide) rfl, e1, scan, if_pos g1, g2]
            show pz s ((off + 1 + (nameB (i : Int)).length, (62 : UInt8).toNat, 1) :: scan s b' (off + 1 + (nameB (i : Int)).length + 1)) (off : Int) acc = _
            rw [pz_key s _ (62 : UInt8).toNat 1 _ (off : Int) acc (by omega) rfl (by rw [hname, k1]; omega), hname, k1, f1, List.append_assoc]
            rfl
          · rw [List.all_cons, w60, Bool.true_and]
            show (scan s b (off + 1)).all whole = true
            rw [e3, scan, if_pos g1, g2, List.all_cons, w62, Bool.true_and]
            exact f2
theorem parse_print (l : List Int) (hl : l.length ≤ 256) (hm : l.all mayZ = true) : parseZ ⟨(l.flatMap writB).toArray⟩ = (l, 0) := by
  obtain ⟨h1, h2⟩ := parse_run ⟨(l.flatMap writB).toArray⟩ l 0 (⟨(l.flatMap writB).toArray⟩ : ByteArray).size [] hm (by rw [List.drop_zero]) (by omega)
  unfold parseZ
  rw [if_pos h2, h1]
  exact if_neg (by simpa using hl)
theorem rd_natS (xs : List Int) (i : Nat) (h : i < xs.length) : rd xs (i : Int) = xs[i] := by
  unfold rd
  rw [Int.toNat_natCast, List.getD_eq_getElem?_getD, List.getElem?_eq_getElem h]
  rfl
theorem same_loop (xs : List Int) (hx : xs.length < 1000000) : ∀ (n k i : Nat), xs.length ≤ i + n → bureauref10_Same.l0 (n + k + 1) xs xs (i : Int) = some true := by
  intro n
  induction n with
  | zero =>
    intro k i h
    rw [show (0 + k + 1 : Nat) = k + 1 by omega, bureauref10_Same.l0, if_neg (by omega)]
  | succ n ih =>
    intro k i h
    rw [show (n + 1 + k + 1 : Nat) = (n + k + 1) + 1 by omega, bureauref10_Same.l0]
    by_cases hc : i < xs.length
    · rw [if_pos (by omega), if_pos (by omega), if_pos (by omega), if_pos rfl]
      have hw : wrap64 ((i : Int) + 1) = ((i + 1 : Nat) : Int) := by rw [wrapZ _ (by omega) (by omega)]; omega
      rw [hw, ih k _ (by omega)]
    · rw [if_neg (by omega)]
theorem same_eq (xs : List Int) (n k : Nat) (hx : xs.length < 1000000) (hn : xs.length ≤ n) : bureauref10_Same.f (n + k + 1) xs xs = some true := by
  unfold bureauref10_Same.f
  rw [if_pos rfl, show (0 : Int) = ((0 : Nat) : Int) from rfl]
  exact same_loop xs hx n k 0 (by omega)
theorem print_ok {l : List Int} (h : (printZ l).2 = 0) : l.length ≤ 256 ∧ l.all mayZ = true := by
  unfold printZ at h
  by_cases h1 : l.length > 256
  · rw [if_pos h1] at h
    cases h
  · rw [if_neg h1] at h
    cases hm : l.all mayZ with
    | true => exact ⟨by omega, rfl⟩
    | false =>
      rw [hm, if_neg (by decide)] at h
      cases h
theorem print_of {l : List Int} (h1 : l.length ≤ 256) (h2 : l.all mayZ = true) : printZ l = (⟨(l.flatMap writB).toArray⟩, 0) := by
  unfold printZ
  rw [if_neg (by omega), if_pos h2]
theorem flat_len : ∀ x : List Int, (x.flatMap writB).length ≤ 5 * x.length := by
  intro x
  induction x with
  | nil => simp
  | cons a x ih =>
    have := writB_len a
    rw [List.flatMap_cons, List.length_append, List.length_cons]
    omega
theorem ba_ext {x y : ByteArray} (h : x.data.toList = y.data.toList) : x = y := by
  cases x
  cases y
  simp only at h
  congr 1
  exact Array.toList_inj.1 h
theorem joins_j1 (a b : List Int) (k : Nat) : bureaulaw10_KeysJoins.j1 (1100 + k + 1) (printZ a).1 (printZ a).2 (printZ b).1 (printZ b).2 (a ++ b) (printZ (a ++ b)).1 (if (printZ a).2 = 0 ∧ (printZ b).2 = 0 then (printZ (a ++ b)).2 != 0 else true) = some true := by
  rw [bureaulaw10_KeysJoins.j1]
  by_cases h1 : (printZ a).2 = 0 ∧ (printZ b).2 = 0
  · rw [if_pos h1]
    obtain ⟨a1, a2⟩ := print_ok h1.1
    obtain ⟨b1, b2⟩ := print_ok h1.2
    have hall : (a ++ b).all mayZ = true := by rw [List.all_append, a2, b2]; rfl
    by_cases hl : (a ++ b).length > 256
    · have h2 : (printZ (a ++ b)).2 = 3 := by unfold printZ; rw [if_pos hl]
      rw [h2, if_pos (by decide), if_pos (by omega)]
    · have h2 := print_of (l := a ++ b) (by omega) hall
      have pa := print_of a1 a2
      have pb := print_of b1 b2
      have hcat : (⟨(a.flatMap writB).toArray⟩ : ByteArray) ++ (⟨(b.flatMap writB).toArray⟩ : ByteArray) = ⟨((a ++ b).flatMap writB).toArray⟩ := by
        apply ba_ext
        rw [ByteArray.data_append, Array.toList_append, List.flatMap_append]
      have hsz : ∀ x : List Int, (⟨(x.flatMap writB).toArray⟩ : ByteArray).size ≤ 5 * x.length := by
        intro x
        show (x.flatMap writB).toArray.size ≤ _
        rw [List.size_toArray]
        exact flat_len x
      have s1 := hsz a
      have s2 := hsz b
      have s3 := hsz (a ++ b)
      have hp : keys_Parse.f ⟨((a ++ b).flatMap writB).toArray⟩ = some (a ++ b, 0) := by
        unfold keys_Parse.f
        rw [if_pos (by omega), parse_print (a ++ b) (by omega) hall]
      have hq : keys_Parse.f ((⟨(a.flatMap writB).toArray⟩ : ByteArray) ++ (⟨(b.flatMap writB).toArray⟩ : ByteArray)) = some (a ++ b, 0) := by rw [hcat]; exact hp
      rw [h2, pa, pb]
      dsimp only
      rw [if_neg (by decide), if_pos (by omega), hq, Option.bind_some, hcat, if_pos rfl, if_pos rfl, show 1100 + k = 256 + (843 + k) + 1 by omega, same_eq (a ++ b) 256 (843 + k) (by omega) (by omega), Option.bind_some]
  · rw [if_neg h1, if_pos rfl]
    by_cases hl : ((a ++ b).length : Int) > 256
    · rw [if_pos hl]
    · rw [if_neg hl]
      by_cases ha : (printZ a).2 = 0
      · have hb : ¬ (printZ b).2 = 0 := fun h => h1 ⟨ha, h⟩
        rw [if_pos ha]
        congr 1
        exact bne_iff_ne.2 hb
      · rw [if_neg ha]
theorem KeysJoins : bureaulaw10_KeysJoins.Pure := by
  intro a b _ _ _ _
  refine ⟨1100 + 20 + 2, ?_⟩
  unfold bureaulaw10_KeysJoins.f
  have hal : bureaulaw10_alive.f (1100 + 20 + 2) = some true := alive_eq 1102
  rw [hal, Option.bind_some, if_pos rfl]
  by_cases hl : (a.length : Int) > 4096
  · rw [if_pos hl, bureaulaw10_KeysJoins.j0, if_pos rfl]
  rw [if_neg hl]
  by_cases hs : (b.length : Int) > 4096
  · rw [decide_eq_true hs, bureaulaw10_KeysJoins.j0, if_pos rfl]
  have q (l : List Int) : keys_Print.f l = some (printZ l) := rfl
  have hm1 : ([] : List Int).length + a.length < 35184372088832 := by simp only [List.length_nil]; omega
  have hm2 : a.length + b.length < 35184372088832 := by omega
  have hj := joins_j1 a b 20
  rw [decide_eq_false hs, bureaulaw10_KeysJoins.j0, if_neg (by decide), q, Option.bind_some, q, Option.bind_some, if_pos hm1, Option.bind_some, List.nil_append, if_pos hm2, Option.bind_some, q, Option.bind_some]
  by_cases h1 : (printZ a).2 = 0
  · rw [if_pos h1]
    by_cases h2 : (printZ b).2 = 0
    · rw [if_pos ⟨h1, h2⟩] at hj
      rw [if_pos h2]
      exact hj
    · rw [if_neg (fun h => h2 h.2)] at hj
      rw [if_neg h2]
      exact hj
  · rw [if_neg (fun h => h1 h.1)] at hj
    rw [if_neg h1]
    exact hj

end Go.Proofs.YtbbogjecpdebbaaDoor.Pure
