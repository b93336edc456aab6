/- The bytes of any numbers are the document's, and are whole signs: for every list of numbers. -/
import Derived.Test.YtodlhgpmenhnoaaDoorXGlyphEncodesx2
import Derived.Test.YtodlhgpmenhnoaaDoorExt02S
import Derived.OpenShut
set_option linter.unusedVariables false
set_option linter.unusedSimpArgs false
namespace Go.Proofs.YtodlhgpmenhnoaaDoor.Pure
open Go.RowKit Go.Proofs.YtodlhgpmenhnoaaDoor.XGlyphEncodes Go.Proofs.YtodlhgpmenhnoaaDoorW.PrintWords Go.Proofs.YtodlhgpmenhnoaaDoorW.PrintMore Go.Proofs.YtodlhgpmenhnoaaDoor.Ext

theorem tmodN (a b : Nat) : Int.tmod (a : Int) (b : Int) = ((a % b : Nat) : Int) := rfl
theorem tdivN (a b : Nat) : Int.tdiv (a : Int) (b : Int) = ((a / b : Nat) : Int) := rfl
theorem wrapN (a : Nat) (h : a < 9223372036854775808) : wrap64 (a : Int) = (a : Int) := by
  unfold wrap64
  omega
theorem wrapZ (a : Int) (h0 : -9223372036854775808 ≤ a) (h1 : a < 9223372036854775808) : wrap64 a = a := by
  unfold wrap64
  omega
/-- The byte of a text at a place, as a number. -/
def gb (s : ByteArray) (i : Nat) : Nat := (s.get! i).toNat
theorem gb_lt (s : ByteArray) (i : Nat) : gb s i < 256 := UInt8.toNat_lt _
theorem get_ext (s : ByteArray) (i n j : Nat) (h : i + n ≤ s.size) (hj : j < n) : (s.extract i (i + n)).get! j = s.get! (i + j) := by
  show (s.extract i (i + n)).data[j]! = s.data[i + j]!
  have hs : s.size = s.data.size := rfl
  rw [ByteArray.data_extract, getElem!_def, getElem!_def, Array.getElem?_extract, if_pos (by omega)]
theorem size_ext (s : ByteArray) (i n : Nat) (h : i + n ≤ s.size) : (s.extract i (i + n)).size = n := by
  rw [ByteArray.size_extract]
  omega
theorem bt_gb (x : ByteArray) (j : Nat) (hj : j < x.size) : bt x (j : Int) = ((gb x j : Nat) : Int) := by
  have h : ((j : Int).toNat) < x.size := by simpa using hj
  unfold bt gb
  rw [dif_pos h]
  have e : x[(j : Int).toNat]'h = x.get! j := by
    show x.data[j] = x.data[j]!
    rw [getElem!_pos x.data j hj]
  rw [e]
theorem list_bytes (x : ByteArray) : x.data.toList = (List.range x.size).map (fun j => x.get! j) := by
  apply List.ext_getElem?
  intro j
  have hs : x.size = x.data.size := rfl
  by_cases h : j < x.size
  · rw [List.getElem?_map, List.getElem?_range h]
    show x.data.toList[j]? = some x.data[j]!
    rw [getElem!_pos x.data j h]
    simp [hs ▸ h]
  · rw [List.getElem?_eq_none (by simp; omega), List.getElem?_eq_none (by simp; omega)]
/-! The numbers' bytes. -/
def enc (r : Nat) : List Nat :=
  if r < 128 then [r] else if r < 2048 then [192 + r / 64, 128 + r % 64] else if r < 65536 then [224 + r / 4096, 128 + r / 64 % 64, 128 + r % 64] else [240 + r / 262144, 128 + r / 4096 % 64, 128 + r / 64 % 64, 128 + r % 64]
def mayN (r : Nat) : Bool := r ≤ 1114111 && (r < 55296 || 57344 ≤ r)
theorem enc_lt {r : Nat} (h : r ≤ 1114111) : ∀ x ∈ enc r, x < 256 := by
  unfold enc
  intro x hx
  split at hx
  · simp only [List.mem_cons, List.not_mem_nil, or_false] at hx
    omega
  split at hx
  · simp only [List.mem_cons, List.not_mem_nil, or_false] at hx
    omega
  split at hx
  · simp only [List.mem_cons, List.not_mem_nil, or_false] at hx
    omega
  · simp only [List.mem_cons, List.not_mem_nil, or_false] at hx
    omega
/-! What the document's 'number' reads, and which so many bytes are a sign. -/
def numN (n b0 b1 b2 b3 : Nat) : Nat :=
  if n = 1 then b0 else if n = 2 then b0 % 32 * 64 + b1 % 64 else if n = 3 then (b0 % 16 * 64 + b1 % 64) * 64 + b2 % 64 else ((b0 % 8 * 64 + b1 % 64) * 64 + b2 % 64) * 64 + b3 % 64
theorem num1 (b0 b1 b2 b3 : Nat) : numN 1 b0 b1 b2 b3 = b0 := rfl
theorem num2 (b0 b1 b2 b3 : Nat) : numN 2 b0 b1 b2 b3 = b0 % 32 * 64 + b1 % 64 := rfl
theorem num3 (b0 b1 b2 b3 : Nat) : numN 3 b0 b1 b2 b3 = (b0 % 16 * 64 + b1 % 64) * 64 + b2 % 64 := rfl
theorem num4 (b0 b1 b2 b3 : Nat) : numN 4 b0 b1 b2 b3 = ((b0 % 8 * 64 + b1 % 64) * 64 + b2 % 64) * 64 + b3 % 64 := rfl
def okN (n b0 b1 b2 b3 : Nat) : Bool := mayN (numN n b0 b1 b2 b3) && enc (numN n b0 b1 b2 b3) == [b0, b1, b2, b3].take n
theorem ok1 {b0 : Nat} (b1 b2 b3 : Nat) (h0 : b0 < 256) : okN 1 b0 b1 b2 b3 = decide (b0 < 128) := by
  unfold okN mayN enc numN
  rw [if_pos rfl, Bool.eq_iff_iff]
  simp only [Bool.and_eq_true, Bool.or_eq_true, decide_eq_true_eq, beq_iff_eq, List.take_succ_cons, List.take_zero]
  constructor
  · rintro ⟨_, h⟩
    split at h
    · assumption
    · exfalso
      split at h
      · simp only [List.cons.injEq] at h
        exact absurd h.2 (by simp)
      split at h
      · simp only [List.cons.injEq] at h
        exact absurd h.2 (by simp)
      · simp only [List.cons.injEq] at h
        exact absurd h.2 (by simp)
  · intro h
    exact ⟨by omega, by rw [if_pos h]⟩
theorem ok2 {b0 b1 : Nat} (b2 b3 : Nat) (h0 : b0 < 256) (h1 : b1 < 256) : okN 2 b0 b1 b2 b3 = decide (b0 / 32 = 6 ∧ b1 / 64 = 2 ∧ 128 ≤ b0 % 32 * 64 + b1 % 64) := by
  unfold okN mayN enc numN
  rw [if_neg (by omega), if_pos rfl, Bool.eq_iff_iff]
  simp only [Bool.and_eq_true, Bool.or_eq_true, decide_eq_true_eq, beq_iff_eq, List.take_succ_cons, List.take_zero]
  generalize hr : b0 % 32 * 64 + b1 % 64 = r
  constructor
  · rintro ⟨_, h⟩
    split at h
    · cases h
    split at h
    · simp only [List.cons.injEq, and_true] at h
      omega
    split at h
    · cases h
    · cases h
  · intro h
    refine ⟨by omega, ?_⟩
    rw [if_neg (by omega), if_pos (by omega)]
    simp only [List.cons.injEq, and_true]
    omega
theorem ok3 {b0 b1 b2 : Nat} (b3 : Nat) (h0 : b0 < 256) (h1 : b1 < 256) (h2 : b2 < 256) : okN 3 b0 b1 b2 b3 =
    decide (b0 / 16 = 14 ∧ b1 / 64 = 2 ∧ b2 / 64 = 2 ∧ 2048 ≤ b0 % 16 * 4096 + b1 % 64 * 64 + b2 % 64 ∧ (b0 % 16 * 4096 + b1 % 64 * 64 + b2 % 64 < 55296 ∨ 57344 ≤ b0 % 16 * 4096 + b1 % 64 * 64 + b2 % 64)) := by
  unfold okN mayN enc numN
  rw [if_neg (by omega), if_neg (by omega), if_pos rfl, Bool.eq_iff_iff]
  simp only [Bool.and_eq_true, Bool.or_eq_true, decide_eq_true_eq, beq_iff_eq, List.take_succ_cons, List.take_zero]
  rw [show (b0 % 16 * 64 + b1 % 64) * 64 + b2 % 64 = b0 % 16 * 4096 + b1 % 64 * 64 + b2 % 64 by omega]
  generalize hr : b0 % 16 * 4096 + b1 % 64 * 64 + b2 % 64 = r
  constructor
  · rintro ⟨_, h⟩
    split at h
    · cases h
    split at h
    · cases h
    split at h
    · simp only [List.cons.injEq, and_true] at h
      omega
    · cases h
  · intro h
    refine ⟨by omega, ?_⟩
    rw [if_neg (by omega), if_neg (by omega), if_pos (by omega)]
    simp only [List.cons.injEq, and_true]
    omega
theorem ok4 {b0 b1 b2 b3 : Nat} (h0 : b0 < 256) (h1 : b1 < 256) (h2 : b2 < 256) (h3 : b3 < 256) : okN 4 b0 b1 b2 b3 =
    decide (b0 / 8 = 30 ∧ b1 / 64 = 2 ∧ b2 / 64 = 2 ∧ b3 / 64 = 2 ∧ 65536 ≤ b0 % 8 * 262144 + b1 % 64 * 4096 + b2 % 64 * 64 + b3 % 64 ∧ b0 % 8 * 262144 + b1 % 64 * 4096 + b2 % 64 * 64 + b3 % 64 ≤ 1114111) := by
  unfold okN mayN enc numN
  rw [if_neg (by omega), if_neg (by omega), if_neg (by omega), Bool.eq_iff_iff]
  simp only [Bool.and_eq_true, Bool.or_eq_true, decide_eq_true_eq, beq_iff_eq, List.take_succ_cons, List.take_zero]
  rw [show ((b0 % 8 * 64 + b1 % 64) * 64 + b2 % 64) * 64 + b3 % 64 = b0 % 8 * 262144 + b1 % 64 * 4096 + b2 % 64 * 64 + b3 % 64 by omega]
  generalize hr : b0 % 8 * 262144 + b1 % 64 * 4096 + b2 % 64 * 64 + b3 % 64 = r
  constructor
  · rintro ⟨_, h⟩
    split at h
    · cases h
    split at h
    · cases h
    split at h
    · cases h
    · simp only [List.cons.injEq, and_true] at h
      omega
  · intro h
    refine ⟨by omega, ?_⟩
    rw [if_neg (by omega), if_neg (by omega), if_neg (by omega)]
    simp only [List.cons.injEq, and_true]
    omega
/-- The model's decoding, by which so many bytes are a sign. -/
def firstOk (m b0 b1 b2 b3 : Nat) : Nat × Nat × Bool :=
  if okN 1 b0 b1 b2 b3 = true then (numN 1 b0 b1 b2 b3, 1, true)
  else if 2 ≤ m ∧ okN 2 b0 b1 b2 b3 = true then (numN 2 b0 b1 b2 b3, 2, true)
  else if 3 ≤ m ∧ okN 3 b0 b1 b2 b3 = true then (numN 3 b0 b1 b2 b3, 3, true)
  else if 4 ≤ m ∧ okN 4 b0 b1 b2 b3 = true then (numN 4 b0 b1 b2 b3, 4, true)
  else (65533, 1, false)
theorem first_decode {m b0 b1 b2 b3 : Nat} (h0 : b0 < 256) (h1 : b1 < 256) (h2 : b2 < 256) (h3 : b3 < 256) :
    firstOk m b0 b1 b2 b3 = ((Lib.decodeN m b0 b1 b2 b3).1, (Lib.decodeN m b0 b1 b2 b3).2, whole (0, Lib.decodeN m b0 b1 b2 b3)) := by
  unfold firstOk
  rw [ok1 b1 b2 b3 h0, ok2 b2 b3 h0 h1, ok3 b3 h0 h1 h2, ok4 h0 h1 h2 h3]
  simp only [decide_eq_true_eq]
  have n1 : numN 1 b0 b1 b2 b3 = b0 := rfl
  have n2 : numN 2 b0 b1 b2 b3 = b0 % 32 * 64 + b1 % 64 := rfl
  have n3 : numN 3 b0 b1 b2 b3 = b0 % 16 * 4096 + b1 % 64 * 64 + b2 % 64 := by unfold numN; rw [if_neg (by omega), if_neg (by omega), if_pos rfl]; omega
  have n4 : numN 4 b0 b1 b2 b3 = b0 % 8 * 262144 + b1 % 64 * 4096 + b2 % 64 * 64 + b3 % 64 := by unfold numN; rw [if_neg (by omega), if_neg (by omega), if_neg (by omega)]; omega
  rw [n1, n2, n3, n4]
  unfold Lib.decodeN
  by_cases c1 : b0 < 128
  · rw [if_pos c1, if_pos c1]
    have : (b0 == 65533) = false := by rw [beq_eq_false_iff_ne]; omega
    simp [whole, this]
  rw [if_neg c1, if_neg c1]
  by_cases c2 : b0 / 32 = 6 ∧ (1 < m ∧ b1 / 64 = 2)
  · rw [if_pos c2]
    by_cases d2 : b0 % 32 * 64 + b1 % 64 ≥ 128
    · rw [if_pos d2, if_pos (by omega)]
      simp [whole]
    · rw [if_neg d2, if_neg (by omega), if_neg (by omega), if_neg (by omega)]
      rfl
  rw [if_neg c2, if_neg (by omega)]
  by_cases c3 : b0 / 16 = 14 ∧ (1 < m ∧ b1 / 64 = 2) ∧ (2 < m ∧ b2 / 64 = 2)
  · rw [if_pos c3]
    by_cases d3 : b0 % 16 * 4096 + b1 % 64 * 64 + b2 % 64 ≥ 2048 ∧ (b0 % 16 * 4096 + b1 % 64 * 64 + b2 % 64 < 55296 ∨ (57344 ≤ b0 % 16 * 4096 + b1 % 64 * 64 + b2 % 64 ∧ b0 % 16 * 4096 + b1 % 64 * 64 + b2 % 64 ≤ 1114111))
    · rw [if_pos d3, if_pos (by omega)]
      simp [whole]
    · rw [if_neg d3, if_neg (by omega), if_neg (by omega)]
      rfl
  rw [if_neg c3, if_neg (by omega)]
  by_cases c4 : b0 / 8 = 30 ∧ (1 < m ∧ b1 / 64 = 2) ∧ (2 < m ∧ b2 / 64 = 2) ∧ (3 < m ∧ b3 / 64 = 2)
  · rw [if_pos c4]
    by_cases d4 : b0 % 8 * 262144 + b1 % 64 * 4096 + b2 % 64 * 64 + b3 % 64 ≥ 65536 ∧ (b0 % 8 * 262144 + b1 % 64 * 4096 + b2 % 64 * 64 + b3 % 64 < 55296 ∨ (57344 ≤ b0 % 8 * 262144 + b1 % 64 * 4096 + b2 % 64 * 64 + b3 % 64 ∧ b0 % 8 * 262144 + b1 % 64 * 4096 + b2 % 64 * 64 + b3 % 64 ≤ 1114111))
    · rw [if_pos d4, if_pos (by omega)]
      simp [whole]
    · rw [if_neg d4, if_neg (by omega)]
      rfl
  rw [if_neg c4, if_neg (by omega)]
  rfl
theorem may_eq (r : Nat) : bureauref02_May.f (r : Int) = some (mayN r) := by
  unfold bureauref02_May.f mayN
  rw [if_pos (Int.natCast_nonneg r)]
  by_cases h1 : r ≤ 1114111
  · rw [if_pos (by omega)]
    by_cases h2 : r < 55296
    · rw [if_pos (by omega)]
      simp [h1, h2]
    · rw [if_neg (by omega)]
      congr 1
      rw [Bool.eq_iff_iff]
      simp only [decide_eq_true_eq, Bool.and_eq_true, Bool.or_eq_true]
      omega
  · rw [if_neg (by omega)]
    simp [h1]
theorem lowK (K : Int) (k x : Nat) (hK : K = (k : Int)) (h : k + x < 256) : UInt8.ofNat (wrap64 (K + (x : Int)) % 256).toNat = UInt8.ofNat (k + x) := by
  congr 1
  unfold wrap64
  omega
theorem lowA (x : Nat) (h : x < 256) : UInt8.ofNat ((x : Int) % 256).toNat = UInt8.ofNat x := by
  congr 1
  omega
theorem l2 {a b a' b' : UInt8} (h1 : a = a') (h2 : b = b') : [a, b] = [a', b'] := by rw [h1, h2]
theorem l3 {a b c a' b' c' : UInt8} (h1 : a = a') (h2 : b = b') (h3 : c = c') : [a, b, c] = [a', b', c'] := by rw [h1, h2, h3]
theorem l4 {a b c d a' b' c' d' : UInt8} (h1 : a = a') (h2 : b = b') (h3 : c = c') (h4 : d = d') : [a, b, c, d] = [a', b', c', d'] := by rw [h1, h2, h3, h4]
theorem bytes_eq {r : Nat} (h : r ≤ 1114111) : bureauref02_Bytes.f (r : Int) = some ⟨((enc r).map UInt8.ofNat).toArray⟩ := by
  have e64 : Int.tdiv (r : Int) 64 = ((r / 64 : Nat) : Int) := rfl
  have e4096 : Int.tdiv (r : Int) 4096 = ((r / 4096 : Nat) : Int) := rfl
  have e262144 : Int.tdiv (r : Int) 262144 = ((r / 262144 : Nat) : Int) := rfl
  have m64 : Int.tmod (r : Int) 64 = ((r % 64 : Nat) : Int) := rfl
  have w1 := wrapN (r / 64) (by omega)
  have w2 := wrapN (r / 4096) (by omega)
  have w3 := wrapN (r / 262144) (by omega)
  have m1 : Int.tmod ((r / 64 : Nat) : Int) 64 = ((r / 64 % 64 : Nat) : Int) := rfl
  have m2 : Int.tmod ((r / 4096 : Nat) : Int) 64 = ((r / 4096 % 64 : Nat) : Int) := rfl
  unfold bureauref02_Bytes.f enc
  rw [e64, e4096, e262144, m64, w1, w2, w3, m1, m2]
  clear e64 e4096 e262144 m64 w1 w2 w3 m1 m2
  by_cases h1 : r < 128
  · rw [if_pos (by omega), if_pos h1]
    simp only [strOfNums, List.map_cons, List.map_nil, lowA r (by omega)]
  rw [if_neg (by omega), if_neg h1]
  by_cases h2 : r < 2048
  · rw [if_pos (by omega), if_pos h2]
    simp only [strOfNums, List.map_cons, List.map_nil]
    exact congrArg (fun l : List UInt8 => some (⟨l.toArray⟩ : ByteArray)) (l2 (lowK 192 192 (r / 64) rfl (by omega)) (lowK 128 128 (r % 64) rfl (by omega)))
  rw [if_neg (by omega), if_neg h2]
  by_cases h3 : r < 65536
  · rw [if_pos (by omega), if_pos h3]
    simp only [strOfNums, List.map_cons, List.map_nil]
    exact congrArg (fun l : List UInt8 => some (⟨l.toArray⟩ : ByteArray)) (l3 (lowK 224 224 (r / 4096) rfl (by omega)) (lowK 128 128 (r / 64 % 64) rfl (by omega)) (lowK 128 128 (r % 64) rfl (by omega)))
  · rw [if_neg (by omega), if_neg h3]
    simp only [strOfNums, List.map_cons, List.map_nil]
    exact congrArg (fun l : List UInt8 => some (⟨l.toArray⟩ : ByteArray)) (l4 (lowK 240 240 (r / 262144) rfl (by omega)) (lowK 128 128 (r / 4096 % 64) rfl (by omega)) (lowK 128 128 (r / 64 % 64) rfl (by omega)) (lowK 128 128 (r % 64) rfl (by omega)))
theorem decN_le (n b0 b1 b2 b3 : Nat) : (Lib.decodeN n b0 b1 b2 b3).2 ≤ 4 := by
  unfold Lib.decodeN
  repeat' split
  all_goals (simp only; omega)
theorem decN_fits (n b0 b1 b2 b3 : Nat) (hn : 1 ≤ n) : (Lib.decodeN n b0 b1 b2 b3).2 ≤ n := by
  unfold Lib.decodeN
  repeat' split
  all_goals (simp only; omega)
theorem decN_rune (n b0 b1 b2 b3 : Nat) (h : b0 < 256) : (Lib.decodeN n b0 b1 b2 b3).1 ≤ 1114111 := by
  unfold Lib.decodeN
  repeat' split
  all_goals (simp only; omega)
theorem dec_le (s : ByteArray) (i : Nat) : (Utf8.decode s i).1 ≤ 1114111 := by
  rw [Lib.decode_at]
  exact decN_rune _ _ _ _ _ (UInt8.toNat_lt _)
theorem width_le4 (s : ByteArray) (i : Nat) : (Utf8.decode s i).2 ≤ 4 := by
  rw [Lib.decode_at]
  exact decN_le _ _ _ _ _
theorem width_fits (s : ByteArray) (i : Nat) (h : i < s.size) : i + (Utf8.decode s i).2 ≤ s.size := by
  rw [Lib.decode_at]
  have := decN_fits (s.size - i) (s.get! i).toNat (s.get! (i + 1)).toNat (s.get! (i + 2)).toNat (s.get! (i + 3)).toNat (by omega)
  omega
/-! A list of numbers, as bytes. -/
def fixR (r : Int) : Nat := if Utf8.valid r then r.toNat else 65533
theorem fix_may (r : Int) : mayN (fixR r) = true := by
  unfold fixR mayN
  split
  · rename_i h
    simp only [Utf8.valid, Bool.or_eq_true, Bool.and_eq_true, decide_eq_true_eq] at h ⊢
    omega
  · rfl
theorem encode_eq (r : Int) : (Utf8.encode r).data.toList = (enc (fixR r)).map UInt8.ofNat := by
  unfold Utf8.encode enc
  have hf : (if Utf8.valid r = true then r.toNat else Utf8.runeError) = fixR r := rfl
  simp only [hf]
  repeat' split
  all_goals rfl
theorem rb_fold (l : List Int) : ∀ s : ByteArray, (l.foldl (fun r n => r ++ Utf8.encode n) s).data.toList = s.data.toList ++ (l.flatMap fun r => enc (fixR r)).map UInt8.ofNat := by
  induction l with
  | nil => intro s; simp
  | cons r l ih =>
    intro s
    rw [List.foldl_cons, ih, ByteArray.data_append, Array.toList_append, encode_eq, List.flatMap_cons, List.map_append, List.append_assoc]
theorem rb_eq (l : List Int) : (runesBytes l).data.toList = (l.flatMap fun r => enc (fixR r)).map UInt8.ofNat := by
  unfold runesBytes
  rw [rb_fold]
  rfl
theorem enc_len (r : Nat) : 1 ≤ (enc r).length ∧ (enc r).length ≤ 4 := by
  unfold enc
  split
  · simp
  split
  · simp
  split
  · simp
  · simp
theorem may_le {r : Nat} (h : mayN r = true) : r ≤ 1114111 := by
  simp only [mayN, Bool.and_eq_true, decide_eq_true_eq] at h
  exact h.1
theorem alive_eq (k : Nat) : bureaulaw02_alive.f (k + 20) = some true := by
  have h : bureaulaw02_alive.f 20 = some true := by decide +kernel
  induction k with
  | zero => exact h
  | succ k ih =>
    have := bureaulaw02_alive.mono (k + 20) true ih
    rwa [show k + 1 + 20 = k + 20 + 1 by omega]
theorem gb_drop {s : ByteArray} {off : Nat} {x : UInt8} {rest : List UInt8} (h : s.data.toList.drop off = x :: rest) : off < s.size ∧ gb s off = x.toNat ∧ s.data.toList.drop (off + 1) = rest := by
  have hs : s.size = s.data.toList.length := by rw [Array.length_toList]; rfl
  have hlt : off < s.data.toList.length := by
    by_cases hc : off < s.data.toList.length
    · exact hc
    · rw [List.drop_of_length_le (by omega)] at h
      cases h
  rw [List.drop_eq_getElem_cons hlt] at h
  simp only [List.cons.injEq] at h
  refine ⟨by omega, ?_, h.2⟩
  have : s.get! off = s.data.toList[off] := by
    show s.data[off]! = _
    rw [getElem!_pos s.data off (by simpa using hlt)]
    simp
  unfold gb
  rw [this, h.1]
theorem dec_enc {s : ByteArray} {off r : Nat} (hr : mayN r = true) (rest : List UInt8) (h : s.data.toList.drop off = (enc r).map UInt8.ofNat ++ rest) :
    off < s.size ∧ Utf8.decode s off = (r, (enc r).length) ∧ s.data.toList.drop (off + (enc r).length) = rest := by
  have hm : r ≤ 1114111 ∧ (r < 55296 ∨ 57344 ≤ r) := by
    simp only [mayN, Bool.and_eq_true, Bool.or_eq_true, decide_eq_true_eq] at hr
    exact hr
  have hd : Utf8.decode s off = Lib.decodeN (s.size - off) (gb s off) (gb s (off + 1)) (gb s (off + 2)) (gb s (off + 3)) := Lib.decode_at s off
  have ofn (x : Nat) (h : x < 256) : (UInt8.ofNat x).toNat = x := by rw [UInt8.toNat_ofNat']; omega
  rw [hd]
  clear hd
  unfold enc at h ⊢
  by_cases c1 : r < 128
  · rw [if_pos c1] at h ⊢
    simp only [List.map_cons, List.map_nil, List.cons_append, List.nil_append] at h
    obtain ⟨l0, g0, h0⟩ := gb_drop h
    rw [ofn _ (by omega)] at g0
    refine ⟨l0, ?_, h0⟩
    unfold Lib.decodeN
    rw [g0, if_pos c1]
    rfl
  rw [if_neg c1] at h ⊢
  by_cases c2 : r < 2048
  · rw [if_pos c2] at h ⊢
    simp only [List.map_cons, List.map_nil, List.cons_append, List.nil_append] at h
    obtain ⟨l0, g0, h0⟩ := gb_drop h
    obtain ⟨l1, g1, h1⟩ := gb_drop h0
    rw [ofn _ (by omega)] at g0 g1
    refine ⟨l0, ?_, h1⟩
    unfold Lib.decodeN
    rw [g0, g1, if_neg (by omega), if_pos (by omega), if_pos (by omega)]
    simp only [List.length_cons, List.length_nil, Prod.mk.injEq, and_true]
    omega
  rw [if_neg c2] at h ⊢
  by_cases c3 : r < 65536
  · rw [if_pos c3] at h ⊢
    simp only [List.map_cons, List.map_nil, List.cons_append, List.nil_append] at h
    obtain ⟨l0, g0, h0⟩ := gb_drop h
    obtain ⟨l1, g1, h1⟩ := gb_drop h0
    obtain ⟨l2, g2, h2⟩ := gb_drop h1
    rw [show off + 1 + 1 = off + 2 from rfl] at g2 l2
    rw [ofn _ (by omega)] at g0 g1 g2
    refine ⟨l0, ?_, h2⟩
    unfold Lib.decodeN
    rw [g0, g1, g2, if_neg (by omega), if_neg (by omega), if_pos (by omega), if_pos (by omega)]
    simp only [List.length_cons, List.length_nil, Prod.mk.injEq, and_true]
    omega
  · rw [if_neg c3] at h ⊢
    simp only [List.map_cons, List.map_nil, List.cons_append, List.nil_append] at h
    obtain ⟨l0, g0, h0⟩ := gb_drop h
    obtain ⟨l1, g1, h1⟩ := gb_drop h0
    obtain ⟨l2, g2, h2⟩ := gb_drop h1
    obtain ⟨l3, g3, h3⟩ := gb_drop h2
    rw [show off + 1 + 1 = off + 2 from rfl] at g2 l2
    rw [show off + 1 + 1 + 1 = off + 3 from rfl] at g3 l3
    rw [ofn _ (by omega)] at g0 g1 g2 g3
    refine ⟨l0, ?_, h3⟩
    unfold Lib.decodeN
    rw [g0, g1, g2, g3, if_neg (by omega), if_neg (by omega), if_neg (by omega), if_pos (by omega), if_pos (by omega)]
    simp only [List.length_cons, List.length_nil, Prod.mk.injEq, and_true]
    omega
theorem scan_enc (s : ByteArray) : ∀ (l : List Nat) (b off : Nat), (∀ r ∈ l, mayN r = true) → s.data.toList.drop off = (l.flatMap enc).map UInt8.ofNat → s.size ≤ off + b → (scan s b off).length = l.length ∧ (scan s b off).all whole = true := by
  intro l
  have hs : s.size = s.data.toList.length := by rw [Array.length_toList]; rfl
  induction l with
  | nil =>
    intro b off _ h hb
    have : ¬ off < s.size := by
      intro hc
      rw [List.drop_eq_getElem_cons (by omega)] at h
      simp at h
    rw [scan_end s b off this]
    exact ⟨rfl, rfl⟩
  | cons r l ih =>
    intro b off hm h hb
    rw [List.flatMap_cons, List.map_append] at h
    obtain ⟨h1, h2, h3⟩ := dec_enc (hm r (by simp)) _ h
    have hl := enc_len r
    cases b with
    | zero => omega
    | succ b =>
      obtain ⟨e1, e2⟩ := ih b (off + (enc r).length) (fun x hx => hm x (by simp [hx])) h3 (by omega)
      rw [scan, if_pos h1, h2]
      refine ⟨by simp [e1], ?_⟩
      rw [List.all_cons, e2, Bool.and_true]
      unfold whole
      by_cases h5 : r = 65533
      · subst h5
        rfl
      · simp [h5]
theorem rd_nat (xs : List Int) (i : Nat) (h : i < xs.length) : rd xs (i : Int) = xs[i] := by
  unfold rd
  rw [Int.toNat_natCast, List.getD_eq_getElem?_getD, List.getElem?_eq_getElem h]
  rfl
theorem bytesOf_enc {r : Nat} (h : r ≤ 1114111) : bytesOf (⟨((enc r).map UInt8.ofNat).toArray⟩ : ByteArray) = (enc r).map (fun x : Nat => (x : Int)) := by
  have hl := enc_lt h
  show ((enc r).map UInt8.ofNat).map (fun b => (b.toNat : Int)) = _
  rw [List.map_map]
  refine List.map_congr_left (fun x hx => ?_)
  have := hl x hx
  simp only [Function.comp, UInt8.toNat_ofNat']
  omega
theorem enc_loop (l : List Int) (hl : l.length ≤ 4096) (hw : ∀ x ∈ l, -2147483648 ≤ x ∧ x ≤ 2147483647) : ∀ (c i k : Nat) (acc : List Int), i + c = l.length → acc.length ≤ 4 * i →
    bureauref02_Encode.l0 (c + k + 1) l acc (i : Int) = some (strOfNums (acc ++ ((l.drop i).flatMap fun r => enc (fixR r)).map (fun x : Nat => (x : Int)))) := by
  intro c
  induction c with
  | zero =>
    intro i k acc hi ha
    rw [show 0 + k + 1 = k + 1 by omega, bureauref02_Encode.l0, if_neg (by omega), List.drop_of_length_le (by omega)]
    simp
  | succ c ih =>
    intro i k acc hi ha
    have hlt : i < l.length := by omega
    have hx := hw l[i] (List.getElem_mem hlt)
    have hwi : wrap64 ((i : Int) + 1) = ((i + 1 : Nat) : Int) := by rw [wrapZ _ (by omega) (by omega)]; omega
    have hwx : wrap64 l[i] = l[i] := wrapZ _ (by omega) (by omega)
    rw [show c + 1 + k + 1 = (c + k + 1) + 1 by omega, bureauref02_Encode.l0, if_pos (by omega), if_pos (by omega), rd_nat l i hlt, hwx, hwi, List.drop_eq_getElem_cons hlt, List.flatMap_cons, List.map_append, ← List.append_assoc]
    clear hwi hwx
    generalize l[i] = x at *
    have hfm := fix_may x
    have hlen := enc_len (fixR x)
    have hB := bytesOf_enc (may_le hfm)
    have hsz : (⟨((enc (fixR x)).map UInt8.ofNat).toArray⟩ : ByteArray).size = (enc (fixR x)).length := by simp [ByteArray.size]
    have fin : (if acc.length + (⟨((enc (fixR x)).map UInt8.ofNat).toArray⟩ : ByteArray).size < 140737488355328 then bureauref02_Encode.l0 (c + k + 1) l (acc ++ bytesOf (⟨((enc (fixR x)).map UInt8.ofNat).toArray⟩ : ByteArray)) ((i + 1 : Nat) : Int) else none)
        = some (strOfNums (acc ++ (enc (fixR x)).map (fun x : Nat => (x : Int)) ++ ((l.drop (i + 1)).flatMap fun r => enc (fixR r)).map (fun x : Nat => (x : Int)))) := by
      rw [hsz, if_pos (by omega), hB]
      exact ih (i + 1) k _ (by omega) (by simp; omega)
    by_cases hv : Utf8.valid x = true
    · have hx0 : 0 ≤ x := by
        simp only [Utf8.valid, Bool.or_eq_true, Bool.and_eq_true, decide_eq_true_eq] at hv
        omega
      have hfx : ((fixR x : Nat) : Int) = x := by unfold fixR; rw [if_pos hv]; omega
      have hM := may_eq (fixR x)
      have hY := bytes_eq (may_le hfm)
      rw [hfx] at hM hY
      rw [hM, Option.bind_some, hfm, if_pos rfl, hY, Option.bind_some]
      exact fin
    · have hfx : fixR x = 65533 := by unfold fixR; rw [if_neg hv]
      have hM : bureauref02_May.f x = some false := by
        unfold bureauref02_May.f
        simp only [Utf8.valid, Bool.or_eq_true, Bool.and_eq_true, decide_eq_true_eq] at hv
        by_cases h0 : x ≥ 0
        · rw [if_pos h0]
          by_cases h1 : x ≤ 1114111
          · rw [if_pos h1, if_neg (by omega), decide_eq_false (by omega)]
          · rw [if_neg h1]
        · rw [if_neg h0]
      have hY := bytes_eq (may_le hfm)
      rw [hfx] at hY fin
      rw [hM, Option.bind_some, if_neg (by decide), show (65533 : Int) = ((65533 : Nat) : Int) from rfl, hY, Option.bind_some, hfx]
      exact fin
theorem GlyphEncodes : bureaulaw02_GlyphEncodes.Pure := by
  intro l _ hwf
  have hw : ∀ x ∈ l, -2147483648 ≤ x ∧ x ≤ 2147483647 := fun x hx => by simpa [Lit.wf, IntKind.min, IntKind.max, IntKind.signed, IntKind.bits] using hwf x hx
  refine ⟨l.length + 19 + 1, ?_⟩
  unfold bureaulaw02_GlyphEncodes.f
  have hal : bureaulaw02_alive.f (l.length + 19 + 1) = some true := by rw [show l.length + 19 + 1 = l.length + 20 by omega]; exact alive_eq _
  rw [hal, Option.bind_some, if_pos rfl]
  by_cases hs : (l.length : Int) > 4096
  · rw [if_pos hs]
  have h1 : glyph_Encode.f l = some (runesBytes l) := rfl
  have h2 : bureauref02_Encode.f (l.length + 19 + 1) l = some (strOfNums ((l.flatMap fun r => enc (fixR r)).map (fun x : Nat => (x : Int)))) := by
    have := enc_loop l (by omega) hw l.length 0 19 [] (by omega) (by simp)
    simpa [bureauref02_Encode.f] using this
  rw [if_neg hs, h1, Option.bind_some, h2, Option.bind_some]
  have hrb := rb_eq l
  have he : (strOfNums ((l.flatMap fun r => enc (fixR r)).map (fun x : Nat => (x : Int)))).data.toList = (l.flatMap fun r => enc (fixR r)).map UInt8.ofNat := by
    unfold strOfNums
    rw [List.map_map]
    rfl
  rw [ByteArray.toList_eq, ByteArray.toList_eq, hrb, he, if_pos rfl]
  have hsz := runesBytes_size_le l
  have hfl : (l.flatMap fun r => enc (fixR r)) = (l.map fixR).flatMap enc := by rw [List.flatMap_map]
  obtain ⟨e1, e2⟩ := scan_enc (runesBytes l) (l.map fixR) (runesBytes l).size 0 (fun r hr => by
    obtain ⟨x, _, rfl⟩ := List.mem_map.1 hr
    exact fix_may x) (by rw [List.drop_zero, hrb, hfl]) (by omega)
  have h3 : glyph_Valid.f (runesBytes l) = some true := by unfold glyph_Valid.f; rw [e2]
  have h4 : glyph_Count.f (runesBytes l) = some (l.length : Int) := by unfold glyph_Count.f; rw [if_pos (by omega), e1, List.length_map]
  rw [h3, Option.bind_some, if_pos rfl, h4, Option.bind_some]
  simp

end Go.Proofs.YtodlhgpmenhnoaaDoor.Pure
