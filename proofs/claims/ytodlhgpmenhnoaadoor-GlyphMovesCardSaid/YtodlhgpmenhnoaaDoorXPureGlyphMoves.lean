/- The sign at any place of any bytes, and those beside it, are the document's: for every text and every place. -/
import Derived.Test.YtodlhgpmenhnoaaDoorXGlyphMovesx3
import Derived.Test.YtodlhgpmenhnoaaDoorExt02S
import Derived.OpenShut
set_option linter.unusedVariables false
set_option linter.unusedSimpArgs false
namespace Go.Proofs.YtodlhgpmenhnoaaDoor.Pure
open Go.RowKit Go.Proofs.YtodlhgpmenhnoaaDoor.XGlyphMoves Go.Proofs.YtodlhgpmenhnoaaDoorW.PrintWords Go.Proofs.YtodlhgpmenhnoaaDoorW.PrintMore Go.Proofs.YtodlhgpmenhnoaaDoor.Ext

theorem tmodN (a b : Nat) : Int.tmod (a : Int) (b : Int) = ((a % b : Nat) : Int) := rfl
theorem tdivN (a b : Nat) : Int.tdiv (a : Int) (b : Int) = ((a / b : Nat) : Int) := rfl
theorem wrapN (a : Nat) (h : a < 9223372036854775808) : wrap64 (a : Int) = (a : Int) := by
  unfold wrap64
  omega
theorem wrapZ (a : Int) (h0 : -9223372036854775808 ≤ a) (h1 : a < 9223372036854775808) : wrap64 a = a := by
  unfold wrap64
  omega
/-- The byte of a text at a place, as a number. -/
def gb (s : ByteArray) (i : Nat) : Nat := (s.get! i).toNat
theorem gb_lt (s : ByteArray) (i : Nat) : gb s i < 256 := UInt8.toNat_lt _
theorem get_ext (s : ByteArray) (i n j : Nat) (h : i + n ≤ s.size) (hj : j < n) : (s.extract i (i + n)).get! j = s.get! (i + j) := by
  show (s.extract i (i + n)).data[j]! = s.data[i + j]!
  have hs : s.size = s.data.size := rfl
  rw [ByteArray.data_extract, getElem!_def, getElem!_def, Array.getElem?_extract, if_pos (by omega)]
theorem size_ext (s : ByteArray) (i n : Nat) (h : i + n ≤ s.size) : (s.extract i (i + n)).size = n := by
  rw [ByteArray.size_extract]
  omega
theorem bt_gb (x : ByteArray) (j : Nat) (hj : j < x.size) : bt x (j : Int) = ((gb x j : Nat) : Int) := by
  have h : ((j : Int).toNat) < x.size := by simpa using hj
  unfold bt gb
  rw [dif_pos h]
  have e : x[(j : Int).toNat]'h = x.get! j := by
    show x.data[j] = x.data[j]!
    rw [getElem!_pos x.data j hj]
  rw [e]
theorem list_bytes (x : ByteArray) : x.data.toList = (List.range x.size).map (fun j => x.get! j) := by
  apply List.ext_getElem?
  intro j
  have hs : x.size = x.data.size := rfl
  by_cases h : j < x.size
  · rw [List.getElem?_map, List.getElem?_range h]
    show x.data.toList[j]? = some x.data[j]!
    rw [getElem!_pos x.data j h]
    simp [hs ▸ h]
  · rw [List.getElem?_eq_none (by simp; omega), List.getElem?_eq_none (by simp; omega)]
/-! The numbers' bytes. -/
def enc (r : Nat) : List Nat :=
  if r < 128 then [r] else if r < 2048 then [192 + r / 64, 128 + r % 64] else if r < 65536 then [224 + r / 4096, 128 + r / 64 % 64, 128 + r % 64] else [240 + r / 262144, 128 + r / 4096 % 64, 128 + r / 64 % 64, 128 + r % 64]
def mayN (r : Nat) : Bool := r ≤ 1114111 && (r < 55296 || 57344 ≤ r)
theorem may_eq (r : Nat) : bureauref02_May.f (r : Int) = some (mayN r) := by
  unfold bureauref02_May.f mayN
  rw [if_pos (Int.natCast_nonneg r)]
  by_cases h1 : r ≤ 1114111
  · rw [if_pos (by omega)]
    by_cases h2 : r < 55296
    · rw [if_pos (by omega)]
      simp [h1, h2]
    · rw [if_neg (by omega)]
      congr 1
      rw [Bool.eq_iff_iff]
      simp only [decide_eq_true_eq, Bool.and_eq_true, Bool.or_eq_true]
      omega
  · rw [if_neg (by omega)]
    simp [h1]
theorem enc_lt {r : Nat} (h : r ≤ 1114111) : ∀ x ∈ enc r, x < 256 := by
  unfold enc
  intro x hx
  split at hx
  · simp only [List.mem_cons, List.not_mem_nil, or_false] at hx
    omega
  split at hx
  · simp only [List.mem_cons, List.not_mem_nil, or_false] at hx
    omega
  split at hx
  · simp only [List.mem_cons, List.not_mem_nil, or_false] at hx
    omega
  · simp only [List.mem_cons, List.not_mem_nil, or_false] at hx
    omega
theorem lowK (K : Int) (k x : Nat) (hK : K = (k : Int)) (h : k + x < 256) : UInt8.ofNat (wrap64 (K + (x : Int)) % 256).toNat = UInt8.ofNat (k + x) := by
  congr 1
  unfold wrap64
  omega
theorem lowA (x : Nat) (h : x < 256) : UInt8.ofNat ((x : Int) % 256).toNat = UInt8.ofNat x := by
  congr 1
  omega
theorem l2 {a b a' b' : UInt8} (h1 : a = a') (h2 : b = b') : [a, b] = [a', b'] := by rw [h1, h2]
theorem l3 {a b c a' b' c' : UInt8} (h1 : a = a') (h2 : b = b') (h3 : c = c') : [a, b, c] = [a', b', c'] := by rw [h1, h2, h3]
theorem l4 {a b c d a' b' c' d' : UInt8} (h1 : a = a') (h2 : b = b') (h3 : c = c') (h4 : d = d') : [a, b, c, d] = [a', b', c', d'] := by rw [h1, h2, h3, h4]
theorem bytes_eq {r : Nat} (h : r ≤ 1114111) : bureauref02_Bytes.f (r : Int) = some ⟨((enc r).map UInt8.ofNat).toArray⟩ := by
  have e64 : Int.tdiv (r : Int) 64 = ((r / 64 : Nat) : Int) := rfl
  have e4096 : Int.tdiv (r : Int) 4096 = ((r / 4096 : Nat) : Int) := rfl
  have e262144 : Int.tdiv (r : Int) 262144 = ((r / 262144 : Nat) : Int) := rfl
  have m64 : Int.tmod (r : Int) 64 = ((r % 64 : Nat) : Int) := rfl
  have w1 := wrapN (r / 64) (by omega)
  have w2 := wrapN (r / 4096) (by omega)
  have w3 := wrapN (r / 262144) (by omega)
  have m1 : Int.tmod ((r / 64 : Nat) : Int) 64 = ((r / 64 % 64 : Nat) : Int) := rfl
  have m2 : Int.tmod ((r / 4096 : Nat) : Int) 64 = ((r / 4096 % 64 : Nat) : Int) := rfl
  unfold bureauref02_Bytes.f enc
  rw [e64, e4096, e262144, m64, w1, w2, w3, m1, m2]
  clear e64 e4096 e262144 m64 w1 w2 w3 m1 m2
  by_cases h1 : r < 128
  · rw [if_pos (by omega), if_pos h1]
    simp only [strOfNums, List.map_cons, List.map_nil, lowA r (by omega)]
  rw [if_neg (by omega), if_neg h1]
  by_cases h2 : r < 2048
  · rw [if_pos (by omega), if_pos h2]
    simp only [strOfNums, List.map_cons, List.map_nil]
    exact congrArg (fun l : List UInt8 => some (⟨l.toArray⟩ : ByteArray)) (l2 (lowK 192 192 (r / 64) rfl (by omega)) (lowK 128 128 (r % 64) rfl (by omega)))
  rw [if_neg (by omega), if_neg h2]
  by_cases h3 : r < 65536
  · rw [if_pos (by omega), if_pos h3]
    simp only [strOfNums, List.map_cons, List.map_nil]
    exact congrArg (fun l : List UInt8 => some (⟨l.toArray⟩ : ByteArray)) (l3 (lowK 224 224 (r / 4096) rfl (by omega)) (lowK 128 128 (r / 64 % 64) rfl (by omega)) (lowK 128 128 (r % 64) rfl (by omega)))
  · rw [if_neg (by omega), if_neg h3]
    simp only [strOfNums, List.map_cons, List.map_nil]
    exact congrArg (fun l : List UInt8 => some (⟨l.toArray⟩ : ByteArray)) (l4 (lowK 240 240 (r / 262144) rfl (by omega)) (lowK 128 128 (r / 4096 % 64) rfl (by omega)) (lowK 128 128 (r / 64 % 64) rfl (by omega)) (lowK 128 128 (r % 64) rfl (by omega)))
/-! What the document's 'number' reads, and which so many bytes are a sign. -/
def numN (n b0 b1 b2 b3 : Nat) : Nat :=
  if n = 1 then b0 else if n = 2 then b0 % 32 * 64 + b1 % 64 else if n = 3 then (b0 % 16 * 64 + b1 % 64) * 64 + b2 % 64 else ((b0 % 8 * 64 + b1 % 64) * 64 + b2 % 64) * 64 + b3 % 64
theorem num_step (k : Nat) (x : ByteArray) (a j : Nat) (hj : j < x.size) (ha : a < 1000000) (hs : x.size < 100) :
    bureauref02_number.l0 (k + 1) x (a : Int) (j : Int) = bureauref02_number.l0 k x ((a * 64 + gb x j % 64 : Nat) : Int) ((j + 1 : Nat) : Int) := by
  have hb := gb_lt x j
  rw [bureauref02_number.l0, if_pos (by omega), if_pos (by omega), bt_gb x j hj, wrapN (gb x j) (by omega)]
  have e : Int.tmod ((gb x j : Nat) : Int) 64 = ((gb x j % 64 : Nat) : Int) := rfl
  rw [e]
  congr 1
  · unfold wrap64
    omega
  · unfold wrap64
    omega
theorem num_end (k : Nat) (x : ByteArray) (a : Int) : bureauref02_number.l0 (k + 1) x a (x.size : Int) = some a := by
  rw [bureauref02_number.l0, if_neg (by omega)]
theorem number_eq (k : Nat) (x : ByteArray) (n : Nat) (hn : x.size = n) (h1 : 1 ≤ n) (h4 : n ≤ 4) :
    bureauref02_number.f (k + 6) x = some ((numN n (gb x 0) (gb x 1) (gb x 2) (gb x 3) : Nat) : Int) := by
  have h0 := gb_lt x 0
  have e0 : wrap64 (bt x 0) = ((gb x 0 : Nat) : Int) := by rw [show (0 : Int) = ((0 : Nat) : Int) from rfl, bt_gb x 0 (by omega), wrapN _ (by omega)]
  unfold bureauref02_number.f
  rw [if_pos (by omega), e0]
  have e32 : Int.tmod ((gb x 0 : Nat) : Int) 32 = ((gb x 0 % 32 : Nat) : Int) := rfl
  have e16 : Int.tmod ((gb x 0 : Nat) : Int) 16 = ((gb x 0 % 16 : Nat) : Int) := rfl
  have e8 : Int.tmod ((gb x 0 : Nat) : Int) 8 = ((gb x 0 % 8 : Nat) : Int) := rfl
  rw [e32, e16, e8]
  have e1 : (1 : Int) = ((1 : Nat) : Int) := rfl
  rcases (by omega : n = 1 ∨ n = 2 ∨ n = 3 ∨ n = 4) with hc | hc | hc | hc
  · rw [if_neg (by omega), if_neg (by omega), if_neg (by omega), bureauref02_number.j0]
    have := num_end (k + 4) x ((gb x 0 : Nat) : Int)
    rw [hn, hc] at this
    rw [e1, this, hc]
    rfl
  · rw [if_pos (by omega), bureauref02_number.j0, e1, num_step _ x _ 1 (by omega) (by omega) (by omega)]
    have := num_end (k + 3) x ((gb x 0 % 32 * 64 + gb x 1 % 64 : Nat) : Int)
    rw [hn, hc] at this
    rw [this, hc]
    rfl
  · rw [if_neg (by omega), if_pos (by omega), bureauref02_number.j0, e1, num_step _ x _ 1 (by omega) (by omega) (by omega), num_step _ x _ 2 (by omega) (by omega) (by omega)]
    have := num_end (k + 2) x (((gb x 0 % 16 * 64 + gb x 1 % 64) * 64 + gb x 2 % 64 : Nat) : Int)
    rw [hn, hc] at this
    rw [this, hc]
    rfl
  · rw [if_neg (by omega), if_neg (by omega), if_pos (by omega), bureauref02_number.j0, e1, num_step _ x _ 1 (by omega) (by omega) (by omega), num_step _ x _ 2 (by omega) (by omega) (by omega), num_step _ x _ 3 (by omega) (by omega) (by omega)]
    have := num_end (k + 1) x ((((gb x 0 % 8 * 64 + gb x 1 % 64) * 64 + gb x 2 % 64) * 64 + gb x 3 % 64 : Nat) : Int)
    rw [hn, hc] at this
    rw [this, hc]
    rfl
theorem num1 (b0 b1 b2 b3 : Nat) : numN 1 b0 b1 b2 b3 = b0 := rfl
theorem num2 (b0 b1 b2 b3 : Nat) : numN 2 b0 b1 b2 b3 = b0 % 32 * 64 + b1 % 64 := rfl
theorem num3 (b0 b1 b2 b3 : Nat) : numN 3 b0 b1 b2 b3 = (b0 % 16 * 64 + b1 % 64) * 64 + b2 % 64 := rfl
theorem num4 (b0 b1 b2 b3 : Nat) : numN 4 b0 b1 b2 b3 = ((b0 % 8 * 64 + b1 % 64) * 64 + b2 % 64) * 64 + b3 % 64 := rfl
def okN (n b0 b1 b2 b3 : Nat) : Bool := mayN (numN n b0 b1 b2 b3) && enc (numN n b0 b1 b2 b3) == [b0, b1, b2, b3].take n
theorem ok1 {b0 : Nat} (b1 b2 b3 : Nat) (h0 : b0 < 256) : okN 1 b0 b1 b2 b3 = decide (b0 < 128) := by
  unfold okN mayN enc numN
  rw [if_pos rfl, Bool.eq_iff_iff]
  simp only [Bool.and_eq_true, Bool.or_eq_true, decide_eq_true_eq, beq_iff_eq, List.take_succ_cons, List.take_zero]
  constructor
  · rintro ⟨_, h⟩
    split at h
    · assumption
    · exfalso
      split at h
      · simp only [List.cons.injEq] at h
        exact absurd h.2 (by simp)
      split at h
      · simp only [List.cons.injEq] at h
        exact absurd h.2 (by simp)
      · simp only [List.cons.injEq] at h
        exact absurd h.2 (by simp)
  · intro h
    exact ⟨by omega, by rw [if_pos h]⟩
theorem ok2 {b0 b1 : Nat} (b2 b3 : Nat) (h0 : b0 < 256) (h1 : b1 < 256) : okN 2 b0 b1 b2 b3 = decide (b0 / 32 = 6 ∧ b1 / 64 = 2 ∧ 128 ≤ b0 % 32 * 64 + b1 % 64) := by
  unfold okN mayN enc numN
  rw [if_neg (by omega), if_pos rfl, Bool.eq_iff_iff]
  simp only [Bool.and_eq_true, Bool.or_eq_true, decide_eq_true_eq, beq_iff_eq, List.take_succ_cons, List.take_zero]
  generalize hr : b0 % 32 * 64 + b1 % 64 = r
  constructor
  · rintro ⟨_, h⟩
    split at h
    · cases h
    split at h
    · simp only [List.cons.injEq, and_true] at h
      omega
    split at h
    · cases h
    · cases h
  · intro h
    refine ⟨by omega, ?_⟩
    rw [if_neg (by omega), if_pos (by omega)]
    simp only [List.cons.injEq, and_true]
    omega
theorem ok3 {b0 b1 b2 : Nat} (b3 : Nat) (h0 : b0 < 256) (h1 : b1 < 256) (h2 : b2 < 256) : okN 3 b0 b1 b2 b3 =
    decide (b0 / 16 = 14 ∧ b1 / 64 = 2 ∧ b2 / 64 = 2 ∧ 2048 ≤ b0 % 16 * 4096 + b1 % 64 * 64 + b2 % 64 ∧ (b0 % 16 * 4096 + b1 % 64 * 64 + b2 % 64 < 55296 ∨ 57344 ≤ b0 % 16 * 4096 + b1 % 64 * 64 + b2 % 64)) := by
  unfold okN mayN enc numN
  rw [if_neg (by omega), if_neg (by omega), if_pos rfl, Bool.eq_iff_iff]
  simp only [Bool.and_eq_true, Bool.or_eq_true, decide_eq_true_eq, beq_iff_eq, List.take_succ_cons, List.take_zero]
  rw [show (b0 % 16 * 64 + b1 % 64) * 64 + b2 % 64 = b0 % 16 * 4096 + b1 % 64 * 64 + b2 % 64 by omega]
  generalize hr : b0 % 16 * 4096 + b1 % 64 * 64 + b2 % 64 = r
  constructor
  · rintro ⟨_, h⟩
    split at h
    · cases h
    split at h
    · cases h
    split at h
    · simp only [List.cons.injEq, and_true] at h
      omega
    · cases h
  · intro h
    refine ⟨by omega, ?_⟩
    rw [if_neg (by omega), if_neg (by omega), if_pos (by omega)]
    simp only [List.cons.injEq, and_true]
    omega
theorem ok4 {b0 b1 b2 b3 : Nat} (h0 : b0 < 256) (h1 : b1 < 256) (h2 : b2 < 256) (h3 : b3 < 256) : okN 4 b0 b1 b2 b3 =
    decide (b0 / 8 = 30 ∧ b1 / 64 = 2 ∧ b2 / 64 = 2 ∧ b3 / 64 = 2 ∧ 65536 ≤ b0 % 8 * 262144 + b1 % 64 * 4096 + b2 % 64 * 64 + b3 % 64 ∧ b0 % 8 * 262144 + b1 % 64 * 4096 + b2 % 64 * 64 + b3 % 64 ≤ 1114111) := by
  unfold okN mayN enc numN
  rw [if_neg (by omega), if_neg (by omega), if_neg (by omega), Bool.eq_iff_iff]
  simp only [Bool.and_eq_true, Bool.or_eq_true, decide_eq_true_eq, beq_iff_eq, List.take_succ_cons, List.take_zero]
  rw [show ((b0 % 8 * 64 + b1 % 64) * 64 + b2 % 64) * 64 + b3 % 64 = b0 % 8 * 262144 + b1 % 64 * 4096 + b2 % 64 * 64 + b3 % 64 by omega]
  generalize hr : b0 % 8 * 262144 + b1 % 64 * 4096 + b2 % 64 * 64 + b3 % 64 = r
  constructor
  · rintro ⟨_, h⟩
    split at h
    · cases h
    split at h
    · cases h
    split at h
    · cases h
    · simp only [List.cons.injEq, and_true] at h
      omega
  · intro h
    refine ⟨by omega, ?_⟩
    rw [if_neg (by omega), if_neg (by omega), if_neg (by omega)]
    simp only [List.cons.injEq, and_true]
    omega
/-- The model's decoding, by which so many bytes are a sign. -/
def firstOk (m b0 b1 b2 b3 : Nat) : Nat × Nat × Bool :=
  if okN 1 b0 b1 b2 b3 = true then (numN 1 b0 b1 b2 b3, 1, true)
  else if 2 ≤ m ∧ okN 2 b0 b1 b2 b3 = true then (numN 2 b0 b1 b2 b3, 2, true)
  else if 3 ≤ m ∧ okN 3 b0 b1 b2 b3 = true then (numN 3 b0 b1 b2 b3, 3, true)
  else if 4 ≤ m ∧ okN 4 b0 b1 b2 b3 = true then (numN 4 b0 b1 b2 b3, 4, true)
  else (65533, 1, false)
theorem first_decode {m b0 b1 b2 b3 : Nat} (h0 : b0 < 256) (h1 : b1 < 256) (h2 : b2 < 256) (h3 : b3 < 256) :
    firstOk m b0 b1 b2 b3 = ((Lib.decodeN m b0 b1 b2 b3).1, (Lib.decodeN m b0 b1 b2 b3).2, whole (0, Lib.decodeN m b0 b1 b2 b3)) := by
  unfold firstOk
  rw [ok1 b1 b2 b3 h0, ok2 b2 b3 h0 h1, ok3 b3 h0 h1 h2, ok4 h0 h1 h2 h3]
  simp only [decide_eq_true_eq]
  have n1 : numN 1 b0 b1 b2 b3 = b0 := rfl
  have n2 : numN 2 b0 b1 b2 b3 = b0 % 32 * 64 + b1 % 64 := rfl
  have n3 : numN 3 b0 b1 b2 b3 = b0 % 16 * 4096 + b1 % 64 * 64 + b2 % 64 := by unfold numN; rw [if_neg (by omega), if_neg (by omega), if_pos rfl]; omega
  have n4 : numN 4 b0 b1 b2 b3 = b0 % 8 * 262144 + b1 % 64 * 4096 + b2 % 64 * 64 + b3 % 64 := by unfold numN; rw [if_neg (by omega), if_neg (by omega), if_neg (by omega)]; omega
  rw [n1, n2, n3, n4]
  unfold Lib.decodeN
  by_cases c1 : b0 < 128
  · rw [if_pos c1, if_pos c1]
    have : (b0 == 65533) = false := by rw [beq_eq_false_iff_ne]; omega
    simp [whole, this]
  rw [if_neg c1, if_neg c1]
  by_cases c2 : b0 / 32 = 6 ∧ (1 < m ∧ b1 / 64 = 2)
  · rw [if_pos c2]
    by_cases d2 : b0 % 32 * 64 + b1 % 64 ≥ 128
    · rw [if_pos d2, if_pos (by omega)]
      simp [whole]
    · rw [if_neg d2, if_neg (by omega), if_neg (by omega), if_neg (by omega)]
      rfl
  rw [if_neg c2, if_neg (by omega)]
  by_cases c3 : b0 / 16 = 14 ∧ (1 < m ∧ b1 / 64 = 2) ∧ (2 < m ∧ b2 / 64 = 2)
  · rw [if_pos c3]
    by_cases d3 : b0 % 16 * 4096 + b1 % 64 * 64 + b2 % 64 ≥ 2048 ∧ (b0 % 16 * 4096 + b1 % 64 * 64 + b2 % 64 < 55296 ∨ (57344 ≤ b0 % 16 * 4096 + b1 % 64 * 64 + b2 % 64 ∧ b0 % 16 * 4096 + b1 % 64 * 64 + b2 % 64 ≤ 1114111))
    · rw [if_pos d3, if_pos (by omega)]
      simp [whole]
    · rw [if_neg d3, if_neg (by omega), if_neg (by omega)]
      rfl
  rw [if_neg c3, if_neg (by omega)]
  by_cases c4 : b0 / 8 = 30 ∧ (1 < m ∧ b1 / 64 = 2) ∧ (2 < m ∧ b2 / 64 = 2) ∧ (3 < m ∧ b3 / 64 = 2)
  · rw [if_pos c4]
    by_cases d4 : b0 % 8 * 262144 + b1 % 64 * 4096 + b2 % 64 * 64 + b3 % 64 ≥ 65536 ∧ (b0 % 8 * 262144 + b1 % 64 * 4096 + b2 % 64 * 64 + b3 % 64 < 55296 ∨ (57344 ≤ b0 % 8 * 262144 + b1 % 64 * 4096 + b2 % 64 * 64 + b3 % 64 ∧ b0 % 8 * 262144 + b1 % 64 * 4096 + b2 % 64 * 64 + b3 % 64 ≤ 1114111))
    · rw [if_pos d4, if_pos (by omega)]
      simp [whole]
    · rw [if_neg d4, if_neg (by omega)]
      rfl
  rw [if_neg c4, if_neg (by omega)]
  rfl
/-! 'one': the sign at a place. -/
theorem list_eq_gb {s : ByteArray} {i n r : Nat} (hn : i + n ≤ s.size) (h1 : 1 ≤ n) (h4 : n ≤ 4) (hr : r ≤ 1114111) :
    ((⟨((enc r).map UInt8.ofNat).toArray⟩ : ByteArray).toList = (s.extract i (i + n)).toList) ↔ enc r = [gb s i, gb s (i + 1), gb s (i + 2), gb s (i + 3)].take n := by
  rw [ByteArray.toList_eq, ByteArray.toList_eq, list_bytes (s.extract i (i + n)), size_ext s i n hn]
  have hm : (List.range n).map (fun j => (s.extract i (i + n)).get! j) = ([gb s i, gb s (i + 1), gb s (i + 2), gb s (i + 3)].take n).map UInt8.ofNat := by
    rw [List.map_congr_left (g := fun j => s.get! (i + j)) (fun j hj => get_ext s i n j hn (List.mem_range.1 hj))]
    have g0 (j : Nat) : UInt8.ofNat (gb s j) = s.get! j := by unfold gb; exact UInt8.ofNat_toNat
    rcases (by omega : n = 1 ∨ n = 2 ∨ n = 3 ∨ n = 4) with rfl | rfl | rfl | rfl <;> simp [List.range_succ, g0]
  rw [hm]
  have inj : ∀ (x y : List Nat), (∀ a ∈ x, a < 256) → (∀ a ∈ y, a < 256) → x.map UInt8.ofNat = y.map UInt8.ofNat → x = y := by
    intro x
    induction x with
    | nil => intro y _ _ h; cases y with | nil => rfl | cons a y => cases h
    | cons a x ih =>
      intro y hx hy h
      cases y with
      | nil => cases h
      | cons b y =>
        simp only [List.map_cons, List.cons.injEq] at h
        have hab := congrArg UInt8.toNat h.1
        rw [UInt8.toNat_ofNat', UInt8.toNat_ofNat'] at hab
        have ha := hx a (by simp)
        have hb := hy b (by simp)
        rw [ih y (fun a ha => hx a (by simp [ha])) (fun a ha => hy a (by simp [ha])) h.2]
        congr 1
        omega
  constructor
  · intro h
    refine inj _ _ (enc_lt hr) (fun a ha => ?_) h
    have := List.mem_of_mem_take ha
    simp only [List.mem_cons, List.not_mem_nil, or_false] at this
    have b0 := gb_lt s i
    have b1 := gb_lt s (i + 1)
    have b2 := gb_lt s (i + 2)
    have b3 := gb_lt s (i + 3)
    omega
  · intro h
    rw [h]
theorem one_step (k : Nat) (s : ByteArray) (i n : Nat) (hs : s.size < 1000000000) (h1 : 1 ≤ n) (h4 : n ≤ 4) (hn : i + n ≤ s.size) :
    bureauref02_one.l0 (k + 12) s (i : Int) (n : Int) =
      if okN n (gb s i) (gb s (i + 1)) (gb s (i + 2)) (gb s (i + 3)) = true then some ((i : Int), (n : Int), ((numN n (gb s i) (gb s (i + 1)) (gb s (i + 2)) (gb s (i + 3)) : Nat) : Int), true) else bureauref02_one.l0 (k + 10) s (i : Int) ((n + 1 : Nat) : Int) := by
  have hw : wrap64 ((s.size : Int) - (i : Int)) = (s.size : Int) - (i : Int) := wrapZ _ (by omega) (by omega)
  have hw2 : wrap64 ((i : Int) + (n : Int)) = ((i + n : Nat) : Int) := by rw [wrapZ _ (by omega) (by omega)]; omega
  have hw3 : wrap64 ((n : Int) + 1) = ((n + 1 : Nat) : Int) := by rw [wrapZ _ (by omega) (by omega)]; omega
  have c4 : (n : Int) ≤ 4 := by omega
  have cd : decide ((n : Int) ≤ (s.size : Int) - (i : Int)) = true := decide_eq_true (by omega)
  have ci : (0 : Int) ≤ (i : Int) := by omega
  have cn : (i : Int) ≤ ((i + n : Nat) : Int) := by omega
  have cs : ((i + n : Nat) : Int) ≤ (s.size : Int) := by omega
  rw [bureauref02_one.l0, if_pos c4, hw, cd, bureauref02_one.j1, if_pos rfl, if_pos ci, hw2, if_pos cn, if_pos cs, hw3, Int.toNat_natCast, Int.toNat_natCast]
  clear hw hw2 hw3 c4 cd ci cn cs
  have hx := size_ext s i n hn
  have hlt0 := gb_lt (s.extract i (i + n)) 0
  rw [number_eq (k + 4) (s.extract i (i + n)) n hx h1 h4, Option.bind_some]
  have hg (j : Nat) (hj : j < n) : gb (s.extract i (i + n)) j = gb s (i + j) := by unfold gb; rw [get_ext s i n j hn hj]
  have hg0 : gb (s.extract i (i + n)) 0 = gb s i := hg 0 (by omega)
  have hnum : numN n (gb (s.extract i (i + n)) 0) (gb (s.extract i (i + n)) 1) (gb (s.extract i (i + n)) 2) (gb (s.extract i (i + n)) 3) = numN n (gb s i) (gb s (i + 1)) (gb s (i + 2)) (gb s (i + 3)) := by
    rcases (by omega : n = 1 ∨ n = 2 ∨ n = 3 ∨ n = 4) with rfl | rfl | rfl | rfl
    · rw [num1, num1, hg0]
    · rw [num2, num2, hg0, hg 1 (by omega)]
    · rw [num3, num3, hg0, hg 1 (by omega), hg 2 (by omega)]
    · rw [num4, num4, hg0, hg 1 (by omega), hg 2 (by omega), hg 3 (by omega)]
  rw [hnum]
  generalize hr : numN n (gb s i) (gb s (i + 1)) (gb s (i + 2)) (gb s (i + 3)) = r
  rw [may_eq, Option.bind_some]
  unfold okN
  rw [hr]
  cases hm : mayN r with
  | false => simp
  | true =>
    have hr2 : r ≤ 1114111 := by simp [mayN] at hm; omega
    rw [if_pos rfl, bytes_eq hr2, Option.bind_some]
    have hl := list_eq_gb (r := r) hn h1 h4 hr2
    by_cases he : enc r = [gb s i, gb s (i + 1), gb s (i + 2), gb s (i + 3)].take n
    · rw [if_pos (hl.2 he), if_pos (by simp [he])]
    · rw [if_neg (fun h => he (hl.1 h)), if_neg (by simp [he])]
theorem one_last (k : Nat) (s : ByteArray) (i n : Nat) (hs : s.size < 1000000000) (hi : i < s.size) (hn : 4 < n ∨ s.size < i + n) :
    bureauref02_one.l0 (k + 2) s (i : Int) (n : Int) = some ((i : Int), 1, 65533, false) := by
  have hw : wrap64 ((s.size : Int) - (i : Int)) = (s.size : Int) - (i : Int) := wrapZ _ (by omega) (by omega)
  rw [bureauref02_one.l0]
  by_cases h4 : n ≤ 4
  · rw [if_pos (by omega), hw, decide_eq_false (by omega), bureauref02_one.j1, if_neg (by decide)]
  · rw [if_neg (by omega), bureauref02_one.j1, if_neg (by decide)]
theorem one_eq (k : Nat) (s : ByteArray) (i : Nat) (hs : s.size < 1000000000) (hi : i < s.size) :
    bureauref02_one.f (k + 20) s (i : Int) = some ((i : Int), (((Utf8.decode s i).2 : Nat) : Int), (((Utf8.decode s i).1 : Nat) : Int), whole (0, Utf8.decode s i)) := by
  have b0 := gb_lt s i
  have b1 := gb_lt s (i + 1)
  have b2 := gb_lt s (i + 2)
  have b3 := gb_lt s (i + 3)
  have hd : Utf8.decode s i = Lib.decodeN (s.size - i) (gb s i) (gb s (i + 1)) (gb s (i + 2)) (gb s (i + 3)) := Lib.decode_at s i
  have hf := first_decode (m := s.size - i) b0 b1 b2 b3
  rw [← hd] at hf
  have h1 := congrArg (fun x : Nat × Nat × Bool => x.1) hf
  have h2 := congrArg (fun x : Nat × Nat × Bool => x.2.1) hf
  have h3 := congrArg (fun x : Nat × Nat × Bool => x.2.2) hf
  simp only at h1 h2 h3
  rw [← h1, ← h2, ← h3]
  clear h1 h2 h3 hf hd
  unfold bureauref02_one.f firstOk
  rw [show (1 : Int) = ((1 : Nat) : Int) from rfl, one_step (k + 8) s i 1 hs (by omega) (by omega) (by omega)]
  split
  · rfl
  by_cases m2 : i + 2 ≤ s.size
  · rw [one_step (k + 6) s i 2 hs (by omega) (by omega) m2]
    split
    · rw [if_pos ⟨by omega, by assumption⟩]
    rw [if_neg (fun h => by rename_i h' ; exact h' h.2)]
    by_cases m3 : i + 3 ≤ s.size
    · rw [one_step (k + 4) s i 3 hs (by omega) (by omega) m3]
      split
      · rw [if_pos ⟨by omega, by assumption⟩]
      rw [if_neg (fun h => by rename_i h' ; exact h' h.2)]
      by_cases m4 : i + 4 ≤ s.size
      · rw [one_step (k + 2) s i 4 hs (by omega) (by omega) m4]
        split
        · rw [if_pos ⟨by omega, by assumption⟩]
        rw [if_neg (fun h => by rename_i h' ; exact h' h.2), one_last (k + 10) s i 5 hs hi (by omega)]
        rfl
      · rw [one_last (k + 12) s i 4 hs hi (by omega), if_neg (by omega)]
        rfl
    · rw [one_last (k + 14) s i 3 hs hi (by omega), if_neg (by omega), if_neg (by omega)]
      rfl
  · rw [one_last (k + 16) s i 2 hs hi (by omega), if_neg (by omega), if_neg (by omega), if_neg (by omega)]
    rfl
/-- A sign, as the document has it. -/
def sig (x : Nat × Nat × Nat) : S47 := ⟨(x.1 : Int), (x.2.2 : Int), (x.2.1 : Int), whole x⟩
theorem whole_at (i j : Nat) (d : Nat × Nat) : whole (i, d) = whole (j, d) := rfl
theorem decN_le (n b0 b1 b2 b3 : Nat) : (Lib.decodeN n b0 b1 b2 b3).2 ≤ 4 := by
  unfold Lib.decodeN
  repeat' split
  all_goals (simp only; omega)
theorem decN_fits (n b0 b1 b2 b3 : Nat) (hn : 1 ≤ n) : (Lib.decodeN n b0 b1 b2 b3).2 ≤ n := by
  unfold Lib.decodeN
  repeat' split
  all_goals (simp only; omega)
theorem decN_rune (n b0 b1 b2 b3 : Nat) (h : b0 < 256) : (Lib.decodeN n b0 b1 b2 b3).1 ≤ 1114111 := by
  unfold Lib.decodeN
  repeat' split
  all_goals (simp only; omega)
theorem dec_le (s : ByteArray) (i : Nat) : (Utf8.decode s i).1 ≤ 1114111 := by
  rw [Lib.decode_at]
  exact decN_rune _ _ _ _ _ (UInt8.toNat_lt _)
theorem width_le4 (s : ByteArray) (i : Nat) : (Utf8.decode s i).2 ≤ 4 := by
  rw [Lib.decode_at]
  exact decN_le _ _ _ _ _
theorem width_fits (s : ByteArray) (i : Nat) (h : i < s.size) : i + (Utf8.decode s i).2 ≤ s.size := by
  rw [Lib.decode_at]
  have := decN_fits (s.size - i) (s.get! i).toNat (s.get! (i + 1)).toNat (s.get! (i + 2)).toNat (s.get! (i + 3)).toNat (by omega)
  omega
theorem signs_loop (s : ByteArray) (hs : s.size < 1000000) : ∀ (b k i : Nat) (acc : List S47), s.size ≤ i + b → i ≤ s.size → acc.length ≤ i →
    bureauref02_Signs.l0 (b + k + 22) s acc (i : Int) = some (acc ++ (scan s b i).map sig) := by
  intro b
  induction b with
  | zero =>
    intro k i acc h hi ha
    rw [show (0 + k + 22 : Nat) = (k + 21) + 1 by omega, bureauref02_Signs.l0, if_neg (by omega)]
    simp [scan]
  | succ b ih =>
    intro k i acc h hi ha
    rw [show (b + 1 + k + 22 : Nat) = (b + k + 22) + 1 by omega, bureauref02_Signs.l0]
    by_cases hc : i < s.size
    · have hw := width_pos s i hc
      have hf := width_fits s i hc
      have h4 := width_le4 s i
      rw [if_pos (by omega), show b + k + 22 = (b + k + 2) + 20 by omega, one_eq (b + k + 2) s i (by omega) hc, Option.bind_some]
      have hlen : acc.length < 4398046511104 := by omega
      rw [if_pos hlen]
      have hw64 : wrap64 ((i : Int) + (((Utf8.decode s i).2 : Nat) : Int)) = ((i + (Utf8.decode s i).2 : Nat) : Int) := by rw [wrapZ _ (by omega) (by omega)]; omega
      simp only []
      rw [hw64, show b + k + 2 + 20 = b + k + 22 by omega, ih k _ _ (by omega) hf (by simp; omega), scan, if_pos hc, List.append_assoc]
      rfl
    · rw [if_neg (by omega), scan, if_neg hc]
      simp
theorem signs_eq (s : ByteArray) (hs : s.size < 1000000) (k : Nat) : bureauref02_Signs.f (s.size + k + 22) s = some ((scan s s.size 0).map sig) := by
  unfold bureauref02_Signs.f
  have := signs_loop s hs s.size k 0 [] (by omega) (by omega) (by simp)
  rw [show (0 : Int) = ((0 : Nat) : Int) from rfl, this]
  rfl
theorem rd_T47_nat (xs : List S47) (i : Nat) (h : i < xs.length) : rd_T47 xs (i : Int) = xs[i] := by
  unfold rd_T47
  rw [Int.toNat_natCast, List.getD_eq_getElem?_getD, List.getElem?_eq_getElem h]
  rfl
/-- Where the sign of a number begins. -/
def st (s : ByteArray) : Nat → Nat
  | 0 => 0
  | j + 1 => st s j + (Utf8.decode s (st s j)).2
theorem scan_st (s : ByteArray) : ∀ (b j : Nat), s.size ≤ st s j + b → st s j ≤ s.size →
    ∃ n, scan s b (st s j) = (List.range n).map (fun t => (st s (j + t), Utf8.decode s (st s (j + t)))) ∧ st s (j + n) = s.size ∧ ∀ t, t < n → st s (j + t) < s.size := by
  intro b
  induction b with
  | zero =>
    intro j h hj
    exact ⟨0, rfl, by simp only [Nat.add_zero]; omega, fun t ht => absurd ht (by omega)⟩
  | succ b ih =>
    intro j h hj
    by_cases hc : st s j < s.size
    · have hp := width_pos s _ hc
      have hf := width_fits s _ hc
      obtain ⟨n, h1, h2, h3⟩ := ih (j + 1) (by simp only [st]; omega) hf
      refine ⟨n + 1, ?_, by rw [← h2]; congr 1; omega, fun t ht => ?_⟩
      · rw [scan, if_pos hc, List.range_succ_eq_map, List.map_cons, List.map_map]
        have e : st s j + (Utf8.decode s (st s j)).2 = st s (j + 1) := rfl
        rw [e, h1]
        simp only [Nat.add_zero]
        congr 1
        refine List.map_congr_left (fun t _ => ?_)
        simp only [Function.comp]
        rw [show j + 1 + t = j + t.succ by omega]
      · cases t with
        | zero => exact hc
        | succ t => have := h3 t (by omega); rwa [show j + (t + 1) = j + 1 + t by omega]
    · refine ⟨0, ?_, by simp only [Nat.add_zero]; omega, fun t ht => absurd ht (by omega)⟩
      rw [scan, if_neg hc]
      rfl
/-- The signs of a text, by number. -/
structure Signs (s : ByteArray) (n : Nat) : Prop where
  eq : scan s s.size 0 = (List.range n).map (fun t => (st s t, Utf8.decode s (st s t)))
  last : st s n = s.size
  lt : ∀ t, t < n → st s t < s.size
theorem signs_ex (s : ByteArray) : ∃ n, Signs s n := by
  obtain ⟨n, h1, h2, h3⟩ := scan_st s s.size 0 (by simp) (by simp [st])
  simp only [Nat.zero_add] at h1 h2 h3
  exact ⟨n, h1, h2, h3⟩
theorem Signs.len {s : ByteArray} {n : Nat} (h : Signs s n) : (scan s s.size 0).length = n := by rw [h.eq]; simp
theorem Signs.le {s : ByteArray} {n : Nat} (h : Signs s n) : n ≤ s.size := by rw [← h.len]; exact scan_len s s.size 0
theorem st_mono (s : ByteArray) {a b : Nat} (h : a ≤ b) : st s a ≤ st s b := by
  induction h with
  | refl => exact Nat.le_refl _
  | step _ ih => simp only [st]; omega
theorem Signs.step {s : ByteArray} {n t : Nat} (h : Signs s n) (ht : t < n) : st s t < st s (t + 1) := by
  have := width_pos s _ (h.lt t ht)
  simp only [st]
  omega
theorem Signs.le_size {s : ByteArray} {n t : Nat} (h : Signs s n) (ht : t ≤ n) : st s t ≤ s.size := by
  rw [← h.last]
  exact st_mono s ht
theorem Signs.cover {s : ByteArray} {n : Nat} (h : Signs s n) : ∀ m, m ≤ n → ∀ a, a < st s m → ∃ t, t < m ∧ st s t ≤ a ∧ a < st s (t + 1) := by
  intro m
  induction m with
  | zero => intro _ a ha; simp [st] at ha
  | succ m ih =>
    intro hm a ha
    by_cases hc : a < st s m
    · obtain ⟨t, h1, h2, h3⟩ := ih (by omega) a hc
      exact ⟨t, by omega, h2, h3⟩
    · exact ⟨m, by omega, by omega, ha⟩
/-! The bytes of a sign: only its first one may begin a sign. -/
theorem decN_conts (n b0 b1 b2 b3 : Nat) : (2 ≤ (Lib.decodeN n b0 b1 b2 b3).2 → ¬ b0 / 64 = 2 ∧ b1 / 64 = 2) ∧ (3 ≤ (Lib.decodeN n b0 b1 b2 b3).2 → b2 / 64 = 2) ∧ (4 ≤ (Lib.decodeN n b0 b1 b2 b3).2 → b3 / 64 = 2) := by
  unfold Lib.decodeN
  repeat' split
  all_goals (simp only; omega)
theorem conts (s : ByteArray) (i t : Nat) (h1 : 1 ≤ t) (h2 : t < (Utf8.decode s i).2) : ¬ gb s i / 64 = 2 ∧ gb s (i + t) / 64 = 2 := by
  have h4 := width_le4 s i
  have hc := decN_conts (s.size - i) (gb s i) (gb s (i + 1)) (gb s (i + 2)) (gb s (i + 3))
  have hd : Utf8.decode s i = Lib.decodeN (s.size - i) (gb s i) (gb s (i + 1)) (gb s (i + 2)) (gb s (i + 3)) := Lib.decode_at s i
  rw [← hd] at hc
  obtain ⟨c1, c2, c3⟩ := hc
  refine ⟨(c1 (by omega)).1, ?_⟩
  rcases (by omega : t = 1 ∨ t = 2 ∨ t = 3) with rfl | rfl | rfl
  · exact (c1 (by omega)).2
  · exact c2 (by omega)
  · exact c3 (by omega)
theorem start_eq : ∀ b : Nat, b < 256 → ((Go.bits .and .u8 (b : Int) 192) != 128) = !(b / 64 == 2) := by decide +kernel
/-- glyph.Align's way back. -/
def al (s : ByteArray) (a : Nat) : Nat → Nat → Nat
  | 0, _ => a
  | n + 1, b => if b ≤ a then (if gb s (a - b) / 64 = 2 then al s a n (b + 1) else if b < (Utf8.decode s (a - b)).2 then a - b else a) else a
theorem suffix_dec (s : ByteArray) (i : Nat) (h : i < s.size) : utf8_DecodeRuneInString.f (s.extract i s.size) = some ((((Utf8.decode s i).1 : Nat) : Int), (((Utf8.decode s i).2 : Nat) : Int)) := by
  unfold utf8_DecodeRuneInString.f
  rw [suffix_decode s i h]
theorem align_loop (s : ByteArray) (a : Nat) (ha : a < s.size) (hs : s.size < 1000000) : ∀ (n b k : Nat), n + b = 4 → glyph_Align.l0 (n * 2 + k + 2) s (a : Int) (b : Int) = some ((al s a n b : Nat) : Int) := by
  intro n
  induction n with
  | zero =>
    intro b k hb
    rw [show 0 * 2 + k + 2 = (k + 1) + 1 by omega, glyph_Align.l0, if_neg (by omega), glyph_Align.j1, if_neg (by decide)]
    rfl
  | succ n ih =>
    intro b k hb
    rw [show (n + 1) * 2 + k + 2 = ((n * 2 + k + 2) + 1) + 1 by omega, glyph_Align.l0, if_pos (by omega)]
    have hal : al s a (n + 1) b = if b ≤ a then (if gb s (a - b) / 64 = 2 then al s a n (b + 1) else if b < (Utf8.decode s (a - b)).2 then a - b else a) else a := rfl
    rw [hal]
    by_cases hc : b ≤ a
    · have hd : decide ((b : Int) ≤ (a : Int)) = true := decide_eq_true (by omega)
      have hw : wrap64 ((a : Int) - (b : Int)) = ((a - b : Nat) : Int) := by rw [wrapZ _ (by omega) (by omega)]; omega
      have hw1 : wrap64 ((b : Int) + 1) = ((b + 1 : Nat) : Int) := by rw [wrapZ _ (by omega) (by omega)]; omega
      have c1 : (0 : Int) ≤ ((a - b : Nat) : Int) := by omega
      have c2 : ((a - b : Nat) : Int) < (s.size : Int) := by omega
      have c3 : ((a - b : Nat) : Int) ≤ (s.size : Int) := by omega
      rw [hd, glyph_Align.j1, if_pos rfl, hw, hw1, if_pos c1, if_pos c2, bt_gb s (a - b) (by omega)]
      unfold utf8_RuneStart.f
      rw [start_eq _ (gb_lt s _), Option.bind_some, if_pos hc]
      by_cases hg : gb s (a - b) / 64 = 2
      · rw [if_neg (by simp [hg]), if_pos hg]
        exact ih (b + 1) k (by omega)
      · rw [if_pos (by simp [hg]), if_neg hg, if_pos c3, Int.toNat_natCast, suffix_dec s (a - b) (by omega), Option.bind_some]
        simp only []
        by_cases hl : b < (Utf8.decode s (a - b)).2
        · rw [if_pos hl, if_pos (by omega)]
        · rw [if_neg hl, if_neg (by omega)]
    · have hd : decide ((b : Int) ≤ (a : Int)) = false := decide_eq_false (by omega)
      rw [hd, glyph_Align.j1, if_neg (by decide), if_neg hc]
theorem al_start {s : ByteArray} {n m : Nat} (h : Signs s n) (hm : m < n) : ∀ (c b : Nat), al s (st s m) c b = st s m := by
  intro c
  induction c with
  | zero => intro b; rfl
  | succ c ih =>
    intro b
    unfold al
    by_cases hb : b ≤ st s m
    · rw [if_pos hb]
      by_cases hg : gb s (st s m - b) / 64 = 2
      · rw [if_pos hg]
        exact ih (b + 1)
      · rw [if_neg hg]
        by_cases hl : b < (Utf8.decode s (st s m - b)).2
        · rw [if_pos hl]
          by_cases h0 : b = 0
          · omega
          · exfalso
            obtain ⟨t, h1, h2, h3⟩ := h.cover m (by omega) (st s m - b) (by omega)
            by_cases he : st s t = st s m - b
            · have h4 := st_mono s (show t + 1 ≤ m by omega)
              simp only [st, he] at h3 h4
              omega
            · have := conts s (st s t) (st s m - b - st s t) (by omega) (by simp only [st] at h3; omega)
              rw [show st s t + (st s m - b - st s t) = st s m - b by omega] at this
              exact hg this.2
        · rw [if_neg hl]
    · rw [if_neg hb]
theorem al_in {s : ByteArray} {n m a : Nat} (h : Signs s n) (hm : m < n) (ha : st s m < a) (ha2 : a < st s (m + 1)) : ∀ (d c b : Nat), a - st s m = b + d → d + 1 ≤ c → al s a c b = st s m := by
  have hw : a < st s m + (Utf8.decode s (st s m)).2 := ha2
  intro d
  induction d with
  | zero =>
    intro c b hd hc
    obtain ⟨c, rfl⟩ : ∃ c', c = c' + 1 := ⟨c - 1, by omega⟩
    have e : a - b = st s m := by omega
    unfold al
    rw [if_pos (by omega), e, if_neg (conts s (st s m) 1 (by omega) (by omega)).1, if_pos (by omega)]
  | succ d ih =>
    intro c b hd hc
    obtain ⟨c, rfl⟩ : ∃ c', c = c' + 1 := ⟨c - 1, by omega⟩
    have hg := (conts s (st s m) (a - b - st s m) (by omega) (by omega)).2
    rw [show st s m + (a - b - st s m) = a - b by omega] at hg
    unfold al
    rw [if_pos (by omega), if_pos hg]
    exact ih c (b + 1) (by omega) (by omega)
theorem al_eq {s : ByteArray} {n m a : Nat} (h : Signs s n) (hm : m < n) (ha : st s m ≤ a) (ha2 : a < st s (m + 1)) : al s a 4 0 = st s m := by
  by_cases he : a = st s m
  · rw [he]
    exact al_start h hm 4 0
  · have h4 := width_le4 s (st s m)
    have hw : a < st s m + (Utf8.decode s (st s m)).2 := ha2
    exact al_in h hm (by omega) ha2 (a - st s m) 4 0 (by omega) (by omega)
/-- Which sign holds a place. -/
def At (s : ByteArray) (n : Nat) (a : Int) (j : Nat) : Prop := j ≤ n ∧ (a < 0 → j = 0) ∧ (0 ≤ a → a < (s.size : Int) → j < n ∧ (st s j : Int) ≤ a ∧ a < (st s (j + 1) : Int)) ∧ ((s.size : Int) ≤ a → j = n)
theorem At.ex {s : ByteArray} {n : Nat} (h : Signs s n) (a : Int) : ∃ j, At s n a j := by
  by_cases h0 : a < 0
  · exact ⟨0, by omega, fun _ => rfl, fun h1 => absurd h1 (by omega), fun h1 => absurd h1 (by omega)⟩
  · by_cases h1 : a < (s.size : Int)
    · have hl := h.last
      obtain ⟨t, e1, e2, e3⟩ := h.cover n (Nat.le_refl _) a.toNat (by omega)
      exact ⟨t, by omega, fun h => absurd h h0, fun _ _ => ⟨e1, by omega, by omega⟩, fun h => absurd h (by omega)⟩
    · exact ⟨n, by omega, fun h => absurd h h0, fun _ h => absurd h h1, fun _ => rfl⟩
theorem At.of {s : ByteArray} {n m : Nat} (h : Signs s n) (hm : m < n) {a : Int} (h1 : (st s m : Int) ≤ a) (h2 : a < (st s (m + 1) : Int)) : At s n a m := by
  have := h.le_size (show m + 1 ≤ n by omega)
  exact ⟨by omega, fun h => by omega, fun _ _ => ⟨hm, h1, h2⟩, fun h => by omega⟩
theorem st_zero (s : ByteArray) : st s 0 = 0 := rfl
theorem align_eq {s : ByteArray} {n j : Nat} (h : Signs s n) (hs : s.size < 1000000) {a : Int} (ha : At s n a j) (k : Nat) : glyph_Align.f (k + 10) s a = some ((st s j : Nat) : Int) := by
  obtain ⟨hj, h1, h2, h3⟩ := ha
  unfold glyph_Align.f
  by_cases c0 : a < 0
  · rw [if_pos c0, h1 c0]
    rfl
  rw [if_neg c0]
  by_cases c1 : a ≥ (s.size : Int)
  · rw [if_pos c1, h3 c1, h.last]
  rw [if_neg c1]
  obtain ⟨e1, e2, e3⟩ := h2 (by omega) (by omega)
  obtain ⟨a, rfl⟩ : ∃ a' : Nat, a = a' := ⟨a.toNat, by omega⟩
  have := align_loop s a (by omega) hs 4 0 k (by omega)
  rw [show 4 * 2 + k + 2 = k + 10 by omega] at this
  rw [show (0 : Int) = ((0 : Nat) : Int) from rfl, this, al_eq h e1 (by omega) (by omega)]
theorem at_eq {s : ByteArray} {n j : Nat} (h : Signs s n) (hs : s.size < 1000000) {a : Int} (ha : At s n a j) (k : Nat) :
    glyph_At.f (k + 10) s a = some (if j < n then ((((Utf8.decode s (st s j)).1 : Nat) : Int), (((Utf8.decode s (st s j)).2 : Nat) : Int)) else (0, 0)) := by
  unfold glyph_At.f
  rw [align_eq h hs ha k, Option.bind_some]
  by_cases hc : j < n
  · have hl := h.lt j hc
    rw [if_neg (by omega), if_pos (by omega), if_pos (by omega), Int.toNat_natCast, suffix_dec s _ hl, Option.bind_some, if_pos hc]
  · have : j = n := by have := ha.1; omega
    rw [this, h.last, if_pos rfl, if_neg (by omega)]
theorem next_eq {s : ByteArray} {n j : Nat} (h : Signs s n) (hs : s.size < 1000000) {a : Int} (ha : At s n a j) (k : Nat) :
    glyph_Next.f (k + 10) s a = some (if j < n then ((st s (j + 1) : Nat) : Int) else (s.size : Int)) := by
  unfold glyph_Next.f
  rw [at_eq h hs ha k, Option.bind_some, align_eq h hs ha k, Option.bind_some]
  by_cases hc : j < n
  · have hl := h.le_size (show j + 1 ≤ n by omega)
    rw [if_pos hc, if_pos hc]
    simp only [st] at hl ⊢
    congr 1
    rw [wrapZ _ (by omega) (by omega)]
    omega
  · have : j = n := by have := ha.1; omega
    rw [if_neg hc, if_neg hc, this, h.last]
    congr 1
    rw [wrapZ _ (by omega) (by omega)]
    simp
theorem prev_eq {s : ByteArray} {n j : Nat} (h : Signs s n) (hs : s.size < 1000000) {a : Int} (ha : At s n a j) (k : Nat) :
    glyph_Prev.f (k + 10) s a = some (if j = 0 then 0 else ((st s (j - 1) : Nat) : Int)) := by
  unfold glyph_Prev.f
  have hsz := h.le_size ha.1
  have hw : wrap64 ((st s j : Int) - 1) = (st s j : Int) - 1 := wrapZ _ (by omega) (by omega)
  rw [align_eq h hs ha k, Option.bind_some, hw]
  by_cases hc : j = 0
  · subst hc
    rw [if_pos rfl, align_eq h hs (j := 0) ⟨by omega, fun _ => rfl, fun h0 => by simp [st] at h0, fun h0 => by simp [st] at h0; omega⟩ k]
    rfl
  · have hj := ha.1
    have hst := h.step (t := j - 1) (by omega)
    rw [show j - 1 + 1 = j by omega] at hst
    rw [if_neg hc, align_eq h hs (At.of h (m := j - 1) (by omega) (by omega) (by rw [show j - 1 + 1 = j by omega]; omega)) k]
    rfl
theorem alive_eq (k : Nat) : bureaulaw02_alive.f (k + 20) = some true := by
  have h : bureaulaw02_alive.f 20 = some true := by decide +kernel
  induction k with
  | zero => exact h
  | succ k ih =>
    have := bureaulaw02_alive.mono (k + 20) true ih
    rwa [show k + 1 + 20 = k + 20 + 1 by omega]
theorem which_loop {s : ByteArray} {n j : Nat} (h : Signs s n) (hs : s.size < 1000000) {a : Int} (ha : At s n a j) (xs : List S47) (hx : xs = (List.range n).map (fun t => sig (st s t, Utf8.decode s (st s t)))) :
    ∀ (c k i : Nat), j ≤ i + c → i ≤ j → bureauref02_which.l0 (c + k + 1) xs a (i : Int) = some (j : Int) := by
  have hlen : xs.length = n := by rw [hx]; simp
  have hn := h.le
  obtain ⟨hj, h1, h2, h3⟩ := ha
  have hat (i : Nat) (hi : i < n) : rd_T47 xs (i : Int) = sig (st s i, Utf8.decode s (st s i)) := by
    rw [rd_T47_nat xs i (by omega)]
    subst hx
    simp
  have hsum (i : Nat) (hi : i < n) : wrap64 ((sig (st s i, Utf8.decode s (st s i))).f0 + (sig (st s i, Utf8.decode s (st s i))).f1) = ((st s (i + 1) : Nat) : Int) := by
    have := h.le_size (show i + 1 ≤ n by omega)
    simp only [sig, st] at this ⊢
    rw [wrapZ _ (by omega) (by omega)]
    omega
  have stop (k : Nat) : bureauref02_which.l0 (k + 1) xs a (j : Int) = some (j : Int) := by
    rw [bureauref02_which.l0]
    by_cases hc : j < n
    · rw [if_pos (by omega), if_pos (by omega), hat j hc, hsum j hc, if_pos]
      have := h.step hc
      by_cases h0 : a < 0
      · omega
      · by_cases hz : a < (s.size : Int)
        · have := h2 (by omega) hz
          omega
        · have := h3 (by omega)
          omega
    · rw [if_neg (by omega), hlen]
      congr 1
      omega
  intro c
  induction c with
  | zero =>
    intro k i hc hi
    obtain rfl : i = j := by omega
    exact stop _
  | succ c ih =>
    intro k i hc hi
    by_cases he : i = j
    · subst he
      exact stop _
    · rw [show c + 1 + k + 1 = (c + k + 1) + 1 by omega, bureauref02_which.l0, if_pos (by omega), if_pos (by omega), hat i (by omega), hsum i (by omega), if_neg]
      · have hw : wrap64 ((i : Int) + 1) = ((i + 1 : Nat) : Int) := by rw [wrapZ _ (by omega) (by omega)]; omega
        rw [hw]
        exact ih k (i + 1) (by omega) (by omega)
      · have hm := st_mono s (show i + 1 ≤ j by omega)
        have := h.le_size hj
        by_cases h0 : a < 0
        · have := h1 h0
          omega
        · by_cases hz : a < (s.size : Int)
          · have := h2 (by omega) hz
            omega
          · omega
theorem map_sig {s : ByteArray} {n : Nat} (h : Signs s n) : (scan s s.size 0).map sig = (List.range n).map (fun t => sig (st s t, Utf8.decode s (st s t))) := by
  rw [h.eq, List.map_map]
  rfl
theorem which_eq {s : ByteArray} {n j : Nat} (h : Signs s n) (hs : s.size < 1000000) {a : Int} (ha : At s n a j) (k : Nat) : bureauref02_which.f (s.size + k + 1) ((scan s s.size 0).map sig) a = some (j : Int) := by
  have hn := h.le
  have hj := ha.1
  unfold bureauref02_which.f
  rw [map_sig h]
  exact which_loop h hs ha _ rfl s.size k 0 (by omega) (by omega)
theorem begins_eq {s : ByteArray} {n i : Nat} (h : Signs s n) (hs : s.size < 1000000) : bureauref02_begins.f s ((scan s s.size 0).map sig) (i : Int) = some (if i < n then ((st s i : Nat) : Int) else (s.size : Int)) := by
  unfold bureauref02_begins.f
  have hlen : ((scan s s.size 0).map sig).length = n := by rw [map_sig h]; simp
  rw [if_pos (by omega), hlen]
  by_cases hc : i < n
  · rw [if_pos (by omega), if_pos (by omega), if_pos hc, rd_T47_nat _ i (by omega)]
    simp only [map_sig h, List.getElem_map, List.getElem_range]
    rfl
  · rw [if_neg (by omega), if_neg hc]
theorem GlyphMoves : bureaulaw02_GlyphMoves.Pure := by
  intro s a _ hwf
  have hr : -9223372036854775808 ≤ a ∧ a ≤ 9223372036854775807 := by simpa [Lit.wf, IntKind.min, IntKind.max, IntKind.signed, IntKind.bits] using hwf
  refine ⟨s.size + 0 + 22, ?_⟩
  unfold bureaulaw02_GlyphMoves.f
  have hal : bureaulaw02_alive.f (s.size + 0 + 22) = some true := by rw [show s.size + 0 + 22 = (s.size + 2) + 20 by omega]; exact alive_eq _
  rw [hal, Option.bind_some, if_pos rfl]
  by_cases hs : (s.size : Int) > 4096
  · rw [if_pos hs]
  rw [if_neg hs]
  obtain ⟨n, h⟩ := signs_ex s
  obtain ⟨j, ha⟩ := At.ex h a
  have hs' : s.size < 1000000 := by omega
  have hn := h.le
  have hj := ha.1
  have hlen : ((scan s s.size 0).map sig).length = n := by rw [map_sig h]; simp
  have hS := signs_eq s hs' 0
  have hW : bureauref02_which.f (s.size + 0 + 22) ((scan s s.size 0).map sig) a = some (j : Int) := which_eq h hs' ha 21
  have hA : glyph_At.f (s.size + 0 + 22) s a = _ := at_eq h hs' ha (s.size + 12)
  have hL : glyph_Align.f (s.size + 0 + 22) s a = _ := align_eq h hs' ha (s.size + 12)
  have hN : glyph_Next.f (s.size + 0 + 22) s a = _ := next_eq h hs' ha (s.size + 12)
  have hP : glyph_Prev.f (s.size + 0 + 22) s a = _ := prev_eq h hs' ha (s.size + 12)
  have rA : bureauref02_At.f (s.size + 0 + 22) s a = some (if j < n then ((((Utf8.decode s (st s j)).1 : Nat) : Int), (((Utf8.decode s (st s j)).2 : Nat) : Int)) else (0, 0)) := by
    unfold bureauref02_At.f
    rw [hS, Option.bind_some, hW, Option.bind_some, hlen]
    by_cases hc : j < n
    · rw [if_neg (by omega), if_pos (by omega), if_pos (by omega), if_pos hc, rd_T47_nat _ j (by omega)]
      simp only [map_sig h, List.getElem_map, List.getElem_range]
      rfl
    · rw [if_pos (by omega), if_neg hc]
  have rL : bureauref02_Align.f (s.size + 0 + 22) s a = some ((st s j : Nat) : Int) := by
    unfold bureauref02_Align.f
    rw [hS, Option.bind_some, hW, Option.bind_some, begins_eq h hs', Option.bind_some]
    by_cases hc : j < n
    · rw [if_pos hc]
    · rw [if_neg hc, show j = n by omega, h.last]
  have rN : bureauref02_Next.f (s.size + 0 + 22) s a = some (if j < n then ((st s (j + 1) : Nat) : Int) else (s.size : Int)) := by
    unfold bureauref02_Next.f
    have hw : wrap64 ((j : Int) + 1) = ((j + 1 : Nat) : Int) := by rw [wrapZ _ (by omega) (by omega)]; omega
    rw [hS, Option.bind_some, hW, Option.bind_some, hw, begins_eq h hs', Option.bind_some]
    by_cases hc : j + 1 < n
    · rw [if_pos hc, if_pos (by omega)]
    · rw [if_neg hc]
      by_cases he : j + 1 = n
      · rw [if_pos (by omega), he, h.last]
      · rw [if_neg (by omega)]
  have rP : bureauref02_Prev.f (s.size + 0 + 22) s a = some (if j = 0 then 0 else ((st s (j - 1) : Nat) : Int)) := by
    unfold bureauref02_Prev.f
    rw [hS, Option.bind_some, hW, Option.bind_some]
    by_cases hc : j = 0
    · rw [if_pos (by omega), if_pos hc]
    · have hw : wrap64 ((j : Int) - 1) = ((j - 1 : Nat) : Int) := by rw [wrapZ _ (by omega) (by omega)]; omega
      rw [if_neg (by omega), hw, begins_eq h hs', Option.bind_some, if_neg hc, if_pos (by omega)]
  rw [hA, rA, Option.bind_some, Option.bind_some, hL, rL, hN, rN, hP, rP]
  simp only [Option.bind_some, if_true, beq_self_eq_true]
  have hwr : wrap64 (if j < n then ((((Utf8.decode s (st s j)).1 : Nat) : Int), (((Utf8.decode s (st s j)).2 : Nat) : Int)) else (0, 0)).1 = (if j < n then ((((Utf8.decode s (st s j)).1 : Nat) : Int), (((Utf8.decode s (st s j)).2 : Nat) : Int)) else (0, 0)).1 := by
    by_cases hc : j < n
    · rw [if_pos hc]
      have : (Utf8.decode s (st s j)).1 ≤ 1114111 := dec_le s _
      exact wrapN _ (by omega)
    · rw [if_neg hc]
      exact wrapZ _ (by decide) (by decide)
  rw [hwr, if_pos rfl]

end Go.Proofs.YtodlhgpmenhnoaaDoor.Pure
