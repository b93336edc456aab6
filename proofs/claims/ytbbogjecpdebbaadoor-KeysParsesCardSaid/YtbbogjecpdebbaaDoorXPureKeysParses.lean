/- The keys of any bytes are the document's, or refused: for every text. -/
import Derived.Test.YtbbogjecpdebbaaDoorXKeysParsesx2
import Derived.Test.YtbbogjecpdebbaaDoorExt10K
import Derived.OpenShut
set_option linter.unusedVariables false
set_option linter.unusedSimpArgs false
namespace Go.Proofs.YtbbogjecpdebbaaDoor.Pure
open Go.RowKit Go.Proofs.YtbbogjecpdebbaaDoor.XKeysParses Go.Proofs.YtbbogjecpdebbaaDoorW.PrintWords Go.Proofs.YtbbogjecpdebbaaDoorW.PrintMore Go.Proofs.YtbbogjecpdebbaaDoor.Ext

theorem alive_eq (k : Nat) : bureaulaw10_alive.f (k + 20) = some true := by
  have h : bureaulaw10_alive.f 20 = some true := by decide +kernel
  induction k with
  | zero => exact h
  | succ k ih =>
    have := bureaulaw10_alive.mono (k + 20) true ih
    rwa [show k + 1 + 20 = k + 20 + 1 by omega]
theorem tmodN (a b : Nat) : Int.tmod (a : Int) (b : Int) = ((a % b : Nat) : Int) := rfl
theorem tdivN (a b : Nat) : Int.tdiv (a : Int) (b : Int) = ((a / b : Nat) : Int) := rfl
theorem wrapN (a : Nat) (h : a < 9223372036854775808) : wrap64 (a : Int) = (a : Int) := by
  unfold wrap64
  omega
theorem wrapZ (a : Int) (h0 : -9223372036854775808 ≤ a) (h1 : a < 9223372036854775808) : wrap64 a = a := by
  unfold wrap64
  omega
/-- The byte of a text at a place, as a number. -/
def gb (s : ByteArray) (i : Nat) : Nat := (s.get! i).toNat
theorem gb_lt (s : ByteArray) (i : Nat) : gb s i < 256 := UInt8.toNat_lt _
theorem get_ext (s : ByteArray) (i n j : Nat) (h : i + n ≤ s.size) (hj : j < n) : (s.extract i (i + n)).get! j = s.get! (i + j) := by
  show (s.extract i (i + n)).data[j]! = s.data[i + j]!
  have hs : s.size = s.data.size := rfl
  rw [ByteArray.data_extract, getElem!_def, getElem!_def, Array.getElem?_extract, if_pos (by omega)]
theorem size_ext (s : ByteArray) (i n : Nat) (h : i + n ≤ s.size) : (s.extract i (i + n)).size = n := by
  rw [ByteArray.size_extract]
  omega
theorem bt_gb (x : ByteArray) (j : Nat) (hj : j < x.size) : bt x (j : Int) = ((gb x j : Nat) : Int) := by
  have h : ((j : Int).toNat) < x.size := by simpa using hj
  unfold bt gb
  rw [dif_pos h]
  have e : x[(j : Int).toNat]'h = x.get! j := by
    show x.data[j] = x.data[j]!
    rw [getElem!_pos x.data j hj]
  rw [e]
theorem list_bytes (x : ByteArray) : x.data.toList = (List.range x.size).map (fun j => x.get! j) := by
  apply List.ext_getElem?
  intro j
  have hs : x.size = x.data.size := rfl
  by_cases h : j < x.size
  · rw [List.getElem?_map, List.getElem?_range h]
    show x.data.toList[j]? = some x.data[j]!
    rw [getElem!_pos x.data j h]
    simp [hs ▸ h]
  · rw [List.getElem?_eq_none (by simp; omega), List.getElem?_eq_none (by simp; omega)]
/-! The numbers' bytes. -/
def enc (r : Nat) : List Nat :=
  if r < 128 then [r] else if r < 2048 then [192 + r / 64, 128 + r % 64] else if r < 65536 then [224 + r / 4096, 128 + r / 64 % 64, 128 + r % 64] else [240 + r / 262144, 128 + r / 4096 % 64, 128 + r / 64 % 64, 128 + r % 64]
def mayN (r : Nat) : Bool := r ≤ 1114111 && (r < 55296 || 57344 ≤ r)
theorem enc_lt {r : Nat} (h : r ≤ 1114111) : ∀ x ∈ enc r, x < 256 := by
  unfold enc
  intro x hx
  split at hx
  · simp only [List.mem_cons, List.not_mem_nil, or_false] at hx
    omega
  split at hx
  · simp only [List.mem_cons, List.not_mem_nil, or_false] at hx
    omega
  split at hx
  · simp only [List.mem_cons, List.not_mem_nil, or_false] at hx
    omega
  · simp only [List.mem_cons, List.not_mem_nil, or_false] at hx
    omega
/-! What the document's 'number' reads, and which so many bytes are a sign. -/
def numN (n b0 b1 b2 b3 : Nat) : Nat :=
  if n = 1 then b0 else if n = 2 then b0 % 32 * 64 + b1 % 64 else if n = 3 then (b0 % 16 * 64 + b1 % 64) * 64 + b2 % 64 else ((b0 % 8 * 64 + b1 % 64) * 64 + b2 % 64) * 64 + b3 % 64
theorem num1 (b0 b1 b2 b3 : Nat) : numN 1 b0 b1 b2 b3 = b0 := rfl
theorem num2 (b0 b1 b2 b3 : Nat) : numN 2 b0 b1 b2 b3 = b0 % 32 * 64 + b1 % 64 := rfl
theorem num3 (b0 b1 b2 b3 : Nat) : numN 3 b0 b1 b2 b3 = (b0 % 16 * 64 + b1 % 64) * 64 + b2 % 64 := rfl
theorem num4 (b0 b1 b2 b3 : Nat) : numN 4 b0 b1 b2 b3 = ((b0 % 8 * 64 + b1 % 64) * 64 + b2 % 64) * 64 + b3 % 64 := rfl
def okN (n b0 b1 b2 b3 : Nat) : Bool := mayN (numN n b0 b1 b2 b3) && enc (numN n b0 b1 b2 b3) == [b0, b1, b2, b3].take n
theorem ok1 {b0 : Nat} (b1 b2 b3 : Nat) (h0 : b0 < 256) : okN 1 b0 b1 b2 b3 = decide (b0 < 128) := by
  unfold okN mayN enc numN
  rw [if_pos rfl, Bool.eq_iff_iff]
  simp only [Bool.and_eq_true, Bool.or_eq_true, decide_eq_true_eq, beq_iff_eq, List.take_succ_cons, List.take_zero]
  constructor
  · rintro ⟨_, h⟩
    split at h
    · assumption
    · exfalso
      split at h
      · simp only [List.cons.injEq] at h
        exact absurd h.2 (by simp)
      split at h
      · simp only [List.cons.injEq] at h
        exact absurd h.2 (by simp)
      · simp only [List.cons.injEq] at h
        exact absurd h.2 (by simp)
  · intro h
    exact ⟨by omega, by rw [if_pos h]⟩
theorem ok2 {b0 b1 : Nat} (b2 b3 : Nat) (h0 : b0 < 256) (h1 : b1 < 256) : okN 2 b0 b1 b2 b3 = decide (b0 / 32 = 6 ∧ b1 / 64 = 2 ∧ 128 ≤ b0 % 32 * 64 + b1 % 64) := by
  unfold okN mayN enc numN
  rw [if_neg (by omega), if_pos rfl, Bool.eq_iff_iff]
  simp only [Bool.and_eq_true, Bool.or_eq_true, decide_eq_true_eq, beq_iff_eq, List.take_succ_cons, List.take_zero]
  generalize hr : b0 % 32 * 64 + b1 % 64 = r
  constructor
  · rintro ⟨_, h⟩
    split at h
    · cases h
    split at h
    · simp only [List.cons.injEq, and_true] at h
      omega
    split at h
    · cases h
    · cases h
  · intro h
    refine ⟨by omega, ?_⟩
    rw [if_neg (by omega), if_pos (by omega)]
    simp only [List.cons.injEq, and_true]
    omega
theorem ok3 {b0 b1 b2 : Nat} (b3 : Nat) (h0 : b0 < 256) (h1 : b1 < 256) (h2 : b2 < 256) : okN 3 b0 b1 b2 b3 =
    decide (b0 / 16 = 14 ∧ b1 / 64 = 2 ∧ b2 / 64 = 2 ∧ 2048 ≤ b0 % 16 * 4096 + b1 % 64 * 64 + b2 % 64 ∧ (b0 % 16 * 4096 + b1 % 64 * 64 + b2 % 64 < 55296 ∨ 57344 ≤ b0 % 16 * 4096 + b1 % 64 * 64 + b2 % 64)) := by
  unfold okN mayN enc numN
  rw [if_neg (by omega), if_neg (by omega), if_pos rfl, Bool.eq_iff_iff]
  simp only [Bool.and_eq_true, Bool.or_eq_true, decide_eq_true_eq, beq_iff_eq, List.take_succ_cons, List.take_zero]
  rw [show (b0 % 16 * 64 + b1 % 64) * 64 + b2 % 64 = b0 % 16 * 4096 + b1 % 64 * 64 + b2 % 64 by omega]
  generalize hr : b0 % 16 * 4096 + b1 % 64 * 64 + b2 % 64 = r
  constructor
  · rintro ⟨_, h⟩
    split at h
    · cases h
    split at h
    · cases h
    split at h
    · simp only [List.cons.injEq, and_true] at h
      omega
    · cases h
  · intro h
    refine ⟨by omega, ?_⟩
    rw [if_neg (by omega), if_neg (by omega), if_pos (by omega)]
    simp only [List.cons.injEq, and_true]
    omega
theorem ok4 {b0 b1 b2 b3 : Nat} (h0 : b0 < 256) (h1 : b1 < 256) (h2 : b2 < 256) (h3 : b3 < 256) : okN 4 b0 b1 b2 b3 =
    decide (b0 / 8 = 30 ∧ b1 / 64 = 2 ∧ b2 / 64 = 2 ∧ b3 / 64 = 2 ∧ 65536 ≤ b0 % 8 * 262144 + b1 % 64 * 4096 + b2 % 64 * 64 + b3 % 64 ∧ b0 % 8 * 262144 + b1 % 64 * 4096 + b2 % 64 * 64 + b3 % 64 ≤ 1114111) := by
  unfold okN mayN enc numN
  rw [if_neg (by omega), if_neg (by omega), if_neg (by omega), Bool.eq_iff_iff]
  simp only [Bool.and_eq_true, Bool.or_eq_true, decide_eq_true_eq, beq_iff_eq, List.take_succ_cons, List.take_zero]
  rw [show ((b0 % 8 * 64 + b1 % 64) * 64 + b2 % 64) * 64 + b3 % 64 = b0 % 8 * 262144 + b1 % 64 * 4096 + b2 % 64 * 64 + b3 % 64 by omega]
  generalize hr : b0 % 8 * 262144 + b1 % 64 * 4096 + b2 % 64 * 64 + b3 % 64 = r
  constructor
  · rintro ⟨_, h⟩
    split at h
    · cases h
    split at h
    · cases h
    split at h
    · cases h
    · simp only [List.cons.injEq, and_true] at h
      omega
  · intro h
    refine ⟨by omega, ?_⟩
    rw [if_neg (by omega), if_neg (by omega), if_neg (by omega)]
    simp only [List.cons.injEq, and_true]
    omega
/-- The model's decoding, by which so many bytes are a sign. -/
def firstOk (m b0 b1 b2 b3 : Nat) : Nat × Nat × Bool :=
  if okN 1 b0 b1 b2 b3 = true then (numN 1 b0 b1 b2 b3, 1, true)
  else if 2 ≤ m ∧ okN 2 b0 b1 b2 b3 = true then (numN 2 b0 b1 b2 b3, 2, true)
  else if 3 ≤ m ∧ okN 3 b0 b1 b2 b3 = true then (numN 3 b0 b1 b2 b3, 3, true)
  else if 4 ≤ m ∧ okN 4 b0 b1 b2 b3 = true then (numN 4 b0 b1 b2 b3, 4, true)
  else (65533, 1, false)
theorem first_decode {m b0 b1 b2 b3 : Nat} (h0 : b0 < 256) (h1 : b1 < 256) (h2 : b2 < 256) (h3 : b3 < 256) :
    firstOk m b0 b1 b2 b3 = ((Lib.decodeN m b0 b1 b2 b3).1, (Lib.decodeN m b0 b1 b2 b3).2, whole (0, Lib.decodeN m b0 b1 b2 b3)) := by
  unfold firstOk
  rw [ok1 b1 b2 b3 h0, ok2 b2 b3 h0 h1, ok3 b3 h0 h1 h2, ok4 h0 h1 h2 h3]
  simp only [decide_eq_true_eq]
  have n1 : numN 1 b0 b1 b2 b3 = b0 := rfl
  have n2 : numN 2 b0 b1 b2 b3 = b0 % 32 * 64 + b1 % 64 := rfl
  have n3 : numN 3 b0 b1 b2 b3 = b0 % 16 * 4096 + b1 % 64 * 64 + b2 % 64 := by unfold numN; rw [if_neg (by omega), if_neg (by omega), if_pos rfl]; omega
  have n4 : numN 4 b0 b1 b2 b3 = b0 % 8 * 262144 + b1 % 64 * 4096 + b2 % 64 * 64 + b3 % 64 := by unfold numN; rw [if_neg (by omega), if_neg (by omega), if_neg (by omega)]; omega
  rw [n1, n2, n3, n4]
  unfold Lib.decodeN
  by_cases c1 : b0 < 128
  · rw [if_pos c1, if_pos c1]
    have : (b0 == 65533) = false := by rw [beq_eq_false_iff_ne]; omega
    simp [whole, this]
  rw [if_neg c1, if_neg c1]
  by_cases c2 : b0 / 32 = 6 ∧ (1 < m ∧ b1 / 64 = 2)
  · rw [if_pos c2]
    by_cases d2 : b0 % 32 * 64 + b1 % 64 ≥ 128
    · rw [if_pos d2, if_pos (by omega)]
      simp [whole]
    · rw [if_neg d2, if_neg (by omega), if_neg (by omega), if_neg (by omega)]
      rfl
  rw [if_neg c2, if_neg (by omega)]
  by_cases c3 : b0 / 16 = 14 ∧ (1 < m ∧ b1 / 64 = 2) ∧ (2 < m ∧ b2 / 64 = 2)
  · rw [if_pos c3]
    by_cases d3 : b0 % 16 * 4096 + b1 % 64 * 64 + b2 % 64 ≥ 2048 ∧ (b0 % 16 * 4096 + b1 % 64 * 64 + b2 % 64 < 55296 ∨ (57344 ≤ b0 % 16 * 4096 + b1 % 64 * 64 + b2 % 64 ∧ b0 % 16 * 4096 + b1 % 64 * 64 + b2 % 64 ≤ 1114111))
    · rw [if_pos d3, if_pos (by omega)]
      simp [whole]
    · rw [if_neg d3, if_neg (by omega), if_neg (by omega)]
      rfl
  rw [if_neg c3, if_neg (by omega)]
  by_cases c4 : b0 / 8 = 30 ∧ (1 < m ∧ b1 / 64 = 2) ∧ (2 < m ∧ b2 / 64 = 2) ∧ (3 < m ∧ b3 / 64 = 2)
  · rw [if_pos c4]
    by_cases d4 : b0 % 8 * 262144 + b1 % 64 * 4096 + b2 % 64 * 64 + b3 % 64 ≥ 65536 ∧ (b0 % 8 * 262144 + b1 % 64 * 4096 + b2 % 64 * 64 + b3 % 64 < 55296 ∨ (57344 ≤ b0 % 8 * 262144 + b1 % 64 * 4096 + b2 % 64 * 64 + b3 % 64 ∧ b0 % 8 * 262144 + b1 % 64 * 4096 + b2 % 64 * 64 + b3 % 64 ≤ 1114111))
    · rw [if_pos d4, if_pos (by omega)]
      simp [whole]
    · rw [if_neg d4, if_neg (by omega)]
      rfl
  rw [if_neg c4, if_neg (by omega)]
  rfl
theorem may_eq (r : Nat) : bureauref02_May.f (r : Int) = some (mayN r) := by
  unfold bureauref02_May.f mayN
  rw [if_pos (Int.natCast_nonneg r)]
  by_cases h1 : r ≤ 1114111
  · rw [if_pos (by omega)]
    by_cases h2 : r < 55296
    · rw [if_pos (by omega)]
      simp [h1, h2]
    · rw [if_neg (by omega)]
      congr 1
      rw [Bool.eq_iff_iff]
      simp only [decide_eq_true_eq, Bool.and_eq_true, Bool.or_eq_true]
      omega
  · rw [if_neg (by omega)]
    simp [h1]
theorem lowK (K : Int) (k x : Nat) (hK : K = (k : Int)) (h : k + x < 256) : UInt8.ofNat (wrap64 (K + (x : Int)) % 256).toNat = UInt8.ofNat (k + x) := by
  congr 1
  unfold wrap64
  omega
theorem lowA (x : Nat) (h : x < 256) : UInt8.ofNat ((x : Int) % 256).toNat = UInt8.ofNat x := by
  congr 1
  omega
theorem l2 {a b a' b' : UInt8} (h1 : a = a') (h2 : b = b') : [a, b] = [a', b'] := by rw [h1, h2]
theorem l3 {a b c a' b' c' : UInt8} (h1 : a = a') (h2 : b = b') (h3 : c = c') : [a, b, c] = [a', b', c'] := by rw [h1, h2, h3]
theorem l4 {a b c d a' b' c' d' : UInt8} (h1 : a = a') (h2 : b = b') (h3 : c = c') (h4 : d = d') : [a, b, c, d] = [a', b', c', d'] := by rw [h1, h2, h3, h4]
theorem bytes_eq {r : Nat} (h : r ≤ 1114111) : bureauref02_Bytes.f (r : Int) = some ⟨((enc r).map UInt8.ofNat).toArray⟩ := by
  have e64 : Int.tdiv (r : Int) 64 = ((r / 64 : Nat) : Int) := rfl
  have e4096 : Int.tdiv (r : Int) 4096 = ((r / 4096 : Nat) : Int) := rfl
  have e262144 : Int.tdiv (r : Int) 262144 = ((r / 262144 : Nat) : Int) := rfl
  have m64 : Int.tmod (r : Int) 64 = ((r % 64 : Nat) : Int) := rfl
  have w1 := wrapN (r / 64) (by omega)
  have w2 := wrapN (r / 4096) (by omega)
  have w3 := wrapN (r / 262144) (by omega)
  have m1 : Int.tmod ((r / 64 : Nat) : Int) 64 = ((r / 64 % 64 : Nat) : Int) := rfl
  have m2 : Int.tmod ((r / 4096 : Nat) : Int) 64 = ((r / 4096 % 64 : Nat) : Int) := rfl
  unfold bureauref02_Bytes.f enc
  rw [e64, e4096, e262144, m64, w1, w2, w3, m1, m2]
  clear e64 e4096 e262144 m64 w1 w2 w3 m1 m2
  by_cases h1 : r < 128
  · rw [if_pos (by omega), if_pos h1]
    simp only [strOfNums, List.map_cons, List.map_nil, lowA r (by omega)]
  rw [if_neg (by omega), if_neg h1]
  by_cases h2 : r < 2048
  · rw [if_pos (by omega), if_pos h2]
    simp only [strOfNums, List.map_cons, List.map_nil]
    exact congrArg (fun l : List UInt8 => some (⟨l.toArray⟩ : ByteArray)) (l2 (lowK 192 192 (r / 64) rfl (by omega)) (lowK 128 128 (r % 64) rfl (by omega)))
  rw [if_neg (by omega), if_neg h2]
  by_cases h3 : r < 65536
  · rw [if_pos (by omega), if_pos h3]
    simp only [strOfNums, List.map_cons, List.map_nil]
    exact congrArg (fun l : List UInt8 => some (⟨l.toArray⟩ : ByteArray)) (l3 (lowK 224 224 (r / 4096) rfl (by omega)) (lowK 128 128 (r / 64 % 64) rfl (by omega)) (lowK 128 128 (r % 64) rfl (by omega)))
  · rw [if_neg (by omega), if_neg h3]
    simp only [strOfNums, List.map_cons, List.map_nil]
    exact congrArg (fun l : List UInt8 => some (⟨l.toArray⟩ : ByteArray)) (l4 (lowK 240 240 (r / 262144) rfl (by omega)) (lowK 128 128 (r / 4096 % 64) rfl (by omega)) (lowK 128 128 (r / 64 % 64) rfl (by omega)) (lowK 128 128 (r % 64) rfl (by omega)))
theorem num_step (k : Nat) (x : ByteArray) (a j : Nat) (hj : j < x.size) (ha : a < 1000000) (hs : x.size < 100) :
    bureauref02_number.l0 (k + 1) x (a : Int) (j : Int) = bureauref02_number.l0 k x ((a * 64 + gb x j % 64 : Nat) : Int) ((j + 1 : Nat) : Int) := by
  have hb := gb_lt x j
  rw [bureauref02_number.l0, if_pos (by omega), if_pos (by omega), bt_gb x j hj, wrapN (gb x j) (by omega)]
  have e : Int.tmod ((gb x j : Nat) : Int) 64 = ((gb x j % 64 : Nat) : Int) := rfl
  rw [e]
  congr 1
  · unfold wrap64
    omega
  · unfold wrap64
    omega
theorem num_end (k : Nat) (x : ByteArray) (a : Int) : bureauref02_number.l0 (k + 1) x a (x.size : Int) = some a := by
  rw [bureauref02_number.l0, if_neg (by omega)]
theorem number_eq (k : Nat) (x : ByteArray) (n : Nat) (hn : x.size = n) (h1 : 1 ≤ n) (h4 : n ≤ 4) :
    bureauref02_number.f (k + 6) x = some ((numN n (gb x 0) (gb x 1) (gb x 2) (gb x 3) : Nat) : Int) := by
  have h0 := gb_lt x 0
  have e0 : wrap64 (bt x 0) = ((gb x 0 : Nat) : Int) := by rw [show (0 : Int) = ((0 : Nat) : Int) from rfl, bt_gb x 0 (by omega), wrapN _ (by omega)]
  unfold bureauref02_number.f
  rw [if_pos (by omega), e0]
  have e32 : Int.tmod ((gb x 0 : Nat) : Int) 32 = ((gb x 0 % 32 : Nat) : Int) := rfl
  have e16 : Int.tmod ((gb x 0 : Nat) : Int) 16 = ((gb x 0 % 16 : Nat) : Int) := rfl
  have e8 : Int.tmod ((gb x 0 : Nat) : Int) 8 = ((gb x 0 % 8 : Nat) : Int) := rfl
  rw [e32, e16, e8]
  have e1 : (1 : Int) = ((1 : Nat) : Int) := rfl
  rcases (by omega : n = 1 ∨ n = 2 ∨ n = 3 ∨ n = 4) with hc | hc | hc | hc
  · rw [if_neg (by omega), if_neg (by omega), if_neg (by omega), bureauref02_number.j0]
    have := num_end (k + 4) x ((gb x 0 : Nat) : Int)
    rw [hn, hc] at this
    rw [e1, this, hc]
    rfl
  · rw [if_pos (by omega), bureauref02_number.j0, e1, num_step _ x _ 1 (by omega) (by omega) (by omega)]
    have := num_end (k + 3) x ((gb x 0 % 32 * 64 + gb x 1 % 64 : Nat) : Int)
    rw [hn, hc] at this
    rw [this, hc]
    rfl
  · rw [if_neg (by omega), if_pos (by omega), bureauref02_number.j0, e1, num_step _ x _ 1 (by omega) (by omega) (by omega), num_step _ x _ 2 (by omega) (by omega) (by omega)]
    have := num_end (k + 2) x (((gb x 0 % 16 * 64 + gb x 1 % 64) * 64 + gb x 2 % 64 : Nat) : Int)
    rw [hn, hc] at this
    rw [this, hc]
    rfl
  · rw [if_neg (by omega), if_neg (by omega), if_pos (by omega), bureauref02_number.j0, e1, num_step _ x _ 1 (by omega) (by omega) (by omega), num_step _ x _ 2 (by omega) (by omega) (by omega), num_step _ x _ 3 (by omega) (by omega) (by omega)]
    have := num_end (k + 1) x ((((gb x 0 % 8 * 64 + gb x 1 % 64) * 64 + gb x 2 % 64) * 64 + gb x 3 % 64 : Nat) : Int)
    rw [hn, hc] at this
    rw [this, hc]
    rfl
/-! 'one': the sign at a place. -/
theorem list_eq_gb {s : ByteArray} {i n r : Nat} (hn : i + n ≤ s.size) (h1 : 1 ≤ n) (h4 : n ≤ 4) (hr : r ≤ 1114111) :
    ((⟨((enc r).map UInt8.ofNat).toArray⟩ : ByteArray).toList = (s.extract i (i + n)).toList) ↔ enc r = [gb s i, gb s (i + 1), gb s (i + 2), gb s (i + 3)].take n := by
  rw [ByteArray.toList_eq, ByteArray.toList_eq, list_bytes (s.extract i (i + n)), size_ext s i n hn]
  have hm : (List.range n).map (fun j => (s.extract i (i + n)).get! j) = ([gb s i, gb s (i + 1), gb s (i + 2), gb s (i + 3)].take n).map UInt8.ofNat := by
    rw [List.map_congr_left (g := fun j => s.get! (i + j)) (fun j hj => get_ext s i n j hn (List.mem_range.1 hj))]
    have g0 (j : Nat) : UInt8.ofNat (gb s j) = s.get! j := by unfold gb; exact UInt8.ofNat_toNat
    rcases (by omega : n = 1 ∨ n = 2 ∨ n = 3 ∨ n = 4) with rfl | rfl | rfl | rfl <;> simp [List.range_succ, g0]
  rw [hm]
  have inj : ∀ (x y : List Nat), (∀ a ∈ x, a < 256) → (∀ a ∈ y, a < 256) → x.map UInt8.ofNat = y.map UInt8.ofNat → x = y := by
    intro x
    induction x with
    | nil => intro y _ _ h; cases y with | nil => rfl | cons a y => cases h
    | cons a x ih =>
      intro y hx hy h
      cases y with
      | nil => cases h
      | cons b y =>
        simp only [List.map_cons, List.cons.injEq] at h
        have hab := congrArg UInt8.toNat h.1
        rw [UInt8.toNat_ofNat', UInt8.toNat_ofNat'] at hab
        have ha := hx a (by simp)
        have hb := hy b (by simp)
        rw [ih y (fun a ha => hx a (by simp [ha])) (fun a ha => hy a (by simp [ha])) h.2]
        congr 1
        omega
  constructor
  · intro h
    refine inj _ _ (enc_lt hr) (fun a ha => ?_) h
    have := List.mem_of_mem_take ha
    simp only [List.mem_cons, List.not_mem_nil, or_false] at this
    have b0 := gb_lt s i
    have b1 := gb_lt s (i + 1)
    have b2 := gb_lt s (i + 2)
    have b3 := gb_lt s (i + 3)
    omega
  · intro h
    rw [h]
theorem one_step (k : Nat) (s : ByteArray) (i n : Nat) (hs : s.size < 1000000000) (h1 : 1 ≤ n) (h4 : n ≤ 4) (hn : i + n ≤ s.size) :
    bureauref02_one.l0 (k + 12) s (i : Int) (n : Int) =
      if okN n (gb s i) (gb s (i + 1)) (gb s (i + 2)) (gb s (i + 3)) = true then some ((i : Int), (n : Int), ((numN n (gb s i) (gb s (i + 1)) (gb s (i + 2)) (gb s (i + 3)) : Nat) : Int), true) else bureauref02_one.l0 (k + 10) s (i : Int) ((n + 1 : Nat) : Int) := by
  have hw : wrap64 ((s.size : Int) - (i : Int)) = (s.size : Int) - (i : Int) := wrapZ _ (by omega) (by omega)
  have hw2 : wrap64 ((i : Int) + (n : Int)) = ((i + n : Nat) : Int) := by rw [wrapZ _ (by omega) (by omega)]; omega
  have hw3 : wrap64 ((n : Int) + 1) = ((n + 1 : Nat) : Int) := by rw [wrapZ _ (by omega) (by omega)]; omega
  have c4 : (n : Int) ≤ 4 := by omega
  have cd : decide ((n : Int) ≤ (s.size : Int) - (i : Int)) = true := decide_eq_true (by omega)
  have ci : (0 : Int) ≤ (i : Int) := by omega
  have cn : (i : Int) ≤ ((i + n : Nat) : Int) := by omega
  have cs : ((i + n : Nat) : Int) ≤ (s.size : Int) := by omega
  rw [bureauref02_one.l0, if_pos c4, hw, cd, bureauref02_one.j1, if_pos rfl, if_pos ci, hw2, if_pos cn, if_pos cs, hw3, Int.toNat_natCast, Int.toNat_natCast]
  clear hw hw2 hw3 c4 cd ci cn cs
  have hx := size_ext s i n hn
  have hlt0 := gb_lt (s.extract i (i + n)) 0
  rw [number_eq (k + 4) (s.extract i (i + n)) n hx h1 h4, Option.bind_some]
  have hg (j : Nat) (hj : j < n) : gb (s.extract i (i + n)) j = gb s (i + j) := by unfold gb; rw [get_ext s i n j hn hj]
  have hg0 : gb (s.extract i (i + n)) 0 = gb s i := hg 0 (by omega)
  have hnum : numN n (gb (s.extract i (i + n)) 0) (gb (s.extract i (i + n)) 1) (gb (s.extract i (i + n)) 2) (gb (s.extract i (i + n)) 3) = numN n (gb s i) (gb s (i + 1)) (gb s (i + 2)) (gb s (i + 3)) := by
    rcases (by omega : n = 1 ∨ n = 2 ∨ n = 3 ∨ n = 4) with rfl | rfl | rfl | rfl
    · rw [num1, num1, hg0]
    · rw [num2, num2, hg0, hg 1 (by omega)]
    · rw [num3, num3, hg0, hg 1 (by omega), hg 2 (by omega)]
    · rw [num4, num4, hg0, hg 1 (by omega), hg 2 (by omega), hg 3 (by omega)]
  rw [hnum]
  generalize hr : numN n (gb s i) (gb s (i + 1)) (gb s (i + 2)) (gb s (i + 3)) = r
  rw [may_eq, Option.bind_some]
  unfold okN
  rw [hr]
  cases hm : mayN r with
  | false => simp
  | true =>
    have hr2 : r ≤ 1114111 := by simp [mayN] at hm; omega
    rw [if_pos rfl, bytes_eq hr2, Option.bind_some]
    have hl := list_eq_gb (r := r) hn h1 h4 hr2
    by_cases he : enc r = [gb s i, gb s (i + 1), gb s (i + 2), gb s (i + 3)].take n
    · rw [if_pos (hl.2 he), if_pos (by simp [he])]
    · rw [if_neg (fun h => he (hl.1 h)), if_neg (by simp [he])]
theorem one_last (k : Nat) (s : ByteArray) (i n : Nat) (hs : s.size < 1000000000) (hi : i < s.size) (hn : 4 < n ∨ s.size < i + n) :
    bureauref02_one.l0 (k + 2) s (i : Int) (n : Int) = some ((i : Int), 1, 65533, false) := by
  have hw : wrap64 ((s.size : Int) - (i : Int)) = (s.size : Int) - (i : Int) := wrapZ _ (by omega) (by omega)
  rw [bureauref02_one.l0]
  by_cases h4 : n ≤ 4
  · rw [if_pos (by omega), hw, decide_eq_false (by omega), bureauref02_one.j1, if_neg (by decide)]
  · rw [if_neg (by omega), bureauref02_one.j1, if_neg (by decide)]
theorem one_eq (k : Nat) (s : ByteArray) (i : Nat) (hs : s.size < 1000000000) (hi : i < s.size) :
    bureauref02_one.f (k + 20) s (i : Int) = some ((i : Int), (((Utf8.decode s i).2 : Nat) : Int), (((Utf8.decode s i).1 : Nat) : Int), whole (0, Utf8.decode s i)) := by
  have b0 := gb_lt s i
  have b1 := gb_lt s (i + 1)
  have b2 := gb_lt s (i + 2)
  have b3 := gb_lt s (i + 3)
  have hd : Utf8.decode s i = Lib.decodeN (s.size - i) (gb s i) (gb s (i + 1)) (gb s (i + 2)) (gb s (i + 3)) := Lib.decode_at s i
  have hf := first_decode (m := s.size - i) b0 b1 b2 b3
  rw [← hd] at hf
  have h1 := congrArg (fun x : Nat × Nat × Bool => x.1) hf
  have h2 := congrArg (fun x : Nat × Nat × Bool => x.2.1) hf
  have h3 := congrArg (fun x : Nat × Nat × Bool => x.2.2) hf
  simp only at h1 h2 h3
  rw [← h1, ← h2, ← h3]
  clear h1 h2 h3 hf hd
  unfold bureauref02_one.f firstOk
  rw [show (1 : Int) = ((1 : Nat) : Int) from rfl, one_step (k + 8) s i 1 hs (by omega) (by omega) (by omega)]
  split
  · rfl
  by_cases m2 : i + 2 ≤ s.size
  · rw [one_step (k + 6) s i 2 hs (by omega) (by omega) m2]
    split
    · rw [if_pos ⟨by omega, by assumption⟩]
    rw [if_neg (fun h => by rename_i h' ; exact h' h.2)]
    by_cases m3 : i + 3 ≤ s.size
    · rw [one_step (k + 4) s i 3 hs (by omega) (by omega) m3]
      split
      · rw [if_pos ⟨by omega, by assumption⟩]
      rw [if_neg (fun h => by rename_i h' ; exact h' h.2)]
      by_cases m4 : i + 4 ≤ s.size
      · rw [one_step (k + 2) s i 4 hs (by omega) (by omega) m4]
        split
        · rw [if_pos ⟨by omega, by assumption⟩]
        rw [if_neg (fun h => by rename_i h' ; exact h' h.2), one_last (k + 10) s i 5 hs hi (by omega)]
        rfl
      · rw [one_last (k + 12) s i 4 hs hi (by omega), if_neg (by omega)]
        rfl
    · rw [one_last (k + 14) s i 3 hs hi (by omega), if_neg (by omega), if_neg (by omega)]
      rfl
  · rw [one_last (k + 16) s i 2 hs hi (by omega), if_neg (by omega), if_neg (by omega), if_neg (by omega)]
    rfl
theorem decN_le (n b0 b1 b2 b3 : Nat) : (Lib.decodeN n b0 b1 b2 b3).2 ≤ 4 := by
  unfold Lib.decodeN
  repeat' split
  all_goals (simp only; omega)
theorem decN_fits (n b0 b1 b2 b3 : Nat) (hn : 1 ≤ n) : (Lib.decodeN n b0 b1 b2 b3).2 ≤ n := by
  unfold Lib.decodeN
  repeat' split
  all_goals (simp only; omega)
theorem decN_rune (n b0 b1 b2 b3 : Nat) (h : b0 < 256) : (Lib.decodeN n b0 b1 b2 b3).1 ≤ 1114111 := by
  unfold Lib.decodeN
  repeat' split
  all_goals (simp only; omega)
theorem dec_le (s : ByteArray) (i : Nat) : (Utf8.decode s i).1 ≤ 1114111 := by
  rw [Lib.decode_at]
  exact decN_rune _ _ _ _ _ (UInt8.toNat_lt _)
theorem width_le4 (s : ByteArray) (i : Nat) : (Utf8.decode s i).2 ≤ 4 := by
  rw [Lib.decode_at]
  exact decN_le _ _ _ _ _
theorem width_fits (s : ByteArray) (i : Nat) (h : i < s.size) : i + (Utf8.decode s i).2 ≤ s.size := by
  rw [Lib.decode_at]
  have := decN_fits (s.size - i) (s.get! i).toNat (s.get! (i + 1)).toNat (s.get! (i + 2)).toNat (s.get! (i + 3)).toNat (by omega)
  omega
/-- A sign, as the document has it. -/
def sig (x : Nat × Nat × Nat) : S62 := ⟨(x.1 : Int), (x.2.2 : Int), (x.2.1 : Int), whole x⟩
theorem whole_at (i j : Nat) (d : Nat × Nat) : whole (i, d) = whole (j, d) := rfl
theorem signs_loop (s : ByteArray) (hs : s.size < 1000000) : ∀ (b k i : Nat) (acc : List S62), s.size ≤ i + b → i ≤ s.size → acc.length ≤ i →
    bureauref02_Signs.l0 (b + k + 22) s acc (i : Int) = some (acc ++ (scan s b i).map sig) := by
  intro b
  induction b with
  | zero =>
    intro k i acc h hi ha
    rw [show (0 + k + 22 : Nat) = (k + 21) + 1 by omega, bureauref02_Signs.l0, if_neg (by omega)]
    simp [scan]
  | succ b ih =>
    intro k i acc h hi ha
    rw [show (b + 1 + k + 22 : Nat) = (b + k + 22) + 1 by omega, bureauref02_Signs.l0]
    by_cases hc : i < s.size
    · have hw := width_pos s i hc
      have hf := width_fits s i hc
      have h4 := width_le4 s i
      rw [if_pos (by omega), show b + k + 22 = (b + k + 2) + 20 by omega, one_eq (b + k + 2) s i (by omega) hc, Option.bind_some]
      have hlen : acc.length < 4398046511104 := by omega
      rw [if_pos hlen]
      have hw64 : wrap64 ((i : Int) + (((Utf8.decode s i).2 : Nat) : Int)) = ((i + (Utf8.decode s i).2 : Nat) : Int) := by rw [wrapZ _ (by omega) (by omega)]; omega
      simp only []
      rw [hw64, show b + k + 2 + 20 = b + k + 22 by omega, ih k _ _ (by omega) hf (by simp; omega), scan, if_pos hc, List.append_assoc]
      rfl
    · rw [if_neg (by omega), scan, if_neg hc]
      simp
theorem signs_eq (s : ByteArray) (hs : s.size < 1000000) (k : Nat) : bureauref02_Signs.f (s.size + k + 22) s = some ((scan s s.size 0).map sig) := by
  unfold bureauref02_Signs.f
  have := signs_loop s hs s.size k 0 [] (by omega) (by omega) (by simp)
  rw [show (0 : Int) = ((0 : Nat) : Int) from rfl, this]
  rfl
theorem rd_T62_nat (xs : List S62) (i : Nat) (h : i < xs.length) : rd_T62 xs (i : Int) = xs[i] := by
  unfold rd_T62
  rw [Int.toNat_natCast, List.getD_eq_getElem?_getD, List.getElem?_eq_getElem h]
  rfl
/-! A list of numbers, as bytes. -/
def fixR (r : Int) : Nat := if Utf8.valid r then r.toNat else 65533
theorem fix_may (r : Int) : mayN (fixR r) = true := by
  unfold fixR mayN
  split
  · rename_i h
    simp only [Utf8.valid, Bool.or_eq_true, Bool.and_eq_true, decide_eq_true_eq] at h ⊢
    omega
  · rfl
theorem encode_eq (r : Int) : (Utf8.encode r).data.toList = (enc (fixR r)).map UInt8.ofNat := by
  unfold Utf8.encode enc
  have hf : (if Utf8.valid r = true then r.toNat else Utf8.runeError) = fixR r := rfl
  simp only [hf]
  repeat' split
  all_goals rfl
theorem enc_len (r : Nat) : 1 ≤ (enc r).length ∧ (enc r).length ≤ 4 := by
  unfold enc
  split
  · simp
  split
  · simp
  split
  · simp
  · simp
theorem may_le {r : Nat} (h : mayN r = true) : r ≤ 1114111 := by
  simp only [mayN, Bool.and_eq_true, decide_eq_true_eq] at h
  exact h.1
theorem decN_1 {n b0 b1 b2 b3 : Nat} (h : b0 < 128) : Lib.decodeN n b0 b1 b2 b3 = (b0, 1) := by
  unfold Lib.decodeN
  rw [if_pos h]
theorem decN_2 {n b0 b1 b2 b3 : Nat} (h : b0 / 32 = 6) (hn : 1 < n) (h1 : b1 / 64 = 2) (hv : 128 ≤ b0 % 32 * 64 + b1 % 64) : Lib.decodeN n b0 b1 b2 b3 = (b0 % 32 * 64 + b1 % 64, 2) := by
  have c1 : ¬ b0 < 128 := by omega
  have c2 : b0 / 32 = 6 ∧ (1 < n ∧ b1 / 64 = 2) := ⟨h, hn, h1⟩
  unfold Lib.decodeN
  rw [if_neg c1, if_pos c2, if_pos hv]
theorem decN_3 {n b0 b1 b2 b3 : Nat} (h : b0 / 16 = 14) (hn : 2 < n) (h1 : b1 / 64 = 2) (h2 : b2 / 64 = 2) (hv : 2048 ≤ b0 % 16 * 4096 + b1 % 64 * 64 + b2 % 64)
    (hs : b0 % 16 * 4096 + b1 % 64 * 64 + b2 % 64 < 55296 ∨ 57344 ≤ b0 % 16 * 4096 + b1 % 64 * 64 + b2 % 64) : Lib.decodeN n b0 b1 b2 b3 = (b0 % 16 * 4096 + b1 % 64 * 64 + b2 % 64, 3) := by
  have c1 : ¬ b0 < 128 := by omega
  have c2 : ¬ (b0 / 32 = 6 ∧ (1 < n ∧ b1 / 64 = 2)) := by omega
  have c3 : b0 / 16 = 14 ∧ (1 < n ∧ b1 / 64 = 2) ∧ (2 < n ∧ b2 / 64 = 2) := ⟨h, ⟨by omega, h1⟩, hn, h2⟩
  have c4 : b0 % 16 * 4096 + b1 % 64 * 64 + b2 % 64 ≥ 2048 ∧ (b0 % 16 * 4096 + b1 % 64 * 64 + b2 % 64 < 55296 ∨ (57344 ≤ b0 % 16 * 4096 + b1 % 64 * 64 + b2 % 64 ∧ b0 % 16 * 4096 + b1 % 64 * 64 + b2 % 64 ≤ 1114111)) := ⟨hv, by omega⟩
  unfold Lib.decodeN
  rw [if_neg c1, if_neg c2, if_pos c3, if_pos c4]
theorem decN_4 {n b0 b1 b2 b3 : Nat} (h : b0 / 8 = 30) (hn : 3 < n) (h1 : b1 / 64 = 2) (h2 : b2 / 64 = 2) (h3 : b3 / 64 = 2) (hv : 65536 ≤ b0 % 8 * 262144 + b1 % 64 * 4096 + b2 % 64 * 64 + b3 % 64)
    (hs : b0 % 8 * 262144 + b1 % 64 * 4096 + b2 % 64 * 64 + b3 % 64 ≤ 1114111) : Lib.decodeN n b0 b1 b2 b3 = (b0 % 8 * 262144 + b1 % 64 * 4096 + b2 % 64 * 64 + b3 % 64, 4) := by
  have c1 : ¬ b0 < 128 := by omega
  have c2 : ¬ (b0 / 32 = 6 ∧ (1 < n ∧ b1 / 64 = 2)) := by omega
  have c3 : ¬ (b0 / 16 = 14 ∧ (1 < n ∧ b1 / 64 = 2) ∧ (2 < n ∧ b2 / 64 = 2)) := by omega
  have c4 : b0 / 8 = 30 ∧ (1 < n ∧ b1 / 64 = 2) ∧ (2 < n ∧ b2 / 64 = 2) ∧ (3 < n ∧ b3 / 64 = 2) := ⟨h, ⟨by omega, h1⟩, ⟨by omega, h2⟩, hn, h3⟩
  have c5 : b0 % 8 * 262144 + b1 % 64 * 4096 + b2 % 64 * 64 + b3 % 64 ≥ 65536 ∧ (b0 % 8 * 262144 + b1 % 64 * 4096 + b2 % 64 * 64 + b3 % 64 < 55296 ∨ (57344 ≤ b0 % 8 * 262144 + b1 % 64 * 4096 + b2 % 64 * 64 + b3 % 64 ∧ b0 % 8 * 262144 + b1 % 64 * 4096 + b2 % 64 * 64 + b3 % 64 ≤ 1114111)) := ⟨hv, by omega⟩
  unfold Lib.decodeN
  rw [if_neg c1, if_neg c2, if_neg c3, if_pos c4, if_pos c5]
theorem decN_shape (n b0 b1 b2 b3 : Nat) :
    (b0 < 128 ∧ Lib.decodeN n b0 b1 b2 b3 = (b0, 1)) ∨
    (b0 / 32 = 6 ∧ 1 < n ∧ b1 / 64 = 2 ∧ 128 ≤ b0 % 32 * 64 + b1 % 64 ∧ Lib.decodeN n b0 b1 b2 b3 = (b0 % 32 * 64 + b1 % 64, 2)) ∨
    (b0 / 16 = 14 ∧ 2 < n ∧ b1 / 64 = 2 ∧ b2 / 64 = 2 ∧ 2048 ≤ b0 % 16 * 4096 + b1 % 64 * 64 + b2 % 64 ∧ (b0 % 16 * 4096 + b1 % 64 * 64 + b2 % 64 < 55296 ∨ 57344 ≤ b0 % 16 * 4096 + b1 % 64 * 64 + b2 % 64) ∧
      Lib.decodeN n b0 b1 b2 b3 = (b0 % 16 * 4096 + b1 % 64 * 64 + b2 % 64, 3)) ∨
    (b0 / 8 = 30 ∧ 3 < n ∧ b1 / 64 = 2 ∧ b2 / 64 = 2 ∧ b3 / 64 = 2 ∧ 65536 ≤ b0 % 8 * 262144 + b1 % 64 * 4096 + b2 % 64 * 64 + b3 % 64 ∧ b0 % 8 * 262144 + b1 % 64 * 4096 + b2 % 64 * 64 + b3 % 64 ≤ 1114111 ∧
      Lib.decodeN n b0 b1 b2 b3 = (b0 % 8 * 262144 + b1 % 64 * 4096 + b2 % 64 * 64 + b3 % 64, 4)) ∨
    Lib.decodeN n b0 b1 b2 b3 = (65533, 1) := by
  unfold Lib.decodeN
  repeat' split
  all_goals first
    | (left; exact ⟨by assumption, by rfl⟩)
    | (right; left; exact ⟨by omega, by omega, by omega, by omega, by rfl⟩)
    | (right; right; left; exact ⟨by omega, by omega, by omega, by omega, by omega, by omega, by rfl⟩)
    | (right; right; right; left; exact ⟨by omega, by omega, by omega, by omega, by omega, by omega, by omega, by rfl⟩)
    | (right; right; right; right; rfl)
/-- A sign that fits stays what it is when the text is cut behind it. -/
theorem decN_cut {m m' b0 b1 b2 b3 c1 c2 c3 : Nat} (hm : 1 ≤ m) (hmm : m ≤ m') (e1 : 1 < m → b1 = c1) (e2 : 2 < m → b2 = c2) (e3 : 3 < m → b3 = c3)
    (hw : (Lib.decodeN m' b0 c1 c2 c3).2 ≤ m) : Lib.decodeN m b0 b1 b2 b3 = Lib.decodeN m' b0 c1 c2 c3 := by
  rcases decN_shape m' b0 c1 c2 c3 with ⟨h0, h⟩ | ⟨h0, hn, h1, hv, h⟩ | ⟨h0, hn, h1, h2, hv, hs, h⟩ | ⟨h0, hn, h1, h2, h3, hv, hs, h⟩ | h
  · rw [h, decN_1 h0]
  · rw [h] at hw ⊢
    have hw : 2 ≤ m := hw
    have e1 := e1 (by omega)
    subst e1
    rw [decN_2 h0 (by omega) h1 hv]
  · rw [h] at hw ⊢
    have hw : 3 ≤ m := hw
    have e1 := e1 (by omega)
    have e2 := e2 (by omega)
    subst e1 e2
    rw [decN_3 h0 (by omega) h1 h2 hv hs]
  · rw [h] at hw ⊢
    have hw : 4 ≤ m := hw
    have e1 := e1 (by omega)
    have e2 := e2 (by omega)
    have e3 := e3 (by omega)
    subst e1 e2 e3
    rw [decN_4 h0 (by omega) h1 h2 h3 hv hs]
  · have key : ∀ x, Lib.decodeN m' b0 c1 c2 c3 = x → Lib.decodeN m b0 b1 b2 b3 = x → Lib.decodeN m b0 b1 b2 b3 = Lib.decodeN m' b0 c1 c2 c3 := fun x h1 h2 => by rw [h1, h2]
    rcases decN_shape m b0 b1 b2 b3 with ⟨g0, g⟩ | ⟨g0, gn, g1, gv, g⟩ | ⟨g0, gn, g1, g2, gv, gs, g⟩ | ⟨g0, gn, g1, g2, g3, gv, gs, g⟩ | g
    · exact key _ (decN_1 g0) g
    · have e1 := e1 (by omega)
      subst e1
      exact key _ (decN_2 g0 (by omega) g1 gv) g
    · have e1 := e1 (by omega)
      have e2 := e2 (by omega)
      subst e1 e2
      exact key _ (decN_3 g0 (by omega) g1 g2 gv gs) g
    · have e1 := e1 (by omega)
      have e2 := e2 (by omega)
      have e3 := e3 (by omega)
      subst e1 e2 e3
      exact key _ (decN_4 g0 (by omega) g1 g2 g3 gv gs) g
    · rw [g, h]
theorem gb_drop {s : ByteArray} {off : Nat} {x : UInt8} {rest : List UInt8} (h : s.data.toList.drop off = x :: rest) : off < s.size ∧ gb s off = x.toNat ∧ s.data.toList.drop (off + 1) = rest := by
  have hs : s.size = s.data.toList.length := by rw [Array.length_toList]; rfl
  have hlt : off < s.data.toList.length := by
    by_cases hc : off < s.data.toList.length
    · exact hc
    · rw [List.drop_of_length_le (by omega)] at h
      cases h
  rw [List.drop_eq_getElem_cons hlt] at h
  simp only [List.cons.injEq] at h
  refine ⟨by omega, ?_, h.2⟩
  have : s.get! off = s.data.toList[off] := by
    show s.data[off]! = _
    rw [getElem!_pos s.data off (by simpa using hlt)]
    simp
  unfold gb
  rw [this, h.1]
theorem dec_enc {s : ByteArray} {off r : Nat} (hr : mayN r = true) (rest : List UInt8) (h : s.data.toList.drop off = (enc r).map UInt8.ofNat ++ rest) :
    off < s.size ∧ Utf8.decode s off = (r, (enc r).length) ∧ s.data.toList.drop (off + (enc r).length) = rest := by
  have hm : r ≤ 1114111 ∧ (r < 55296 ∨ 57344 ≤ r) := by
    simp only [mayN, Bool.and_eq_true, Bool.or_eq_true, decide_eq_true_eq] at hr
    exact hr
  have hd : Utf8.decode s off = Lib.decodeN (s.size - off) (gb s off) (gb s (off + 1)) (gb s (off + 2)) (gb s (off + 3)) := Lib.decode_at s off
  have ofn (x : Nat) (h : x < 256) : (UInt8.ofNat x).toNat = x := by rw [UInt8.toNat_ofNat']; omega
  rw [hd]
  clear hd
  unfold enc at h ⊢
  by_cases c1 : r < 128
  · rw [if_pos c1] at h ⊢
    simp only [List.map_cons, List.map_nil, List.cons_append, List.nil_append] at h
    obtain ⟨l0, g0, h0⟩ := gb_drop h
    rw [ofn _ (by omega)] at g0
    refine ⟨l0, ?_, h0⟩
    unfold Lib.decodeN
    rw [g0, if_pos c1]
    rfl
  rw [if_neg c1] at h ⊢
  by_cases c2 : r < 2048
  · rw [if_pos c2] at h ⊢
    simp only [List.map_cons, List.map_nil, List.cons_append, List.nil_append] at h
    obtain ⟨l0, g0, h0⟩ := gb_drop h
    obtain ⟨l1, g1, h1⟩ := gb_drop h0
    rw [ofn _ (by omega)] at g0 g1
    refine ⟨l0, ?_, h1⟩
    unfold Lib.decodeN
    rw [g0, g1, if_neg (by omega), if_pos (by omega), if_pos (by omega)]
    simp only [List.length_cons, List.length_nil, Prod.mk.injEq, and_true]
    omega
  rw [if_neg c2] at h ⊢
  by_cases c3 : r < 65536
  · rw [if_pos c3] at h ⊢
    simp only [List.map_cons, List.map_nil, List.cons_append, List.nil_append] at h
    obtain ⟨l0, g0, h0⟩ := gb_drop h
    obtain ⟨l1, g1, h1⟩ := gb_drop h0
    obtain ⟨l2, g2, h2⟩ := gb_drop h1
    rw [show off + 1 + 1 = off + 2 from rfl] at g2 l2
    rw [ofn _ (by omega)] at g0 g1 g2
    refine ⟨l0, ?_, h2⟩
    unfold Lib.decodeN
    rw [g0, g1, g2, if_neg (by omega), if_neg (by omega), if_pos (by omega), if_pos (by omega)]
    simp only [List.length_cons, List.length_nil, Prod.mk.injEq, and_true]
    omega
  · rw [if_neg c3] at h ⊢
    simp only [List.map_cons, List.map_nil, List.cons_append, List.nil_append] at h
    obtain ⟨l0, g0, h0⟩ := gb_drop h
    obtain ⟨l1, g1, h1⟩ := gb_drop h0
    obtain ⟨l2, g2, h2⟩ := gb_drop h1
    obtain ⟨l3, g3, h3⟩ := gb_drop h2
    rw [show off + 1 + 1 = off + 2 from rfl] at g2 l2
    rw [show off + 1 + 1 + 1 = off + 3 from rfl] at g3 l3
    rw [ofn _ (by omega)] at g0 g1 g2 g3
    refine ⟨l0, ?_, h3⟩
    unfold Lib.decodeN
    rw [g0, g1, g2, g3, if_neg (by omega), if_neg (by omega), if_neg (by omega), if_pos (by omega), if_pos (by omega)]
    simp only [List.length_cons, List.length_nil, Prod.mk.injEq, and_true]
    omega
theorem size_list (s : ByteArray) : s.size = s.data.toList.length := by rw [Array.length_toList]; rfl
theorem names_ok : ∀ i : Nat, i < 61 → (1 ≤ i ∧ i ≤ 27 ∨ i = 60) → keyZ (nameB (i : Int)) = (i : Int) ∧ (nameB (i : Int)).all (fun x => decide (x.toNat < 128) && (x != 62)) = true ∧ mayZ (i : Int) = true ∧ nameB (i : Int) ≠ [] := by decide +kernel
theorem named {r : Int} (h : mayZ r = true) (hn : ¬ nameB r = []) : ∃ i : Nat, r = (i : Int) ∧ i < 61 ∧ (1 ≤ i ∧ i ≤ 27 ∨ i = 60) := by
  have hb := may_bounds h
  refine ⟨r.toNat, by omega, ?_⟩
  by_cases h60 : r = 60
  · omega
  by_cases h32 : r < 32
  · simp only [mayZ, Bool.or_eq_true, Bool.and_eq_true, decide_eq_true_eq] at h
    omega
  · exact absurd (by unfold nameB; rw [if_neg (by omega), if_neg (by omega), if_neg (by omega), if_neg (by omega), if_neg h60, if_neg h32]) hn
theorem ascii_at {s : ByteArray} {off : Nat} {c : UInt8} {rest : List UInt8} (hc : c.toNat < 128) (h : s.data.toList.drop off = c :: rest) : off < s.size ∧ Utf8.decode s off = (c.toNat, 1) ∧ s.data.toList.drop (off + 1) = rest := by
  obtain ⟨h1, h2, h3⟩ := gb_drop h
  refine ⟨h1, ?_, h3⟩
  have hd : Utf8.decode s off = Lib.decodeN (s.size - off) (gb s off) (gb s (off + 1)) (gb s (off + 2)) (gb s (off + 3)) := Lib.decode_at s off
  rw [hd, h2]
  exact decN_1 hc
theorem open_run (s : ByteArray) (o : Int) (ho : o ≥ 0) (acc : List Int) : ∀ (n : List UInt8) (off b : Nat) (rest : List UInt8), n.all (fun x => decide (x.toNat < 128) && (x != 62)) = true → s.data.toList.drop off = n ++ rest → s.size ≤ off + b →
    ∃ b', pz s (scan s b off) o acc = pz s (scan s b' (off + n.length)) o acc ∧ s.size ≤ off + n.length + b' ∧ (scan s b off).all whole = (scan s b' (off + n.length)).all whole ∧ s.data.toList.drop (off + n.length) = rest := by
  intro n
  induction n with
  | nil => intro off b rest _ h hb; exact ⟨b, rfl, hb, rfl, h⟩
  | cons c n ih =>
    intro off b rest hall h hb
    simp only [List.all_cons, Bool.and_eq_true, decide_eq_true_eq, bne_iff_ne] at hall
    obtain ⟨⟨hc, hne⟩, hall⟩ := hall
    obtain ⟨h1, h2, h3⟩ := ascii_at hc h
    cases b with
    | zero => omega
    | succ b =>
      obtain ⟨b', e1, e2, e3, e4⟩ := ih (off + 1) b rest hall h3 (by omega)
      have hc62 : ¬ ((c.toNat : Nat) : Int) = 62 := by
        intro hh
        apply hne
        apply UInt8.toNat_inj.1
        show c.toNat = 62
        omega
      have hw : whole (off, c.toNat, 1) = true := by
        have : (c.toNat == 65533) = false := by rw [beq_eq_false_iff_ne]; omega
        simp [whole, this]
      rw [List.length_cons, show off + (n.length + 1) = off + 1 + n.length by omega]
      refine ⟨b', ?_, e2, ?_, e4⟩
      · rw [scan, if_pos h1, h2, pz_in s off c.toNat 1 _ o acc ho hc62]
        exact e1
      · rw [scan, if_pos h1, h2, List.all_cons, hw, Bool.true_and]
        exact e3
theorem ext_list (s : ByteArray) (a b : Nat) : (s.extract a b).data.toList = (s.data.toList.drop a).take (b - a) := by
  rw [ByteArray.data_extract, Array.toList_extract, List.extract_eq_take_drop]
theorem parse_run (s : ByteArray) : ∀ (l : List Int) (off b : Nat) (acc : List Int), l.all mayZ = true → s.data.toList.drop off = l.flatMap writB → s.size ≤ off + b →
    pz s (scan s b off) (-1) acc = some (acc ++ l) ∧ (scan s b off).all whole = true := by
  intro l
  induction l with
  | nil =>
    intro off b acc _ h hb
    have : ¬ off < s.size := by
      intro hc
      rw [List.drop_eq_getElem_cons (by rw [← size_list]; exact hc)] at h
      simp at h
    rw [scan_end s b off this]
    exact ⟨by rw [pz_nil s _ _ (by decide), List.append_nil], rfl⟩
  | cons r l ih =>
    intro off b acc hall h hb
    rw [List.all_cons, Bool.and_eq_true] at hall
    obtain ⟨hm, hall⟩ := hall
    rw [List.flatMap_cons] at h
    have hbd := may_bounds hm
    have hv := may_valid hm
    by_cases hn : nameB r = []
    · have hw : writB r = (Utf8.encode r).data.toList := by unfold writB; rw [if_pos hn]
      have hvv : mayN r.toNat = true := by
        simp only [validZ, decide_eq_true_eq] at hv
        simp only [mayN, Bool.and_eq_true, Bool.or_eq_true, decide_eq_true_eq]
        omega
      have hfx : fixR r = r.toNat := by
        simp only [validZ, decide_eq_true_eq] at hv
        have : Utf8.valid r = true := by
          simp only [Utf8.valid, Bool.or_eq_true, Bool.and_eq_true, decide_eq_true_eq]
          omega
        unfold fixR
        rw [if_pos this]
      rw [hw, encode_eq, hfx] at h
      obtain ⟨h1, h2, h3⟩ := dec_enc hvv _ h
      have hl := enc_len r.toNat
      have hr : ((r.toNat : Nat) : Int) = r := by omega
      have h60 : ¬ r = 60 := by
        intro hh
        rw [hh] at hn
        exact absurd hn (by decide)
      have h32 : ¬ r < 32 := by
        intro hh
        have h27 : 1 ≤ r ∧ r ≤ 27 := by
          simp only [mayZ, Bool.or_eq_true, Bool.and_eq_true, decide_eq_true_eq] at hm
          omega
        have := (names_ok r.toNat (by omega) (by omega)).2.2.2
        rw [hr] at this
        exact this hn
      cases b with
      | zero => omega
      | succ b =>
        obtain ⟨e1, e2⟩ := ih (off + (enc r.toNat).length) b (acc ++ [r]) hall h3 (by omega)
        rw [scan, if_pos h1, h2]
        refine ⟨?_, ?_⟩
        · rw [pz_sign s off r.toNat _ _ (-1) acc (by decide) (by rw [hr]; exact h60) (by rw [hr]; exact h32) (by rw [hr]; exact hm), hr, e1, List.append_assoc]
          rfl
        · rw [List.all_cons, e2, Bool.and_true]
          unfold whole
          by_cases h5 : r.toNat = 65533
          · rw [h5]
            rfl
          · simp [h5]
    · obtain ⟨i, rfl, hi, hi2⟩ := named hm hn
      obtain ⟨k1, k2, k3, k4⟩ := names_ok i hi hi2
      have hw : writB (i : Int) = 60 :: nameB (i : Int) ++ [62] := by unfold writB; rw [if_neg hn]
      rw [hw, List.cons_append, List.cons_append, List.append_assoc] at h
      obtain ⟨h1, h2, h3⟩ := ascii_at (by decide) h
      cases b with
      | zero => omega
      | succ b =>
        obtain ⟨b', e1, e2, e3, e4⟩ := open_run s (off : Int) (by omega) acc (nameB (i : Int)) (off + 1) b _ k2 h3 (by omega)
        obtain ⟨g1, g2, g3⟩ := ascii_at (c := 62) (by decide) e4
        have hname : (s.extract ((off : Int) + 1).toNat (off + 1 + (nameB (i : Int)).length)).data.toList = nameB (i : Int) := by
          rw [ext_list, show ((off : Int) + 1).toNat = off + 1 by omega, h3, Nat.add_sub_cancel_left, List.take_left']
          rfl
        cases b' with
        | zero => omega
        | succ b' =>
          obtain ⟨f1, f2⟩ := ih (off + 1 + (nameB (i : Int)).length + 1) b' (acc ++ [(i : Int)]) hall g3 (by omega)
          have w62 : whole (off + 1 + (nameB (i : Int)).length, (62 : UInt8).toNat, 1) = true := rfl
          have w60 : whole (off, (60 : UInt8).toNat, 1) = true := rfl
          rw [scan, if_pos h1, h2]
          refine ⟨?_, ?_⟩
          · show pz s ((off, (60 : UInt8).toNat, 1) :: scan s b (off + 1)) (-1) acc = _
            rw [pz_open s off (60 : UInt8).toNat 1 _ (-1) acc (by decide) rfl, e1, scan, if_pos g1, g2]
            show pz s ((off + 1 + (nameB (i : Int)).length, (62 : UInt8).toNat, 1) :: scan s b' (off + 1 + (nameB (i : Int)).length + 1)) (off : Int) acc = _
            rw [pz_key s _ (62 : UInt8).toNat 1 _ (off : Int) acc (by omega) rfl (by rw [hname, k1]; omega), hname, k1, f1, List.append_assoc]
            rfl
          · rw [List.all_cons, w60, Bool.true_and]
            show (scan s b (off + 1)).all whole = true
            rw [e3, scan, if_pos g1, g2, List.all_cons, w62, Bool.true_and]
            exact f2
theorem parse_print (l : List Int) (hl : l.length ≤ 256) (hm : l.all mayZ = true) : parseZ ⟨(l.flatMap writB).toArray⟩ = (l, 0) := by
  obtain ⟨h1, h2⟩ := parse_run ⟨(l.flatMap writB).toArray⟩ l 0 (⟨(l.flatMap writB).toArray⟩ : ByteArray).size [] hm (by rw [List.drop_zero]) (by omega)
  unfold parseZ
  rw [if_pos h2, h1]
  exact if_neg (by simpa using hl)
theorem keyL_spec : ∀ (c i : Nat) (n : List UInt8), ¬ keyL c i n = 0 → ∃ j : Nat, i ≤ j ∧ j < i + c ∧ keyL c i n = (j : Int) ∧ nameB (j : Int) = n := by
  intro c
  induction c with
  | zero => intro i n h; exact absurd rfl h
  | succ c ih =>
    intro i n h
    have hx : keyL (c + 1) i n = if nameB (i : Int) = n then (i : Int) else keyL c (i + 1) n := rfl
    rw [hx] at h ⊢
    by_cases he : nameB (i : Int) = n
    · rw [if_pos he]
      exact ⟨i, by omega, by omega, rfl, he⟩
    · rw [if_neg he] at h ⊢
      obtain ⟨j, h1, h2, h3, h4⟩ := ih (i + 1) n h
      exact ⟨j, by omega, by omega, h3, h4⟩
theorem keyZ_spec (n : List UInt8) (h : ¬ keyZ n = 0) : nameB (keyZ n) = n ∧ mayZ (keyZ n) = true ∧ ¬ n = [] := by
  have key : ∃ j : Nat, (1 ≤ j ∧ j ≤ 27 ∨ j = 60) ∧ keyZ n = (j : Int) ∧ nameB (j : Int) = n := by
    unfold keyZ at h ⊢
    by_cases hn : n = [108, 116]
    · rw [if_pos hn]
      exact ⟨60, Or.inr rfl, rfl, by rw [hn]; rfl⟩
    · rw [if_neg hn] at h ⊢
      obtain ⟨j, h1, h2, h3, h4⟩ := keyL_spec 27 1 n h
      exact ⟨j, Or.inl ⟨h1, by omega⟩, h3, h4⟩
  obtain ⟨j, hj, e, hn⟩ := key
  obtain ⟨_, _, h3, h4⟩ := names_ok j (by omega) hj
  rw [e]
  exact ⟨hn, h3, by rw [← hn]; exact h4⟩
theorem get_list (s : ByteArray) (j : Nat) (h : j < s.size) : s.data.toList[j]? = some (s.get! j) := by
  rw [list_bytes s, List.getElem?_map, List.getElem?_range h]
  rfl
/-- A whole sign has its rune's bytes. -/
theorem first_enc {m b0 b1 b2 b3 : Nat} (h : (firstOk m b0 b1 b2 b3).2.2 = true) : enc (firstOk m b0 b1 b2 b3).1 = [b0, b1, b2, b3].take (firstOk m b0 b1 b2 b3).2.1 := by
  have key (n : Nat) (hk : okN n b0 b1 b2 b3 = true) : enc (numN n b0 b1 b2 b3) = [b0, b1, b2, b3].take n := by
    simp only [okN, Bool.and_eq_true, beq_iff_eq] at hk
    exact hk.2
  unfold firstOk at h ⊢
  by_cases c1 : okN 1 b0 b1 b2 b3 = true
  · rw [if_pos c1]
    exact key 1 c1
  rw [if_neg c1] at h ⊢
  by_cases c2 : 2 ≤ m ∧ okN 2 b0 b1 b2 b3 = true
  · rw [if_pos c2]
    exact key 2 c2.2
  rw [if_neg c2] at h ⊢
  by_cases c3 : 3 ≤ m ∧ okN 3 b0 b1 b2 b3 = true
  · rw [if_pos c3]
    exact key 3 c3.2
  rw [if_neg c3] at h ⊢
  by_cases c4 : 4 ≤ m ∧ okN 4 b0 b1 b2 b3 = true
  · rw [if_pos c4]
    exact key 4 c4.2
  rw [if_neg c4] at h
  cases h
theorem enc_at {s : ByteArray} {i : Nat} (hi : i < s.size) (h : whole (0, Utf8.decode s i) = true) :
    (enc (Utf8.decode s i).1).map UInt8.ofNat = (s.data.toList.drop i).take (Utf8.decode s i).2 := by
  have b0 := gb_lt s i
  have b1 := gb_lt s (i + 1)
  have b2 := gb_lt s (i + 2)
  have b3 := gb_lt s (i + 3)
  have hd : Utf8.decode s i = Lib.decodeN (s.size - i) (gb s i) (gb s (i + 1)) (gb s (i + 2)) (gb s (i + 3)) := Lib.decode_at s i
  have hf := first_decode (m := s.size - i) b0 b1 b2 b3
  rw [← hd] at hf
  have h1 := congrArg (fun x : Nat × Nat × Bool => x.1) hf
  have h2 := congrArg (fun x : Nat × Nat × Bool => x.2.1) hf
  have h3 := congrArg (fun x : Nat × Nat × Bool => x.2.2) hf
  simp only at h1 h2 h3
  have he := first_enc (m := s.size - i) (h3.trans h)
  rw [h1, h2] at he
  have hw := width_fits s i hi
  have h4 := width_le4 s i
  clear hf h1 h2 h3 hd
  rw [he]
  generalize (Utf8.decode s i).2 = w at *
  have g0 (j : Nat) : UInt8.ofNat (gb s j) = s.get! j := by unfold gb; exact UInt8.ofNat_toNat
  apply List.ext_getElem?
  intro t
  rw [List.getElem?_map, List.getElem?_take, List.getElem?_take]
  by_cases ht : t < w
  · rw [if_pos ht, if_pos ht, List.getElem?_drop, get_list s (i + t) (by omega)]
    rcases (by omega : t = 0 ∨ t = 1 ∨ t = 2 ∨ t = 3) with rfl | rfl | rfl | rfl <;> simp [g0]
  · rw [if_neg ht, if_neg ht]
    rfl
/-- A sign of one ASCII number is its byte. -/
theorem dec_ascii {s : ByteArray} {p c : Nat} (hp : p < s.size) (hc : c < 128) (h : (Utf8.decode s p).1 = c) : (Utf8.decode s p).2 = 1 ∧ s.data.toList[p]? = some (UInt8.ofNat c) := by
  have hd : Utf8.decode s p = Lib.decodeN (s.size - p) (gb s p) (gb s (p + 1)) (gb s (p + 2)) (gb s (p + 3)) := Lib.decode_at s p
  rw [hd] at h ⊢
  have key : (Lib.decodeN (s.size - p) (gb s p) (gb s (p + 1)) (gb s (p + 2)) (gb s (p + 3))) = (gb s p, 1) → gb s p = c ∧ (Lib.decodeN (s.size - p) (gb s p) (gb s (p + 1)) (gb s (p + 2)) (gb s (p + 3))).2 = 1 := fun e => by
    rw [e] at h ⊢
    exact ⟨h, rfl⟩
  rcases decN_shape (s.size - p) (gb s p) (gb s (p + 1)) (gb s (p + 2)) (gb s (p + 3)) with ⟨h0, e⟩ | ⟨_, _, _, hv, e⟩ | ⟨_, _, _, _, hv, _, e⟩ | ⟨_, _, _, _, _, hv, _, e⟩ | e
  · obtain ⟨k1, k2⟩ := key e
    refine ⟨k2, ?_⟩
    rw [get_list s p hp, ← k1]
    unfold gb
    rw [UInt8.ofNat_toNat]
  · rw [e] at h
    simp only at h
    omega
  · rw [e] at h
    simp only at h
    omega
  · rw [e] at h
    simp only at h
    omega
  · rw [e] at h
    simp only at h
    omega
theorem take_more (l : List UInt8) (p w : Nat) : l.take (p + w) = l.take p ++ (l.drop p).take w := by rw [List.take_add]
theorem back_run (s : ByteArray) : ∀ (b p : Nat) (o : Int) (acc m : List Int), (scan s b p).all whole = true → s.size ≤ p + b → p ≤ s.size → pz s (scan s b p) o acc = some m → acc.all mayZ = true →
    (¬ o ≥ 0 → acc.flatMap writB = s.data.toList.take p) → (o ≥ 0 → acc.flatMap writB = s.data.toList.take o.toNat ∧ s.data.toList[o.toNat]? = some 60 ∧ o.toNat + 1 ≤ p) → m.all mayZ = true ∧ m.flatMap writB = s.data.toList := by
  intro b
  induction b with
  | zero =>
    intro p o acc m _ h1 h2 h3 h4 h5 h6
    have hs : scan s 0 p = [] := rfl
    rw [hs] at h3
    by_cases ho : o ≥ 0
    · rw [pz_nilO s o acc ho] at h3
      cases h3
    · rw [pz_nil s o acc ho] at h3
      cases h3
      rw [h5 ho, List.take_of_length_le (by rw [← size_list]; omega)]
      exact ⟨h4, rfl⟩
  | succ b ih =>
    intro p o acc m hw h1 h2 h3 h4 h5 h6
    by_cases hp : p < s.size
    · have hfit := width_fits s p hp
      rw [scan, if_pos hp, List.all_cons, Bool.and_eq_true] at hw
      rw [scan, if_pos hp] at h3
      obtain ⟨hw1, hw2⟩ := hw
      have hwp : whole (0, Utf8.decode s p) = true := hw1
      have hstep := take_more s.data.toList p (Utf8.decode s p).2
      have hpos := width_pos s p hp
      obtain ⟨r, hr⟩ : ∃ r, (Utf8.decode s p).1 = r := ⟨_, rfl⟩
      by_cases ho : o ≥ 0
      · obtain ⟨g1, g2, g3⟩ := h6 ho
        by_cases h62 : r = 62
        · obtain ⟨e1, e2⟩ := dec_ascii hp (by decide : 62 < 128) (hr.trans h62)
          by_cases hk : keyZ (s.extract (o + 1).toNat p).data.toList = 0
          · rw [pz_key0 s p _ _ _ o acc ho (by rw [hr, h62]; rfl) hk] at h3
            cases h3
          · rw [pz_key s p _ _ _ o acc ho (by rw [hr, h62]; rfl) hk] at h3
            obtain ⟨n1, n2, n3⟩ := keyZ_spec _ hk
            rw [e1] at hw2 h3 hfit
            refine ih (p + 1) (-1) _ m hw2 (by omega) (by omega) h3 (by rw [List.all_append, h4, Bool.true_and, List.all_cons, n2]; rfl) (fun _ => ?_) (fun h => absurd h (by decide))
            have hwr : writB (keyZ (s.extract (o + 1).toNat p).data.toList) = 60 :: (s.extract (o + 1).toNat p).data.toList ++ [62] := by unfold writB; rw [n1, if_neg n3]
            rw [List.flatMap_append, g1, List.flatMap_cons, List.flatMap_nil, List.append_nil, hwr, ext_list]
            obtain ⟨q, hq⟩ : ∃ q : Nat, o = (q : Int) := ⟨o.toNat, by omega⟩
            subst hq
            rw [Int.toNat_natCast] at g2 g3 ⊢
            rw [show ((q : Int) + 1).toNat = q + 1 by omega]
            have ql : q < s.data.toList.length := by rw [← size_list]; omega
            have pl : p < s.data.toList.length := by rw [← size_list]; omega
            have hsplit : s.data.toList.take (p + 1) = s.data.toList.take q ++ (s.data.toList.drop q).take (p + 1 - q) := by
              rw [← take_more, show q + (p + 1 - q) = p + 1 by omega]
            rw [hsplit, List.drop_eq_getElem_cons ql, show p + 1 - q = (p - (q + 1) + 1) + 1 by omega, List.take_succ_cons, take_more (s.data.toList.drop (q + 1))]
            have hq60 : s.data.toList[q] = 60 := by rw [List.getElem?_eq_getElem ql] at g2; exact Option.some.inj g2
            have hp62 : s.data.toList[p] = 62 := by rw [List.getElem?_eq_getElem pl] at e2; exact Option.some.inj e2
            have hd1 : (List.drop (p - (q + 1)) (s.data.toList.drop (q + 1))).take 1 = [62] := by
              rw [List.drop_drop, show q + 1 + (p - (q + 1)) = p by omega, List.drop_eq_getElem_cons pl, List.take_succ_cons, List.take_zero, hp62]
            rw [hd1, hq60]
            rfl
        · rw [pz_in s p _ _ _ o acc ho (by rw [hr]; omega)] at h3
          exact ih (p + (Utf8.decode s p).2) o acc m hw2 (by omega) hfit h3 h4 (fun h => absurd ho h) (fun _ => ⟨g1, g2, by omega⟩)
      · have g1 := h5 ho
        by_cases h60 : r = 60
        · obtain ⟨e1, e2⟩ := dec_ascii hp (by decide : 60 < 128) (hr.trans h60)
          rw [pz_open s p _ _ _ o acc ho (by rw [hr, h60]; rfl)] at h3
          rw [e1] at hw2 h3 hfit
          exact ih (p + 1) (p : Int) acc m hw2 (by omega) (by omega) h3 h4 (fun h => absurd (by omega) h) (fun _ => by rw [Int.toNat_natCast]; exact ⟨g1, e2, by omega⟩)
        · by_cases hbad : (r : Int) < 32 ∨ mayZ (r : Int) = false
          · rw [pz_bad s p _ _ _ o acc ho (by rw [hr]; omega) (by rw [hr]; exact hbad)] at h3
            cases h3
          · have hb1 : ¬ (r : Int) < 32 := fun h => hbad (Or.inl h)
            have hb2 : mayZ (r : Int) = true := by
              cases hh : mayZ (r : Int) with
              | true => rfl
              | false => exact absurd (Or.inr hh) hbad
            rw [pz_sign s p _ _ _ o acc ho (by rw [hr]; omega) (by rw [hr]; exact hb1) (by rw [hr]; exact hb2)] at h3
            rw [hr] at h3
            refine ih (p + (Utf8.decode s p).2) (-1) _ m hw2 (by omega) hfit h3 (by rw [List.all_append, h4, Bool.true_and, List.all_cons, hb2]; rfl) (fun _ => ?_) (fun h => absurd h (by decide))
            have hn : nameB (r : Int) = [] := by
              unfold nameB
              rw [if_neg (by omega), if_neg (by omega), if_neg (by omega), if_neg (by omega), if_neg (by omega), if_neg (by omega)]
            have hv := may_valid hb2
            have hfx : fixR (r : Int) = r := by
              simp only [validZ, decide_eq_true_eq] at hv
              have : Utf8.valid (r : Int) = true := by
                simp only [Utf8.valid, Bool.or_eq_true, Bool.and_eq_true, decide_eq_true_eq]
                omega
              unfold fixR
              rw [if_pos this, Int.toNat_natCast]
            have hwr : writB (r : Int) = (s.data.toList.drop p).take (Utf8.decode s p).2 := by
              unfold writB
              rw [if_pos hn, encode_eq, hfx, ← hr]
              exact enc_at hp hwp
            rw [List.flatMap_append, g1, List.flatMap_cons, List.flatMap_nil, List.append_nil, hwr, hstep]
    · rw [scan_end s (b + 1) p hp] at h3
      by_cases ho : o ≥ 0
      · rw [pz_nilO s o acc ho] at h3
        cases h3
      · rw [pz_nil s o acc ho] at h3
        cases h3
        rw [h5 ho, List.take_of_length_le (by rw [← size_list]; omega)]
        exact ⟨h4, rfl⟩
theorem print_parse (s : ByteArray) (h : (parseZ s).2 = 0) : (printZ (parseZ s).1).2 = 0 ∧ (printZ (parseZ s).1).1.data.toList = s.data.toList := by
  unfold parseZ at h ⊢
  by_cases hw : (scan s s.size 0).all whole = true
  · rw [if_pos hw] at h ⊢
    cases hp : pz s (scan s s.size 0) (-1) [] with
    | none =>
      rw [hp] at h
      cases h
    | some m =>
      rw [hp] at h
      simp only at h ⊢
      by_cases hl : m.length > 256
      · rw [if_pos hl] at h
        cases h
      · rw [if_neg hl]
        obtain ⟨h1, h2⟩ := back_run s s.size 0 (-1) [] m hw (by omega) (by omega) hp rfl (fun _ => by simp) (fun h => absurd h (by decide))
        unfold printZ
        rw [if_neg hl, if_pos h1]
        exact ⟨rfl, h2⟩
  · rw [if_neg hw] at h
    cases h
theorem r02may (r : Int) (h : 32 ≤ r) : bureauref02_May.f r = some (validZ r) := by
  unfold bureauref02_May.f validZ
  rw [if_pos (by omega)]
  by_cases h1 : r ≤ 1114111
  · rw [if_pos h1]
    by_cases h2 : r < 55296
    · rw [if_pos h2, decide_eq_true (by omega)]
    · rw [if_neg h2]
      congr 1
      rw [Bool.eq_iff_iff]
      simp only [decide_eq_true_eq]
      omega
  · rw [if_neg h1, decide_eq_false (by omega)]
theorem rmay_eq (r : Int) : bureauref10_May.f r = some (mayZ r) := by
  unfold bureauref10_May.f mayZ
  by_cases h1 : r ≥ 1
  · rw [if_pos h1]
    by_cases h2 : r ≤ 27
    · rw [if_pos h2, decide_eq_true (show 1 ≤ r ∧ r ≤ 27 from ⟨h1, h2⟩), Bool.true_or]
    · rw [if_neg h2, decide_eq_false (fun h : 1 ≤ r ∧ r ≤ 27 => h2 h.2), Bool.false_or]
      by_cases h3 : r ≥ 32
      · rw [if_pos h3, decide_eq_true (show 32 ≤ r from h3), Bool.true_and]
        by_cases h4 : r = 127
        · rw [if_pos h4]
          simp [h4]
        · rw [if_neg h4, r02may r h3]
          simp [h4]
      · rw [if_neg h3, decide_eq_false (show ¬ 32 ≤ r from h3), Bool.false_and]
  · rw [if_neg h1, decide_eq_false (fun h : 1 ≤ r ∧ r ≤ 27 => h1 h.1), Bool.false_or]
    rw [if_neg (by omega), decide_eq_false (show ¬ 32 ≤ r by omega), Bool.false_and]
theorem nameB_big {r : Int} (h : 32 ≤ r) (h60 : r ≠ 60) : nameB r = [] := by
  unfold nameB
  rw [if_neg (by omega), if_neg (by omega), if_neg (by omega), if_neg (by omega), if_neg h60, if_neg (by omega)]
theorem wr_small (a : Int) (h0 : 1 ≤ a) (h1 : a < 32) : strOfNums [(wrap64 ((wrap64 (97 + a)) - 1)) % 256] = ⟨#[UInt8.ofNat (96 + a).toNat]⟩ := by
  have e1 : wrap64 (97 + a) = 97 + a := wrapZ _ (by omega) (by omega)
  have e2 : wrap64 (97 + a - 1) = 96 + a := by rw [wrapZ _ (by omega) (by omega)]; omega
  have e3 : (96 + a) % 256 = 96 + a := by omega
  rw [e1, e2, e3]
  rfl
theorem rwritten_eq {r : Int} (h : mayZ r = true) : ∃ x, bureauref10_Written.f r = some x ∧ x.data.toList = writB r := by
  have hb := may_bounds h
  have hv := may_valid h
  unfold bureauref10_Written.f
  by_cases h27 : r = 27
  · rw [if_pos h27]
    exact ⟨_, rfl, by rw [h27]; rfl⟩
  rw [if_neg h27]
  by_cases h13 : r = 13
  · rw [if_pos h13]
    exact ⟨_, rfl, by rw [h13]; rfl⟩
  rw [if_neg h13]
  by_cases h8 : r = 8
  · rw [if_pos h8]
    exact ⟨_, rfl, by rw [h8]; rfl⟩
  rw [if_neg h8]
  by_cases h9 : r = 9
  · rw [if_pos h9]
    exact ⟨_, rfl, by rw [h9]; rfl⟩
  rw [if_neg h9]
  by_cases h60 : r = 60
  · rw [if_pos h60]
    exact ⟨_, rfl, by rw [h60]; rfl⟩
  rw [if_neg h60]
  by_cases h32 : r < 32
  · have hn : nameB r = [67, 45, UInt8.ofNat (96 + r).toNat] := by unfold nameB; rw [if_neg h27, if_neg h13, if_neg h8, if_neg h9, if_neg h60, if_pos h32]
    rw [if_pos h32, Option.bind_some, wr_small r hb.1 h32, if_pos (by exact (by decide : 3 + 1 ≤ 9223372036854775807)), if_pos (by rw [ByteArray.size_append]; exact (by decide : 3 + 1 + 1 ≤ 9223372036854775807))]
    refine ⟨_, rfl, ?_⟩
    unfold writB
    rw [hn, if_neg (by simp)]
    rfl
  · have hn : nameB r = [] := nameB_big (by omega) h60
    obtain ⟨n, rfl⟩ : ∃ n : Nat, r = (n : Int) := ⟨r.toNat, by omega⟩
    rw [if_neg h32, bytes_eq (r := n) (by omega), Option.bind_some]
    refine ⟨_, rfl, ?_⟩
    unfold writB
    rw [if_pos hn, encode_eq]
    have hf : fixR (n : Int) = n := by
      simp only [validZ, decide_eq_true_eq] at hv
      have : Utf8.valid (n : Int) = true := by
        simp only [Utf8.valid, Bool.or_eq_true, Bool.and_eq_true, decide_eq_true_eq]
        omega
      unfold fixR
      rw [if_pos this, Int.toNat_natCast]
    rw [hf]
theorem rd_nat (xs : List Int) (i : Nat) (h : i < xs.length) : rd xs (i : Int) = xs[i] := by
  unfold rd
  rw [Int.toNat_natCast, List.getD_eq_getElem?_getD, List.getElem?_eq_getElem h]
  rfl
theorem rd_natS (xs : List Int) (i : Nat) (h : i < xs.length) : rd xs (i : Int) = xs[i] := by
  unfold rd
  rw [Int.toNat_natCast, List.getD_eq_getElem?_getD, List.getElem?_eq_getElem h]
  rfl
theorem same_loop (xs : List Int) (hx : xs.length < 1000000) : ∀ (n k i : Nat), xs.length ≤ i + n → bureauref10_Same.l0 (n + k + 1) xs xs (i : Int) = some true := by
  intro n
  induction n with
  | zero =>
    intro k i h
    rw [show (0 + k + 1 : Nat) = k + 1 by omega, bureauref10_Same.l0, if_neg (by omega)]
  | succ n ih =>
    intro k i h
    rw [show (n + 1 + k + 1 : Nat) = (n + k + 1) + 1 by omega, bureauref10_Same.l0]
    by_cases hc : i < xs.length
    · rw [if_pos (by omega), if_pos (by omega), if_pos (by omega), if_pos rfl]
      have hw : wrap64 ((i : Int) + 1) = ((i + 1 : Nat) : Int) := by rw [wrapZ _ (by omega) (by omega)]; omega
      rw [hw, ih k _ (by omega)]
    · rw [if_neg (by omega)]
theorem same_eq (xs : List Int) (n k : Nat) (hx : xs.length < 1000000) (hn : xs.length ≤ n) : bureauref10_Same.f (n + k + 1) xs xs = some true := by
  unfold bureauref10_Same.f
  rw [if_pos rfl, show (0 : Int) = ((0 : Nat) : Int) from rfl]
  exact same_loop xs hx n k 0 (by omega)
/-- One text begins with another one. -/
def Pre (y l : List UInt8) : Prop := y.length ≤ l.length ∧ l.take y.length = y
theorem Pre.rest {y l : List UInt8} (h : Pre y l) : l = y ++ l.drop y.length := by
  have := List.take_append_drop y.length l
  rw [h.2] at this
  exact this.symm
theorem Pre.of {y rest : List UInt8} : Pre y (y ++ rest) := ⟨by rw [List.length_append]; omega, by rw [List.take_left']; rfl⟩
theorem begins_eq' (x y : ByteArray) : ∃ t : Bool, bureauref10_begins.f x y = some t ∧ (t = true ↔ Pre y.data.toList x.data.toList) := by
  unfold bureauref10_begins.f
  have h1 := size_list x
  have h2 := size_list y
  by_cases hs : (x.size : Int) ≥ (y.size : Int)
  · rw [if_pos hs, if_pos (by omega), if_pos (by omega)]
    refine ⟨_, rfl, ?_⟩
    rw [Int.toNat_natCast, ByteArray.toList_eq, ByteArray.toList_eq, ext_list, List.drop_zero, Nat.sub_zero, beq_iff_eq, h2]
    exact ⟨fun h => ⟨by omega, h⟩, fun h => h.2⟩
  · rw [if_neg hs]
    exact ⟨false, rfl, by
      constructor
      · intro h; cases h
      · intro h
        have := h.1
        omega⟩
theorem named_step (s : ByteArray) (p b : Nat) (acc : List Int) (i : Nat) (hi : i < 61) (hi2 : 1 ≤ i ∧ i ≤ 27 ∨ i = 60) (rest : List UInt8) (h : s.data.toList.drop p = writB (i : Int) ++ rest) (hb : s.size ≤ p + b) :
    ∃ b', pz s (scan s b p) (-1) acc = pz s (scan s b' (p + (writB (i : Int)).length)) (-1) (acc ++ [(i : Int)]) ∧ s.size ≤ p + (writB (i : Int)).length + b' ∧ (scan s b p).all whole = (scan s b' (p + (writB (i : Int)).length)).all whole ∧ p + (writB (i : Int)).length ≤ s.size := by
  obtain ⟨k1, k2, k3, k4⟩ := names_ok i hi hi2
  have hw : writB (i : Int) = 60 :: nameB (i : Int) ++ [62] := by unfold writB; rw [if_neg k4]
  have hlen : (writB (i : Int)).length = (nameB (i : Int)).length + 2 := by rw [hw]; simp
  rw [hlen]
  rw [hw, List.cons_append, List.cons_append, List.append_assoc] at h
  obtain ⟨h1, h2, h3⟩ := ascii_at (by decide) h
  cases b with
  | zero => omega
  | succ b =>
    obtain ⟨b', e1, e2, e3, e4⟩ := open_run s (p : Int) (by omega) acc (nameB (i : Int)) (p + 1) b _ k2 h3 (by omega)
    obtain ⟨g1, g2, g3⟩ := ascii_at (c := 62) (by decide) e4
    have hname : (s.extract ((p : Int) + 1).toNat (p + 1 + (nameB (i : Int)).length)).data.toList = nameB (i : Int) := by
      rw [ext_list, show ((p : Int) + 1).toNat = p + 1 by omega, h3, Nat.add_sub_cancel_left, List.take_left']
      rfl
    cases b' with
    | zero => omega
    | succ b' =>
      have w62 : whole (p + 1 + (nameB (i : Int)).length, (62 : UInt8).toNat, 1) = true := rfl
      have w60 : whole (p, (60 : UInt8).toNat, 1) = true := rfl
      rw [show p + ((nameB (i : Int)).length + 2) = p + 1 + (nameB (i : Int)).length + 1 by omega]
      rw [scan, if_pos h1, h2]
      refine ⟨b', ?_, by omega, ?_, by omega⟩
      · show pz s ((p, (60 : UInt8).toNat, 1) :: scan s b (p + 1)) (-1) acc = _
        rw [pz_open s p (60 : UInt8).toNat 1 _ (-1) acc (by decide) rfl, e1, scan, if_pos g1, g2]
        show pz s ((p + 1 + (nameB (i : Int)).length, (62 : UInt8).toNat, 1) :: scan s b' (p + 1 + (nameB (i : Int)).length + 1)) (p : Int) acc = _
        rw [pz_key s _ (62 : UInt8).toNat 1 _ (p : Int) acc (by omega) rfl (by rw [hname, k1]; omega), hname, k1]
      · rw [List.all_cons, w60, Bool.true_and]
        show (scan s b (p + 1)).all whole = _
        rw [e3, scan, if_pos g1, g2, List.all_cons, w62, Bool.true_and]
theorem keyZ_named (n : List UInt8) (h : ¬ keyZ n = 0) : ∃ j : Nat, j < 61 ∧ (1 ≤ j ∧ j ≤ 27 ∨ j = 60) ∧ nameB (j : Int) = n := by
  unfold keyZ at h
  by_cases hn : n = [108, 116]
  · exact ⟨60, by decide, Or.inr rfl, by rw [hn]; rfl⟩
  · rw [if_neg hn] at h
    obtain ⟨j, h1, h2, h3, h4⟩ := keyL_spec 27 1 n h
    exact ⟨j, by omega, Or.inl ⟨h1, by omega⟩, h4⟩
theorem open_fail (s : ByteArray) (q : Nat) (acc : List Int) (h60 : s.data.toList[q]? = some 60) (H : ∀ j : Nat, j < 61 → (1 ≤ j ∧ j ≤ 27 ∨ j = 60) → ¬ Pre (writB (j : Int)) (s.data.toList.drop q)) : ∀ (b p : Nat), q + 1 ≤ p → s.size ≤ p + b → pz s (scan s b p) (q : Int) acc = none := by
  intro b
  induction b with
  | zero =>
    intro p hq hb
    have hs : scan s 0 p = [] := rfl
    rw [hs, pz_nilO s _ acc (by omega)]
  | succ b ih =>
    intro p hq hb
    by_cases hp : p < s.size
    · have hpos := width_pos s p hp
      obtain ⟨r, hr⟩ : ∃ r, (Utf8.decode s p).1 = r := ⟨_, rfl⟩
      rw [scan, if_pos hp]
      by_cases h62 : r = 62
      · obtain ⟨e1, e2⟩ := dec_ascii hp (by decide : 62 < 128) (hr.trans h62)
        by_cases hk : keyZ (s.extract ((q : Int) + 1).toNat p).data.toList = 0
        · rw [pz_key0 s p _ _ _ _ acc (by omega) (by rw [hr, h62]; rfl) hk]
        · exfalso
          obtain ⟨j, hj, hj2, hn⟩ := keyZ_named _ hk
          apply H j hj hj2
          have k4 := (names_ok j hj hj2).2.2.2
          have hw : writB (j : Int) = 60 :: (s.extract ((q : Int) + 1).toNat p).data.toList ++ [62] := by unfold writB; rw [if_neg k4, hn]
          rw [hw, ext_list, show ((q : Int) + 1).toNat = q + 1 by omega]
          have ql : q < s.data.toList.length := by rw [← size_list]; omega
          have pl : p < s.data.toList.length := by rw [← size_list]; omega
          have hq60 : s.data.toList[q] = 60 := by rw [List.getElem?_eq_getElem ql] at h60; exact Option.some.inj h60
          have hp62 : s.data.toList[p] = 62 := by rw [List.getElem?_eq_getElem pl] at e2; exact Option.some.inj e2
          have hd : s.data.toList.drop q = (60 :: (s.data.toList.drop (q + 1)).take (p - (q + 1)) ++ [62]) ++ s.data.toList.drop (p + 1) := by
            rw [List.drop_eq_getElem_cons ql, hq60, List.cons_append, List.cons_append, List.append_assoc]
            congr 1
            have h1 := List.take_append_drop (p - (q + 1)) (s.data.toList.drop (q + 1))
            rw [List.drop_drop, show q + 1 + (p - (q + 1)) = p by omega, List.drop_eq_getElem_cons pl, hp62] at h1
            exact h1.symm
          rw [hd]
          exact Pre.of
      · rw [pz_in s p _ _ _ _ acc (by omega) (by rw [hr]; omega)]
        exact ih (p + (Utf8.decode s p).2) (by omega) (by omega)
    · rw [scan_end s (b + 1) p hp, pz_nilO s _ acc (by omega)]
theorem one_loop (x : ByteArray) (K : Nat) : ∀ (c i : Nat), i + c = 28 → 1 ≤ i →
    (∃ (j : Nat) (y : ByteArray), 1 ≤ j ∧ j ≤ 27 ∧ Pre (writB (j : Int)) x.data.toList ∧ y.data.toList = writB (j : Int) ∧ bureauref10_one.l0 (c + K) x (i : Int) = some ((j : Int), y)) ∨
    ((∀ j : Nat, i ≤ j → j ≤ 27 → ¬ Pre (writB (j : Int)) x.data.toList) ∧ bureauref10_one.l0 (c + K) x (i : Int) = bureauref10_one.l0 K x (28 : Nat)) := by
  intro c
  induction c with
  | zero =>
    intro i hi h1
    right
    rw [show i = 28 by omega, Nat.zero_add]
    exact ⟨fun j h2 h3 => absurd h3 (by omega), rfl⟩
  | succ c ih =>
    intro i hi h1
    have hm : mayZ (i : Int) = true := (names_ok i (by omega) (by omega)).2.2.1
    obtain ⟨y, hy, hyl⟩ := rwritten_eq hm
    obtain ⟨t, ht, hpre⟩ := begins_eq' x y
    have hw : wrap64 ((i : Int) + 1) = ((i + 1 : Nat) : Int) := by rw [wrapZ _ (by omega) (by omega)]; omega
    rw [show c + 1 + K = (c + K) + 1 by omega, bureauref10_one.l0, if_pos (by omega), hy, Option.bind_some, ht, Option.bind_some, Option.bind_some, hw]
    cases t with
    | true =>
      left
      exact ⟨i, y, h1, by omega, by rw [← hyl]; exact hpre.1 rfl, hyl, by rw [if_pos rfl]⟩
    | false =>
      have hno : ¬ Pre (writB (i : Int)) x.data.toList := fun h => by
        have := hpre.2 (by rw [hyl]; exact h)
        cases this
      rw [if_neg (by decide)]
      rcases ih (i + 1) (by omega) (by omega) with h | ⟨h2, h3⟩
      · exact Or.inl h
      · right
        refine ⟨fun j h4 h5 => ?_, h3⟩
        by_cases he : j = i
        · rw [he]
          exact hno
        · exact h2 j (by omega) h5
theorem first_sign (s : ByteArray) (p : Nat) (hp : p < s.size) (hs : s.size < 1000000) (k : Nat) :
    ∃ l, bureauref02_Signs.f (k + 40) ((s.extract p s.size).extract 0 ((mn ((s.extract p s.size).size : Int) 4) : Int).toNat) = some l ∧ 0 < (l.length : Int) ∧ (rd_T62 l 0).f3 = whole (0, Utf8.decode s p) ∧ (rd_T62 l 0).f2 = (((Utf8.decode s p).1 : Nat) : Int) := by
  have hxs : (s.extract p s.size).size = s.size - p := by rw [ByteArray.size_extract]; omega
  obtain ⟨m, hm⟩ : ∃ m, ((mn ((s.extract p s.size).size : Int) 4) : Int).toNat = m := ⟨_, rfl⟩
  have hm2 : m = min (s.size - p) 4 := by rw [← hm, hxs]; unfold mn; omega
  rw [hm]
  obtain ⟨z, hz⟩ : ∃ z, (s.extract p s.size).extract 0 m = z := ⟨_, rfl⟩
  have hzl : z.data.toList = (s.data.toList.drop p).take m := by
    rw [← hz, ext_list, ext_list, List.drop_zero, Nat.sub_zero, List.take_of_length_le (l := s.data.toList.drop p) (by rw [List.length_drop, ← size_list]; exact Nat.le_refl _)]
  have hzs : z.size = m := by rw [size_list z, hzl, List.length_take, List.length_drop, ← size_list]; omega
  have hgb : ∀ j, j < m → gb z j = gb s (p + j) := by
    intro j hj
    have e1 : z.data.toList[j]? = some (s.get! (p + j)) := by
      rw [hzl, List.getElem?_take, if_pos hj, List.getElem?_drop, get_list s (p + j) (by omega)]
    have e2 := get_list z j (by omega)
    rw [e1] at e2
    unfold gb
    rw [Option.some.inj e2]
  have hd : Utf8.decode z 0 = Utf8.decode s p := by
    have h1 : Utf8.decode z 0 = Lib.decodeN (z.size - 0) (gb z 0) (gb z 1) (gb z 2) (gb z 3) := Lib.decode_at _ _
    have h2 : Utf8.decode s p = Lib.decodeN (s.size - p) (gb s p) (gb s (p + 1)) (gb s (p + 2)) (gb s (p + 3)) := Lib.decode_at _ _
    have h4 := decN_le (s.size - p) (gb s p) (gb s (p + 1)) (gb s (p + 2)) (gb s (p + 3))
    have hf := decN_fits (s.size - p) (gb s p) (gb s (p + 1)) (gb s (p + 2)) (gb s (p + 3)) (by omega)
    have h0 : gb z 0 = gb s p := hgb 0 (by omega)
    rw [h1, h2, hzs, Nat.sub_zero, h0]
    exact decN_cut (by omega) (by omega) (fun h => hgb 1 (by omega)) (fun h => hgb 2 (by omega)) (fun h => hgb 3 (by omega)) (by omega)
  rw [hz]
  have hS := signs_eq z (by omega) (k + 40 - 22 - z.size)
  rw [show z.size + (k + 40 - 22 - z.size) + 22 = k + 40 by omega] at hS
  obtain ⟨c, hc⟩ : ∃ c, z.size = c + 1 := ⟨z.size - 1, by omega⟩
  have hsc : scan z z.size 0 = (0, Utf8.decode z 0) :: scan z c (0 + (Utf8.decode z 0).2) := by
    rw [hc, scan, if_pos (by omega)]
  refine ⟨_, hS, ?_, ?_, ?_⟩
  · rw [hsc]
    simp only [List.map_cons, List.length_cons]
    omega
  · rw [hsc, hd]
    rfl
  · rw [hsc, hd]
    rfl
theorem byte60 {s : ByteArray} {p : Nat} (hp : p < s.size) (h : ((gb s p : Nat) : Int) = 60) : s.data.toList[p]? = some 60 ∧ Utf8.decode s p = ((60 : UInt8).toNat, 1) := by
  have hg : s.get! p = 60 := UInt8.toNat_inj.1 (show gb s p = 60 by omega)
  have hL : s.data.toList[p]? = some 60 := by rw [get_list s p hp, hg]
  have hpl : p < s.data.toList.length := by rw [← size_list]; exact hp
  have hdr : s.data.toList.drop p = 60 :: s.data.toList.drop (p + 1) := by
    rw [List.drop_eq_getElem_cons hpl]
    rw [List.getElem?_eq_getElem hpl] at hL
    rw [Option.some.inj hL]
  exact ⟨hL, (ascii_at (c := 60) (by decide) hdr).2.1⟩
theorem byte60' {s : ByteArray} {p : Nat} (hp : p < s.size) (h : (((Utf8.decode s p).1 : Nat) : Int) = 60) : ((gb s p : Nat) : Int) = 60 := by
  have h1 : (Utf8.decode s p).1 = 60 := by
    have h2 : (((Utf8.decode s p).1 : Nat) : Int) = ((60 : Nat) : Int) := h
    exact Int.ofNat.inj h2
  have := (dec_ascii (c := 60) hp (by decide) h1).2
  rw [get_list s p hp] at this
  have h2 : s.get! p = UInt8.ofNat 60 := Option.some.inj this
  unfold gb
  rw [h2]
  rfl
set_option maxHeartbeats 1000000 in
theorem one_step' (s : ByteArray) (p b : Nat) (acc : List Int) (hp : p < s.size) (hs : s.size < 1000000) (hb : s.size ≤ p + b) (k : Nat) :
    ∃ (r : Int) (y : ByteArray), bureauref10_one.f (k + 80) (s.extract p s.size) = some (r, y) ∧
      ((r ≠ 0 ∧ 1 ≤ r ∧ r ≤ 1114111 ∧ 1 ≤ y.size ∧ p + y.size ≤ s.size ∧ ∃ b', s.size ≤ p + y.size + b' ∧ pz s (scan s b p) (-1) acc = pz s (scan s b' (p + y.size)) (-1) (acc ++ [r]) ∧ (scan s b p).all whole = (scan s b' (p + y.size)).all whole) ∨
       (r = 0 ∧ ((scan s b p).all whole = true → pz s (scan s b p) (-1) acc = none))) := by
  have hxl : (s.extract p s.size).data.toList = s.data.toList.drop p := by
    rw [ext_list, List.take_of_length_le (by rw [List.length_drop, ← size_list]; exact Nat.le_refl _)]
  have hxs : (s.extract p s.size).size = s.size - p := by rw [ByteArray.size_extract]; omega
  have named_ok : ∀ (j : Nat) (y : ByteArray), j < 61 → (1 ≤ j ∧ j ≤ 27 ∨ j = 60) → Pre (writB (j : Int)) (s.extract p s.size).data.toList → y.data.toList = writB (j : Int) →
      ((j : Int) ≠ 0 ∧ 1 ≤ (j : Int) ∧ (j : Int) ≤ 1114111 ∧ 1 ≤ y.size ∧ p + y.size ≤ s.size ∧ ∃ b', s.size ≤ p + y.size + b' ∧ pz s (scan s b p) (-1) acc = pz s (scan s b' (p + y.size)) (-1) (acc ++ [(j : Int)]) ∧ (scan s b p).all whole = (scan s b' (p + y.size)).all whole) := by
    intro j y hj hj2 hpre hyl
    rw [hxl] at hpre
    obtain ⟨b', e1, e2, e3, e4⟩ := named_step s p b acc j hj hj2 _ hpre.rest hb
    have hys : y.size = (writB (j : Int)).length := by rw [size_list, hyl]
    have hw1 : 1 ≤ (writB (j : Int)).length := by
      have k4 := (names_ok j hj hj2).2.2.2
      unfold writB
      rw [if_neg k4]
      simp
    rw [hys]
    exact ⟨by omega, by omega, by omega, hw1, e4, b', e2, e1, e3⟩
  unfold bureauref10_one.f
  rcases one_loop (s.extract p s.size) (k + 53) 27 1 rfl (Nat.le_refl _) with ⟨j, y, h1, h2, hpre, hyl, he⟩ | ⟨hno, he⟩
  · rw [show 27 + (k + 53) = k + 80 by omega] at he
    exact ⟨_, y, he, Or.inl (named_ok j y (by omega) (Or.inl ⟨h1, h2⟩) hpre hyl)⟩
  · rw [show 27 + (k + 53) = k + 80 by omega] at he
    have he' : bureauref10_one.l0 (k + 80) (s.extract p s.size) 1 = bureauref10_one.l0 (k + 53) (s.extract p s.size) (28 : Nat) := he
    rw [he', bureauref10_one.l0, if_neg (by omega)]
    obtain ⟨y, hy, hyl⟩ := rwritten_eq (r := 60) (by decide)
    obtain ⟨t, ht, hpre⟩ := begins_eq' (s.extract p s.size) y
    rw [hy, Option.bind_some, ht, Option.bind_some, Option.bind_some]
    cases t with
    | true =>
      rw [if_pos rfl]
      exact ⟨_, y, rfl, Or.inl (named_ok 60 y (by decide) (Or.inr rfl) (by have := hpre.1 rfl; rw [hyl] at this; exact this) hyl)⟩
    | false =>
      have hno60 : ¬ Pre (writB (60 : Int)) (s.extract p s.size).data.toList := fun h => by
        have := hpre.2 (by rw [hyl]; exact h)
        cases this
      obtain ⟨l, hl, hl0, hf3, hf2⟩ := first_sign s p hp hs (k + 12)
      rw [show k + 12 + 40 = k + 52 by omega] at hl
      have hmn : mn ((s.extract p s.size).size : Int) 4 ≤ ((s.extract p s.size).size : Int) ∧ 0 ≤ mn ((s.extract p s.size).size : Int) 4 := by unfold mn; omega
      have hg0 : gb (s.extract p s.size) 0 = gb s p := by
        have e1 := get_list (s.extract p s.size) 0 (by omega)
        rw [hxl, List.getElem?_drop, Nat.add_zero, get_list s p hp] at e1
        unfold gb
        rw [Option.some.inj e1]
      have hbt : bt (s.extract p s.size) 0 = ((gb s p : Nat) : Int) := by rw [show (0 : Int) = ((0 : Nat) : Int) from rfl, bt_gb _ 0 (by omega), hg0]
      rw [if_neg (by decide), if_pos hmn.2, if_pos hmn.1, hl, Option.bind_some, if_pos hl0, if_pos (by omega), hbt, hf3, hf2]
      obtain ⟨c, rfl⟩ : ∃ c, b = c + 1 := ⟨b - 1, by omega⟩
      by_cases h60 : ((gb s p : Nat) : Int) = 60
      · rw [if_pos h60]
        refine ⟨0, _, rfl, Or.inr ⟨rfl, fun _ => ?_⟩⟩
        obtain ⟨hL, a2⟩ := byte60 hp h60
        rw [scan, if_pos hp, a2]
        show pz s ((p, (60 : UInt8).toNat, 1) :: scan s c (p + 1)) (-1) acc = none
        rw [pz_open s p (60 : UInt8).toNat 1 _ (-1) acc (by decide) rfl]
        refine open_fail s p acc hL (fun j hj hj2 => ?_) c (p + 1) (Nat.le_refl _) (by omega)
        rw [← hxl]
        rcases hj2 with ⟨h1, h2⟩ | h1
        · exact hno j h1 h2
        · rw [h1]
          exact hno60
      · rw [if_neg h60]
        have hr60 : ¬ (((Utf8.decode s p).1 : Nat) : Int) = 60 := by
          intro h
          exact h60 (byte60' hp h)
        rw [scan, if_pos hp]
        cases hwh : whole (0, Utf8.decode s p) with
        | false =>
          rw [if_neg (by decide)]
          refine ⟨0, _, rfl, Or.inr ⟨rfl, fun h => ?_⟩⟩
          rw [List.all_cons, Bool.and_eq_true] at h
          have h2 : whole (0, Utf8.decode s p) = true := h.1
          rw [hwh] at h2
          cases h2
        | true =>
          rw [if_pos rfl, rmay_eq, Option.bind_some]
          cases hm : mayZ (((Utf8.decode s p).1 : Nat) : Int) with
          | false =>
            rw [if_neg (by decide)]
            exact ⟨0, _, rfl, Or.inr ⟨rfl, fun _ => pz_bad s p _ _ _ (-1) acc (by decide) hr60 (Or.inr hm)⟩⟩
          | true =>
            rw [if_pos rfl]
            by_cases h32 : (((Utf8.decode s p).1 : Nat) : Int) < 32
            · rw [if_pos h32]
              exact ⟨0, _, rfl, Or.inr ⟨rfl, fun _ => pz_bad s p _ _ _ (-1) acc (by decide) hr60 (Or.inl h32)⟩⟩
            · rw [if_neg h32]
              obtain ⟨v, hv, hvl⟩ := rwritten_eq hm
              have hbd := may_bounds hm
              have hval := may_valid hm
              have hn := nameB_big (r := (((Utf8.decode s p).1 : Nat) : Int)) (by omega) hr60
              have hfx : fixR (((Utf8.decode s p).1 : Nat) : Int) = (Utf8.decode s p).1 := by
                simp only [validZ, decide_eq_true_eq] at hval
                have : Utf8.valid (((Utf8.decode s p).1 : Nat) : Int) = true := by
                  simp only [Utf8.valid, Bool.or_eq_true, Bool.and_eq_true, decide_eq_true_eq]
                  omega
                unfold fixR
                rw [if_pos this, Int.toNat_natCast]
              have hwr : writB (((Utf8.decode s p).1 : Nat) : Int) = (s.data.toList.drop p).take (Utf8.decode s p).2 := by
                unfold writB
                rw [if_pos hn, encode_eq, hfx]
                exact enc_at hp hwh
              have hfit := width_fits s p hp
              have hpos := width_pos s p hp
              have hvs : v.size = (Utf8.decode s p).2 := by rw [size_list, hvl, hwr, List.length_take, List.length_drop, ← size_list]; omega
              rw [hv, Option.bind_some]
              refine ⟨_, v, rfl, Or.inl ⟨by omega, by omega, by omega, by omega, by omega, c, by omega, ?_, ?_⟩⟩
              · rw [pz_sign s p _ _ _ (-1) acc (by decide) hr60 h32 hm, hvs]
              · rw [List.all_cons, hvs]
                show (whole (0, Utf8.decode s p) && _) = _
                rw [hwh, Bool.true_and]
theorem rparse_run (s : ByteArray) (hs : s.size < 100000) : ∀ (d p b k : Nat) (acc : List Int), p + d = s.size → s.size ≤ p + b → acc.length ≤ p →
    bureauref10_Parse.l0 (d + k + 81) s acc (p : Int) = some (if (scan s b p).all whole = true then (match pz s (scan s b p) (-1) acc with | none => (([] : List Int), (5 : Int)) | some m => if m.length > 256 then ([], 3) else (m, 0)) else ([], 5)) := by
  intro d
  induction d using Nat.strongRecOn with
  | _ d ih =>
    intro p b k acc hd hb ha
    rw [show d + k + 81 = (d + k + 80) + 1 by omega, bureauref10_Parse.l0]
    by_cases hp : p < s.size
    · obtain ⟨r, y, ho, hcase⟩ := one_step' s p b acc hp (by omega) hb (d + k)
      have hlen : acc.length < 35184372088832 := by omega
      rw [if_pos (by omega), if_pos (by omega), if_pos (by omega), Int.toNat_natCast, ho, Option.bind_some]
      rcases hcase with ⟨hr0, hr1, hr2, hy1, hy2, b', e1, e2, e3⟩ | ⟨hr0, hz⟩
      · have hw32 : wrap32 r = r := wrap32s _ (by omega) (by omega)
        have hw64 : wrap64 ((p : Int) + (y.size : Int)) = ((p + y.size : Nat) : Int) := by rw [wrapZ _ (by omega) (by omega)]; omega
        simp only []
        rw [if_neg hr0, if_pos hlen, hw32, hw64]
        have hi := ih (d - y.size) (by omega) (p + y.size) b' (k + y.size - 1) (acc ++ [r]) (by omega) e1 (by rw [List.length_append]; simp only [List.length_cons, List.length_nil]; omega)
        rw [show d - y.size + (k + y.size - 1) + 81 = d + k + 80 by omega] at hi
        rw [hi, e2, e3]
      · simp only []
        rw [if_pos hr0]
        by_cases hw : (scan s b p).all whole = true
        · rw [if_pos hw, hz hw]
        · rw [if_neg hw]
    · rw [if_neg (by omega), scan_end s b p hp, pz_nil s _ acc (by decide)]
      have hall : ([] : List (Nat × Nat × Nat)).all whole = true := rfl
      rw [if_pos hall]
      simp only []
      by_cases hl : acc.length > 256
      · rw [if_pos (by omega), if_pos hl]
      · rw [if_neg (by omega), if_neg hl]
theorem KeysParses : bureaulaw10_KeysParses.Pure := by
  intro s _
  refine ⟨s.size + 300 + 81, ?_⟩
  unfold bureaulaw10_KeysParses.f
  have hal : bureaulaw10_alive.f (s.size + 300 + 81) = some true := by rw [show s.size + 300 + 81 = (s.size + 361) + 20 by omega]; exact alive_eq _
  rw [hal, Option.bind_some, if_pos rfl]
  by_cases hs : (s.size : Int) > 4096
  · rw [if_pos hs]
  have hp : keys_Parse.f s = some (parseZ s) := by unfold keys_Parse.f; rw [if_pos (by omega)]
  have hr := rparse_run s (by omega) s.size 0 s.size 300 [] (by omega) (by omega) (by simp)
  have hz : bureauref10_Parse.f (s.size + 300 + 81) s = some (parseZ s) := by
    unfold bureauref10_Parse.f parseZ
    exact hr
  have hl : (parseZ s).1.length ≤ 256 := by
    unfold parseZ
    split
    · split
      · simp
      · split
        · simp
        · rename_i h
          simpa using h
    · simp
  rw [if_neg hs, hp, Option.bind_some, hz, Option.bind_some, show s.size + 300 + 81 = 256 + (s.size + 124) + 1 by omega, same_eq (parseZ s).1 256 (s.size + 124) (by omega) hl, Option.bind_some, if_pos rfl]
  simp

end Go.Proofs.YtbbogjecpdebbaaDoor.Pure
