/- Where any motion leads from any place of any bytes, and what it goes over, is the document's: for every text, place and motion. -/
import Derived.Test.YtpajakfmahfpkaaDoorXMoveAllx9
import Derived.Test.YtpajakfmahfpkaaDoorExt12Q
import Derived.OpenShut
set_option linter.unusedVariables false
set_option linter.unusedSimpArgs false
namespace Go.Proofs.YtpajakfmahfpkaaDoor.Pure
open Go.RowKit Go.Proofs.YtpajakfmahfpkaaDoor.XMoveAll Go.Proofs.YtpajakfmahfpkaaDoorW.PrintWords Go.Proofs.YtpajakfmahfpkaaDoorW.PrintMore Go.Proofs.YtpajakfmahfpkaaDoor.Ext

theorem rd_nat (xs : List Int) (i : Nat) (h : i < xs.length) : rd xs (i : Int) = xs[i] := by
  unfold rd
  rw [Int.toNat_natCast, List.getD_eq_getElem?_getD, List.getElem?_eq_getElem h]
  rfl
def whole (x : Nat × Nat × Nat) : Bool := !(x.2.1 == 65533 && x.2.2 == 1)
/-! The numbers' bytes. -/
def enc (r : Nat) : List Nat :=
  if r < 128 then [r] else if r < 2048 then [192 + r / 64, 128 + r % 64] else if r < 65536 then [224 + r / 4096, 128 + r / 64 % 64, 128 + r % 64] else [240 + r / 262144, 128 + r / 4096 % 64, 128 + r / 64 % 64, 128 + r % 64]
def mayN (r : Nat) : Bool := r ≤ 1114111 && (r < 55296 || 57344 ≤ r)
theorem enc_lt {r : Nat} (h : r ≤ 1114111) : ∀ x ∈ enc r, x < 256 := by
  unfold enc
  intro x hx
  split at hx
  · simp only [List.mem_cons, List.not_mem_nil, or_false] at hx
    omega
  split at hx
  · simp only [List.mem_cons, List.not_mem_nil, or_false] at hx
    omega
  split at hx
  · simp only [List.mem_cons, List.not_mem_nil, or_false] at hx
    omega
  · simp only [List.mem_cons, List.not_mem_nil, or_false] at hx
    omega
/-! What the document's 'number' reads, and which so many bytes are a sign. -/
def numN (n b0 b1 b2 b3 : Nat) : Nat :=
  if n = 1 then b0 else if n = 2 then b0 % 32 * 64 + b1 % 64 else if n = 3 then (b0 % 16 * 64 + b1 % 64) * 64 + b2 % 64 else ((b0 % 8 * 64 + b1 % 64) * 64 + b2 % 64) * 64 + b3 % 64
theorem num1 (b0 b1 b2 b3 : Nat) : numN 1 b0 b1 b2 b3 = b0 := rfl
theorem num2 (b0 b1 b2 b3 : Nat) : numN 2 b0 b1 b2 b3 = b0 % 32 * 64 + b1 % 64 := rfl
theorem num3 (b0 b1 b2 b3 : Nat) : numN 3 b0 b1 b2 b3 = (b0 % 16 * 64 + b1 % 64) * 64 + b2 % 64 := rfl
theorem num4 (b0 b1 b2 b3 : Nat) : numN 4 b0 b1 b2 b3 = ((b0 % 8 * 64 + b1 % 64) * 64 + b2 % 64) * 64 + b3 % 64 := rfl
def okN (n b0 b1 b2 b3 : Nat) : Bool := mayN (numN n b0 b1 b2 b3) && enc (numN n b0 b1 b2 b3) == [b0, b1, b2, b3].take n
theorem ok1 {b0 : Nat} (b1 b2 b3 : Nat) (h0 : b0 < 256) : okN 1 b0 b1 b2 b3 = decide (b0 < 128) := by
  unfold okN mayN enc numN
  rw [if_pos rfl, Bool.eq_iff_iff]
  simp only [Bool.and_eq_true, Bool.or_eq_true, decide_eq_true_eq, beq_iff_eq, List.take_succ_cons, List.take_zero]
  constructor
  · rintro ⟨_, h⟩
    split at h
    · assumption
    · exfalso
      split at h
      · simp only [List.cons.injEq] at h
        exact absurd h.2 (by simp)
      split at h
      · simp only [List.cons.injEq] at h
        exact absurd h.2 (by simp)
      · simp only [List.cons.injEq] at h
        exact absurd h.2 (by simp)
  · intro h
    exact ⟨by omega, by rw [if_pos h]⟩
theorem ok2 {b0 b1 : Nat} (b2 b3 : Nat) (h0 : b0 < 256) (h1 : b1 < 256) : okN 2 b0 b1 b2 b3 = decide (b0 / 32 = 6 ∧ b1 / 64 = 2 ∧ 128 ≤ b0 % 32 * 64 + b1 % 64) := by
  unfold okN mayN enc numN
  rw [if_neg (by omega), if_pos rfl, Bool.eq_iff_iff]
  simp only [Bool.and_eq_true, Bool.or_eq_true, decide_eq_true_eq, beq_iff_eq, List.take_succ_cons, List.take_zero]
  generalize hr : b0 % 32 * 64 + b1 % 64 = r
  constructor
  · rintro ⟨_, h⟩
    split at h
    · cases h
    split at h
    · simp only [List.cons.injEq, and_true] at h
      omega
    split at h
    · cases h
    · cases h
  · intro h
    refine ⟨by omega, ?_⟩
    rw [if_neg (by omega), if_pos (by omega)]
    simp only [List.cons.injEq, and_true]
    omega
theorem ok3 {b0 b1 b2 : Nat} (b3 : Nat) (h0 : b0 < 256) (h1 : b1 < 256) (h2 : b2 < 256) : okN 3 b0 b1 b2 b3 =
    decide (b0 / 16 = 14 ∧ b1 / 64 = 2 ∧ b2 / 64 = 2 ∧ 2048 ≤ b0 % 16 * 4096 + b1 % 64 * 64 + b2 % 64 ∧ (b0 % 16 * 4096 + b1 % 64 * 64 + b2 % 64 < 55296 ∨ 57344 ≤ b0 % 16 * 4096 + b1 % 64 * 64 + b2 % 64)) := by
  unfold okN mayN enc numN
  rw [if_neg (by omega), if_neg (by omega), if_pos rfl, Bool.eq_iff_iff]
  simp only [Bool.and_eq_true, Bool.or_eq_true, decide_eq_true_eq, beq_iff_eq, List.take_succ_cons, List.take_zero]
  rw [show (b0 % 16 * 64 + b1 % 64) * 64 + b2 % 64 = b0 % 16 * 4096 + b1 % 64 * 64 + b2 % 64 by omega]
  generalize hr : b0 % 16 * 4096 + b1 % 64 * 64 + b2 % 64 = r
  constructor
  · rintro ⟨_, h⟩
    split at h
    · cases h
    split at h
    · cases h
    split at h
    · simp only [List.cons.injEq, and_true] at h
      omega
    · cases h
  · intro h
    refine ⟨by omega, ?_⟩
    rw [if_neg (by omega), if_neg (by omega), if_pos (by omega)]
    simp only [List.cons.injEq, and_true]
    omega
theorem ok4 {b0 b1 b2 b3 : Nat} (h0 : b0 < 256) (h1 : b1 < 256) (h2 : b2 < 256) (h3 : b3 < 256) : okN 4 b0 b1 b2 b3 =
    decide (b0 / 8 = 30 ∧ b1 / 64 = 2 ∧ b2 / 64 = 2 ∧ b3 / 64 = 2 ∧ 65536 ≤ b0 % 8 * 262144 + b1 % 64 * 4096 + b2 % 64 * 64 + b3 % 64 ∧ b0 % 8 * 262144 + b1 % 64 * 4096 + b2 % 64 * 64 + b3 % 64 ≤ 1114111) := by
  unfold okN mayN enc numN
  rw [if_neg (by omega), if_neg (by omega), if_neg (by omega), Bool.eq_iff_iff]
  simp only [Bool.and_eq_true, Bool.or_eq_true, decide_eq_true_eq, beq_iff_eq, List.take_succ_cons, List.take_zero]
  rw [show ((b0 % 8 * 64 + b1 % 64) * 64 + b2 % 64) * 64 + b3 % 64 = b0 % 8 * 262144 + b1 % 64 * 4096 + b2 % 64 * 64 + b3 % 64 by omega]
  generalize hr : b0 % 8 * 262144 + b1 % 64 * 4096 + b2 % 64 * 64 + b3 % 64 = r
  constructor
  · rintro ⟨_, h⟩
    split at h
    · cases h
    split at h
    · cases h
    split at h
    · cases h
    · simp only [List.cons.injEq, and_true] at h
      omega
  · intro h
    refine ⟨by omega, ?_⟩
    rw [if_neg (by omega), if_neg (by omega), if_neg (by omega)]
    simp only [List.cons.injEq, and_true]
    omega
/-- The model's decoding, by which so many bytes are a sign. -/
def firstOk (m b0 b1 b2 b3 : Nat) : Nat × Nat × Bool :=
  if okN 1 b0 b1 b2 b3 = true then (numN 1 b0 b1 b2 b3, 1, true)
  else if 2 ≤ m ∧ okN 2 b0 b1 b2 b3 = true then (numN 2 b0 b1 b2 b3, 2, true)
  else if 3 ≤ m ∧ okN 3 b0 b1 b2 b3 = true then (numN 3 b0 b1 b2 b3, 3, true)
  else if 4 ≤ m ∧ okN 4 b0 b1 b2 b3 = true then (numN 4 b0 b1 b2 b3, 4, true)
  else (65533, 1, false)
theorem first_decode {m b0 b1 b2 b3 : Nat} (h0 : b0 < 256) (h1 : b1 < 256) (h2 : b2 < 256) (h3 : b3 < 256) :
    firstOk m b0 b1 b2 b3 = ((Lib.decodeN m b0 b1 b2 b3).1, (Lib.decodeN m b0 b1 b2 b3).2, whole (0, Lib.decodeN m b0 b1 b2 b3)) := by
  unfold firstOk
  rw [ok1 b1 b2 b3 h0, ok2 b2 b3 h0 h1, ok3 b3 h0 h1 h2, ok4 h0 h1 h2 h3]
  simp only [decide_eq_true_eq]
  have n1 : numN 1 b0 b1 b2 b3 = b0 := rfl
  have n2 : numN 2 b0 b1 b2 b3 = b0 % 32 * 64 + b1 % 64 := rfl
  have n3 : numN 3 b0 b1 b2 b3 = b0 % 16 * 4096 + b1 % 64 * 64 + b2 % 64 := by unfold numN; rw [if_neg (by omega), if_neg (by omega), if_pos rfl]; omega
  have n4 : numN 4 b0 b1 b2 b3 = b0 % 8 * 262144 + b1 % 64 * 4096 + b2 % 64 * 64 + b3 % 64 := by unfold numN; rw [if_neg (by omega), if_neg (by omega), if_neg (by omega)]; omega
  rw [n1, n2, n3, n4]
  unfold Lib.decodeN
  by_cases c1 : b0 < 128
  · rw [if_pos c1, if_pos c1]
    have : (b0 == 65533) = false := by rw [beq_eq_false_iff_ne]; omega
    simp [whole, this]
  rw [if_neg c1, if_neg c1]
  by_cases c2 : b0 / 32 = 6 ∧ (1 < m ∧ b1 / 64 = 2)
  · rw [if_pos c2]
    by_cases d2 : b0 % 32 * 64 + b1 % 64 ≥ 128
    · rw [if_pos d2, if_pos (by omega)]
      simp [whole]
    · rw [if_neg d2, if_neg (by omega), if_neg (by omega), if_neg (by omega)]
      rfl
  rw [if_neg c2, if_neg (by omega)]
  by_cases c3 : b0 / 16 = 14 ∧ (1 < m ∧ b1 / 64 = 2) ∧ (2 < m ∧ b2 / 64 = 2)
  · rw [if_pos c3]
    by_cases d3 : b0 % 16 * 4096 + b1 % 64 * 64 + b2 % 64 ≥ 2048 ∧ (b0 % 16 * 4096 + b1 % 64 * 64 + b2 % 64 < 55296 ∨ (57344 ≤ b0 % 16 * 4096 + b1 % 64 * 64 + b2 % 64 ∧ b0 % 16 * 4096 + b1 % 64 * 64 + b2 % 64 ≤ 1114111))
    · rw [if_pos d3, if_pos (by omega)]
      simp [whole]
    · rw [if_neg d3, if_neg (by omega), if_neg (by omega)]
      rfl
  rw [if_neg c3, if_neg (by omega)]
  by_cases c4 : b0 / 8 = 30 ∧ (1 < m ∧ b1 / 64 = 2) ∧ (2 < m ∧ b2 / 64 = 2) ∧ (3 < m ∧ b3 / 64 = 2)
  · rw [if_pos c4]
    by_cases d4 : b0 % 8 * 262144 + b1 % 64 * 4096 + b2 % 64 * 64 + b3 % 64 ≥ 65536 ∧ (b0 % 8 * 262144 + b1 % 64 * 4096 + b2 % 64 * 64 + b3 % 64 < 55296 ∨ (57344 ≤ b0 % 8 * 262144 + b1 % 64 * 4096 + b2 % 64 * 64 + b3 % 64 ∧ b0 % 8 * 262144 + b1 % 64 * 4096 + b2 % 64 * 64 + b3 % 64 ≤ 1114111))
    · rw [if_pos d4, if_pos (by omega)]
      simp [whole]
    · rw [if_neg d4, if_neg (by omega)]
      rfl
  rw [if_neg c4, if_neg (by omega)]
  rfl
theorem may_eq (r : Nat) : bureauref02_May.f (r : Int) = some (mayN r) := by
  unfold bureauref02_May.f mayN
  rw [if_pos (Int.natCast_nonneg r)]
  by_cases h1 : r ≤ 1114111
  · rw [if_pos (by omega)]
    by_cases h2 : r < 55296
    · rw [if_pos (by omega)]
      simp [h1, h2]
    · rw [if_neg (by omega)]
      congr 1
      rw [Bool.eq_iff_iff]
      simp only [decide_eq_true_eq, Bool.and_eq_true, Bool.or_eq_true]
      omega
  · rw [if_neg (by omega)]
    simp [h1]
theorem lowK (K : Int) (k x : Nat) (hK : K = (k : Int)) (h : k + x < 256) : UInt8.ofNat (wrap64 (K + (x : Int)) % 256).toNat = UInt8.ofNat (k + x) := by
  congr 1
  unfold wrap64
  omega
theorem lowA (x : Nat) (h : x < 256) : UInt8.ofNat ((x : Int) % 256).toNat = UInt8.ofNat x := by
  congr 1
  omega
theorem l2 {a b a' b' : UInt8} (h1 : a = a') (h2 : b = b') : [a, b] = [a', b'] := by rw [h1, h2]
theorem l3 {a b c a' b' c' : UInt8} (h1 : a = a') (h2 : b = b') (h3 : c = c') : [a, b, c] = [a', b', c'] := by rw [h1, h2, h3]
theorem l4 {a b c d a' b' c' d' : UInt8} (h1 : a = a') (h2 : b = b') (h3 : c = c') (h4 : d = d') : [a, b, c, d] = [a', b', c', d'] := by rw [h1, h2, h3, h4]
theorem bytes_eq {r : Nat} (h : r ≤ 1114111) : bureauref02_Bytes.f (r : Int) = some ⟨((enc r).map UInt8.ofNat).toArray⟩ := by
  have e64 : Int.tdiv (r : Int) 64 = ((r / 64 : Nat) : Int) := rfl
  have e4096 : Int.tdiv (r : Int) 4096 = ((r / 4096 : Nat) : Int) := rfl
  have e262144 : Int.tdiv (r : Int) 262144 = ((r / 262144 : Nat) : Int) := rfl
  have m64 : Int.tmod (r : Int) 64 = ((r % 64 : Nat) : Int) := rfl
  have w1 := wrapN (r / 64) (by omega)
  have w2 := wrapN (r / 4096) (by omega)
  have w3 := wrapN (r / 262144) (by omega)
  have m1 : Int.tmod ((r / 64 : Nat) : Int) 64 = ((r / 64 % 64 : Nat) : Int) := rfl
  have m2 : Int.tmod ((r / 4096 : Nat) : Int) 64 = ((r / 4096 % 64 : Nat) : Int) := rfl
  unfold bureauref02_Bytes.f enc
  rw [e64, e4096, e262144, m64, w1, w2, w3, m1, m2]
  clear e64 e4096 e262144 m64 w1 w2 w3 m1 m2
  by_cases h1 : r < 128
  · rw [if_pos (by omega), if_pos h1]
    simp only [strOfNums, List.map_cons, List.map_nil, lowA r (by omega)]
  rw [if_neg (by omega), if_neg h1]
  by_cases h2 : r < 2048
  · rw [if_pos (by omega), if_pos h2]
    simp only [strOfNums, List.map_cons, List.map_nil]
    exact congrArg (fun l : List UInt8 => some (⟨l.toArray⟩ : ByteArray)) (l2 (lowK 192 192 (r / 64) rfl (by omega)) (lowK 128 128 (r % 64) rfl (by omega)))
  rw [if_neg (by omega), if_neg h2]
  by_cases h3 : r < 65536
  · rw [if_pos (by omega), if_pos h3]
    simp only [strOfNums, List.map_cons, List.map_nil]
    exact congrArg (fun l : List UInt8 => some (⟨l.toArray⟩ : ByteArray)) (l3 (lowK 224 224 (r / 4096) rfl (by omega)) (lowK 128 128 (r / 64 % 64) rfl (by omega)) (lowK 128 128 (r % 64) rfl (by omega)))
  · rw [if_neg (by omega), if_neg h3]
    simp only [strOfNums, List.map_cons, List.map_nil]
    exact congrArg (fun l : List UInt8 => some (⟨l.toArray⟩ : ByteArray)) (l4 (lowK 240 240 (r / 262144) rfl (by omega)) (lowK 128 128 (r / 4096 % 64) rfl (by omega)) (lowK 128 128 (r / 64 % 64) rfl (by omega)) (lowK 128 128 (r % 64) rfl (by omega)))
theorem num_step (k : Nat) (x : ByteArray) (a j : Nat) (hj : j < x.size) (ha : a < 1000000) (hs : x.size < 100) :
    bureauref02_number.l0 (k + 1) x (a : Int) (j : Int) = bureauref02_number.l0 k x ((a * 64 + gb x j % 64 : Nat) : Int) ((j + 1 : Nat) : Int) := by
  have hb := gb_lt x j
  rw [bureauref02_number.l0, if_pos (by omega), if_pos (by omega), bt_gb x j hj, wrapN (gb x j) (by omega)]
  have e : Int.tmod ((gb x j : Nat) : Int) 64 = ((gb x j % 64 : Nat) : Int) := rfl
  rw [e]
  congr 1
  · unfold wrap64
    omega
  · unfold wrap64
    omega
theorem num_end (k : Nat) (x : ByteArray) (a : Int) : bureauref02_number.l0 (k + 1) x a (x.size : Int) = some a := by
  rw [bureauref02_number.l0, if_neg (by omega)]
theorem number_eq (k : Nat) (x : ByteArray) (n : Nat) (hn : x.size = n) (h1 : 1 ≤ n) (h4 : n ≤ 4) :
    bureauref02_number.f (k + 6) x = some ((numN n (gb x 0) (gb x 1) (gb x 2) (gb x 3) : Nat) : Int) := by
  have h0 := gb_lt x 0
  have e0 : wrap64 (bt x 0) = ((gb x 0 : Nat) : Int) := by rw [show (0 : Int) = ((0 : Nat) : Int) from rfl, bt_gb x 0 (by omega), wrapN _ (by omega)]
  unfold bureauref02_number.f
  rw [if_pos (by omega), e0]
  have e32 : Int.tmod ((gb x 0 : Nat) : Int) 32 = ((gb x 0 % 32 : Nat) : Int) := rfl
  have e16 : Int.tmod ((gb x 0 : Nat) : Int) 16 = ((gb x 0 % 16 : Nat) : Int) := rfl
  have e8 : Int.tmod ((gb x 0 : Nat) : Int) 8 = ((gb x 0 % 8 : Nat) : Int) := rfl
  rw [e32, e16, e8]
  have e1 : (1 : Int) = ((1 : Nat) : Int) := rfl
  rcases (by omega : n = 1 ∨ n = 2 ∨ n = 3 ∨ n = 4) with hc | hc | hc | hc
  · rw [if_neg (by omega), if_neg (by omega), if_neg (by omega), bureauref02_number.j0]
    have := num_end (k + 4) x ((gb x 0 : Nat) : Int)
    rw [hn, hc] at this
    rw [e1, this, hc]
    rfl
  · rw [if_pos (by omega), bureauref02_number.j0, e1, num_step _ x _ 1 (by omega) (by omega) (by omega)]
    have := num_end (k + 3) x ((gb x 0 % 32 * 64 + gb x 1 % 64 : Nat) : Int)
    rw [hn, hc] at this
    rw [this, hc]
    rfl
  · rw [if_neg (by omega), if_pos (by omega), bureauref02_number.j0, e1, num_step _ x _ 1 (by omega) (by omega) (by omega), num_step _ x _ 2 (by omega) (by omega) (by omega)]
    have := num_end (k + 2) x (((gb x 0 % 16 * 64 + gb x 1 % 64) * 64 + gb x 2 % 64 : Nat) : Int)
    rw [hn, hc] at this
    rw [this, hc]
    rfl
  · rw [if_neg (by omega), if_neg (by omega), if_pos (by omega), bureauref02_number.j0, e1, num_step _ x _ 1 (by omega) (by omega) (by omega), num_step _ x _ 2 (by omega) (by omega) (by omega), num_step _ x _ 3 (by omega) (by omega) (by omega)]
    have := num_end (k + 1) x ((((gb x 0 % 8 * 64 + gb x 1 % 64) * 64 + gb x 2 % 64) * 64 + gb x 3 % 64 : Nat) : Int)
    rw [hn, hc] at this
    rw [this, hc]
    rfl
/-! 'one': the sign at a place. -/
theorem list_eq_gb {s : ByteArray} {i n r : Nat} (hn : i + n ≤ s.size) (h1 : 1 ≤ n) (h4 : n ≤ 4) (hr : r ≤ 1114111) :
    ((⟨((enc r).map UInt8.ofNat).toArray⟩ : ByteArray).toList = (s.extract i (i + n)).toList) ↔ enc r = [gb s i, gb s (i + 1), gb s (i + 2), gb s (i + 3)].take n := by
  rw [ByteArray.toList_eq, ByteArray.toList_eq, list_bytes (s.extract i (i + n)), size_ext s i n hn]
  have hm : (List.range n).map (fun j => (s.extract i (i + n)).get! j) = ([gb s i, gb s (i + 1), gb s (i + 2), gb s (i + 3)].take n).map UInt8.ofNat := by
    rw [List.map_congr_left (g := fun j => s.get! (i + j)) (fun j hj => get_ext s i n j hn (List.mem_range.1 hj))]
    have g0 (j : Nat) : UInt8.ofNat (gb s j) = s.get! j := by unfold gb; exact UInt8.ofNat_toNat
    rcases (by omega : n = 1 ∨ n = 2 ∨ n = 3 ∨ n = 4) with rfl | rfl | rfl | rfl <;> simp [List.range_succ, g0]
  rw [hm]
  have inj : ∀ (x y : List Nat), (∀ a ∈ x, a < 256) → (∀ a ∈ y, a < 256) → x.map UInt8.ofNat = y.map UInt8.ofNat → x = y := by
    intro x
    induction x with
    | nil => intro y _ _ h; cases y with | nil => rfl | cons a y => cases h
    | cons a x ih =>
      intro y hx hy h
      cases y with
      | nil => cases h
      | cons b y =>
        simp only [List.map_cons, List.cons.injEq] at h
        have hab := congrArg UInt8.toNat h.1
        rw [UInt8.toNat_ofNat', UInt8.toNat_ofNat'] at hab
        have ha := hx a (by simp)
        have hb := hy b (by simp)
        rw [ih y (fun a ha => hx a (by simp [ha])) (fun a ha => hy a (by simp [ha])) h.2]
        congr 1
        omega
  constructor
  · intro h
    refine inj _ _ (enc_lt hr) (fun a ha => ?_) h
    have := List.mem_of_mem_take ha
    simp only [List.mem_cons, List.not_mem_nil, or_false] at this
    have b0 := gb_lt s i
    have b1 := gb_lt s (i + 1)
    have b2 := gb_lt s (i + 2)
    have b3 := gb_lt s (i + 3)
    omega
  · intro h
    rw [h]
theorem one_step (k : Nat) (s : ByteArray) (i n : Nat) (hs : s.size < 1000000000) (h1 : 1 ≤ n) (h4 : n ≤ 4) (hn : i + n ≤ s.size) :
    bureauref02_one.l0 (k + 12) s (i : Int) (n : Int) =
      if okN n (gb s i) (gb s (i + 1)) (gb s (i + 2)) (gb s (i + 3)) = true then some ((i : Int), (n : Int), ((numN n (gb s i) (gb s (i + 1)) (gb s (i + 2)) (gb s (i + 3)) : Nat) : Int), true) else bureauref02_one.l0 (k + 10) s (i : Int) ((n + 1 : Nat) : Int) := by
  have hw : wrap64 ((s.size : Int) - (i : Int)) = (s.size : Int) - (i : Int) := wrapZ _ (by omega) (by omega)
  have hw2 : wrap64 ((i : Int) + (n : Int)) = ((i + n : Nat) : Int) := by rw [wrapZ _ (by omega) (by omega)]; omega
  have hw3 : wrap64 ((n : Int) + 1) = ((n + 1 : Nat) : Int) := by rw [wrapZ _ (by omega) (by omega)]; omega
  have c4 : (n : Int) ≤ 4 := by omega
  have cd : decide ((n : Int) ≤ (s.size : Int) - (i : Int)) = true := decide_eq_true (by omega)
  have ci : (0 : Int) ≤ (i : Int) := by omega
  have cn : (i : Int) ≤ ((i + n : Nat) : Int) := by omega
  have cs : ((i + n : Nat) : Int) ≤ (s.size : Int) := by omega
  rw [bureauref02_one.l0, if_pos c4, hw, cd, bureauref02_one.j1, if_pos rfl, if_pos ci, hw2, if_pos cn, if_pos cs, hw3, Int.toNat_natCast, Int.toNat_natCast]
  clear hw hw2 hw3 c4 cd ci cn cs
  have hx := size_ext s i n hn
  have hlt0 := gb_lt (s.extract i (i + n)) 0
  rw [number_eq (k + 4) (s.extract i (i + n)) n hx h1 h4, Option.bind_some]
  have hg (j : Nat) (hj : j < n) : gb (s.extract i (i + n)) j = gb s (i + j) := by unfold gb; rw [get_ext s i n j hn hj]
  have hg0 : gb (s.extract i (i + n)) 0 = gb s i := hg 0 (by omega)
  have hnum : numN n (gb (s.extract i (i + n)) 0) (gb (s.extract i (i + n)) 1) (gb (s.extract i (i + n)) 2) (gb (s.extract i (i + n)) 3) = numN n (gb s i) (gb s (i + 1)) (gb s (i + 2)) (gb s (i + 3)) := by
    rcases (by omega : n = 1 ∨ n = 2 ∨ n = 3 ∨ n = 4) with rfl | rfl | rfl | rfl
    · rw [num1, num1, hg0]
    · rw [num2, num2, hg0, hg 1 (by omega)]
    · rw [num3, num3, hg0, hg 1 (by omega), hg 2 (by omega)]
    · rw [num4, num4, hg0, hg 1 (by omega), hg 2 (by omega), hg 3 (by omega)]
  rw [hnum]
  generalize hr : numN n (gb s i) (gb s (i + 1)) (gb s (i + 2)) (gb s (i + 3)) = r
  rw [may_eq, Option.bind_some]
  unfold okN
  rw [hr]
  cases hm : mayN r with
  | false => simp
  | true =>
    have hr2 : r ≤ 1114111 := by simp [mayN] at hm; omega
    rw [if_pos rfl, bytes_eq hr2, Option.bind_some]
    have hl := list_eq_gb (r := r) hn h1 h4 hr2
    by_cases he : enc r = [gb s i, gb s (i + 1), gb s (i + 2), gb s (i + 3)].take n
    · rw [if_pos (hl.2 he), if_pos (by simp [he])]
    · rw [if_neg (fun h => he (hl.1 h)), if_neg (by simp [he])]
theorem one_last (k : Nat) (s : ByteArray) (i n : Nat) (hs : s.size < 1000000000) (hi : i < s.size) (hn : 4 < n ∨ s.size < i + n) :
    bureauref02_one.l0 (k + 2) s (i : Int) (n : Int) = some ((i : Int), 1, 65533, false) := by
  have hw : wrap64 ((s.size : Int) - (i : Int)) = (s.size : Int) - (i : Int) := wrapZ _ (by omega) (by omega)
  rw [bureauref02_one.l0]
  by_cases h4 : n ≤ 4
  · rw [if_pos (by omega), hw, decide_eq_false (by omega), bureauref02_one.j1, if_neg (by decide)]
  · rw [if_neg (by omega), bureauref02_one.j1, if_neg (by decide)]
theorem one_eq (k : Nat) (s : ByteArray) (i : Nat) (hs : s.size < 1000000000) (hi : i < s.size) :
    bureauref02_one.f (k + 20) s (i : Int) = some ((i : Int), (((Utf8.decode s i).2 : Nat) : Int), (((Utf8.decode s i).1 : Nat) : Int), whole (0, Utf8.decode s i)) := by
  have b0 := gb_lt s i
  have b1 := gb_lt s (i + 1)
  have b2 := gb_lt s (i + 2)
  have b3 := gb_lt s (i + 3)
  have hd : Utf8.decode s i = Lib.decodeN (s.size - i) (gb s i) (gb s (i + 1)) (gb s (i + 2)) (gb s (i + 3)) := Lib.decode_at s i
  have hf := first_decode (m := s.size - i) b0 b1 b2 b3
  rw [← hd] at hf
  have h1 := congrArg (fun x : Nat × Nat × Bool => x.1) hf
  have h2 := congrArg (fun x : Nat × Nat × Bool => x.2.1) hf
  have h3 := congrArg (fun x : Nat × Nat × Bool => x.2.2) hf
  simp only at h1 h2 h3
  rw [← h1, ← h2, ← h3]
  clear h1 h2 h3 hf hd
  unfold bureauref02_one.f firstOk
  rw [show (1 : Int) = ((1 : Nat) : Int) from rfl, one_step (k + 8) s i 1 hs (by omega) (by omega) (by omega)]
  split
  · rfl
  by_cases m2 : i + 2 ≤ s.size
  · rw [one_step (k + 6) s i 2 hs (by omega) (by omega) m2]
    split
    · rw [if_pos ⟨by omega, by assumption⟩]
    rw [if_neg (fun h => by rename_i h' ; exact h' h.2)]
    by_cases m3 : i + 3 ≤ s.size
    · rw [one_step (k + 4) s i 3 hs (by omega) (by omega) m3]
      split
      · rw [if_pos ⟨by omega, by assumption⟩]
      rw [if_neg (fun h => by rename_i h' ; exact h' h.2)]
      by_cases m4 : i + 4 ≤ s.size
      · rw [one_step (k + 2) s i 4 hs (by omega) (by omega) m4]
        split
        · rw [if_pos ⟨by omega, by assumption⟩]
        rw [if_neg (fun h => by rename_i h' ; exact h' h.2), one_last (k + 10) s i 5 hs hi (by omega)]
        rfl
      · rw [one_last (k + 12) s i 4 hs hi (by omega), if_neg (by omega)]
        rfl
    · rw [one_last (k + 14) s i 3 hs hi (by omega), if_neg (by omega), if_neg (by omega)]
      rfl
  · rw [one_last (k + 16) s i 2 hs hi (by omega), if_neg (by omega), if_neg (by omega), if_neg (by omega)]
    rfl
/-- A sign, as the document has it. -/
def sig (x : Nat × Nat × Nat) : S68 := ⟨(x.1 : Int), (x.2.2 : Int), (x.2.1 : Int), whole x⟩
theorem whole_at (i j : Nat) (d : Nat × Nat) : whole (i, d) = whole (j, d) := rfl
theorem signs_loop (s : ByteArray) (hs : s.size < 1000000) : ∀ (b k i : Nat) (acc : List S68), s.size ≤ i + b → i ≤ s.size → acc.length ≤ i →
    bureauref02_Signs.l0 (b + k + 22) s acc (i : Int) = some (acc ++ (scan s b i).map sig) := by
  intro b
  induction b with
  | zero =>
    intro k i acc h hi ha
    rw [show (0 + k + 22 : Nat) = (k + 21) + 1 by omega, bureauref02_Signs.l0, if_neg (by omega)]
    simp [scan]
  | succ b ih =>
    intro k i acc h hi ha
    rw [show (b + 1 + k + 22 : Nat) = (b + k + 22) + 1 by omega, bureauref02_Signs.l0]
    by_cases hc : i < s.size
    · have hw := width_pos s i hc
      have hf := width_fits s i hc
      have h4 := width_le4 s i
      rw [if_pos (by omega), show b + k + 22 = (b + k + 2) + 20 by omega, one_eq (b + k + 2) s i (by omega) hc, Option.bind_some]
      have hlen : acc.length < 4398046511104 := by omega
      rw [if_pos hlen]
      have hw64 : wrap64 ((i : Int) + (((Utf8.decode s i).2 : Nat) : Int)) = ((i + (Utf8.decode s i).2 : Nat) : Int) := by rw [wrapZ _ (by omega) (by omega)]; omega
      simp only []
      rw [hw64, show b + k + 2 + 20 = b + k + 22 by omega, ih k _ _ (by omega) hf (by simp; omega), scan, if_pos hc, List.append_assoc]
      rfl
    · rw [if_neg (by omega), scan, if_neg hc]
      simp
theorem signs_eq (s : ByteArray) (hs : s.size < 1000000) (k : Nat) : bureauref02_Signs.f (s.size + k + 22) s = some ((scan s s.size 0).map sig) := by
  unfold bureauref02_Signs.f
  have := signs_loop s hs s.size k 0 [] (by omega) (by omega) (by simp)
  rw [show (0 : Int) = ((0 : Nat) : Int) from rfl, this]
  rfl
theorem rd_T68_nat (xs : List S68) (i : Nat) (h : i < xs.length) : rd_T68 xs (i : Int) = xs[i] := by
  unfold rd_T68
  rw [Int.toNat_natCast, List.getD_eq_getElem?_getD, List.getElem?_eq_getElem h]
  rfl
theorem starts_loop (xs : List S68) (hx : xs.length < 1000000) : ∀ (n k i : Nat) (acc : List Int), xs.length ≤ i + n → i ≤ xs.length → acc.length = i →
    bureauref02_Starts.l0 (n + k + 1) xs acc (i : Int) = some (acc ++ (xs.drop i).map (fun x => x.f0)) := by
  intro n
  induction n with
  | zero =>
    intro k i acc h hi ha
    rw [show (0 + k + 1 : Nat) = k + 1 by omega, bureauref02_Starts.l0, if_neg (by omega), List.drop_of_length_le (by omega)]
    simp
  | succ n ih =>
    intro k i acc h hi ha
    rw [show (n + 1 + k + 1 : Nat) = (n + k + 1) + 1 by omega, bureauref02_Starts.l0]
    by_cases hc : i < xs.length
    · rw [if_pos (by omega), if_pos (by omega), if_pos (by omega), rd_T68_nat xs i hc]
      have hw : wrap64 ((i : Int) + 1) = ((i + 1 : Nat) : Int) := by rw [wrapZ _ (by omega) (by omega)]; omega
      rw [hw, ih k _ _ (by omega) (by omega) (by simp; omega), List.drop_eq_getElem_cons hc, List.append_assoc]
      rfl
    · rw [if_neg (by omega), List.drop_of_length_le (by omega)]
      simp
theorem starts_eq (s : ByteArray) (hs : s.size < 1000000) (k : Nat) : bureauref02_Starts.f (s.size + k + 22) s = some ((scan s s.size 0).map fun x => (x.1 : Int)) := by
  unfold bureauref02_Starts.f
  have hl := scan_len s s.size 0
  rw [signs_eq s hs k, Option.bind_some]
  have := starts_loop ((scan s s.size 0).map sig) (by simp; omega) s.size (k + 21) 0 [] (by simp; omega) (by omega) rfl
  rw [show s.size + k + 22 = s.size + (k + 21) + 1 by omega, show (0 : Int) = ((0 : Nat) : Int) from rfl, this, List.drop_zero, List.map_map]
  rfl
theorem which_loop {s : ByteArray} {n j : Nat} (h : Signs s n) (hs : s.size < 1000000) {a : Int} (ha : At s n a j) (xs : List S68) (hx : xs = (List.range n).map (fun t => sig (st s t, Utf8.decode s (st s t)))) :
    ∀ (c k i : Nat), j ≤ i + c → i ≤ j → bureauref02_which.l0 (c + k + 1) xs a (i : Int) = some (j : Int) := by
  have hlen : xs.length = n := by rw [hx]; simp
  have hn := h.le
  obtain ⟨hj, h1, h2, h3⟩ := ha
  have hat (i : Nat) (hi : i < n) : rd_T68 xs (i : Int) = sig (st s i, Utf8.decode s (st s i)) := by
    rw [rd_T68_nat xs i (by omega)]
    subst hx
    simp
  have hsum (i : Nat) (hi : i < n) : wrap64 ((sig (st s i, Utf8.decode s (st s i))).f0 + (sig (st s i, Utf8.decode s (st s i))).f1) = ((st s (i + 1) : Nat) : Int) := by
    have := h.le_size (show i + 1 ≤ n by omega)
    simp only [sig, st] at this ⊢
    rw [wrapZ _ (by omega) (by omega)]
    omega
  have stop (k : Nat) : bureauref02_which.l0 (k + 1) xs a (j : Int) = some (j : Int) := by
    rw [bureauref02_which.l0]
    by_cases hc : j < n
    · rw [if_pos (by omega), if_pos (by omega), hat j hc, hsum j hc, if_pos]
      have := h.step hc
      by_cases h0 : a < 0
      · omega
      · by_cases hz : a < (s.size : Int)
        · have := h2 (by omega) hz
          omega
        · have := h3 (by omega)
          omega
    · rw [if_neg (by omega), hlen]
      congr 1
      omega
  intro c
  induction c with
  | zero =>
    intro k i hc hi
    obtain rfl : i = j := by omega
    exact stop _
  | succ c ih =>
    intro k i hc hi
    by_cases he : i = j
    · subst he
      exact stop _
    · rw [show c + 1 + k + 1 = (c + k + 1) + 1 by omega, bureauref02_which.l0, if_pos (by omega), if_pos (by omega), hat i (by omega), hsum i (by omega), if_neg]
      · have hw : wrap64 ((i : Int) + 1) = ((i + 1 : Nat) : Int) := by rw [wrapZ _ (by omega) (by omega)]; omega
        rw [hw]
        exact ih k (i + 1) (by omega) (by omega)
      · have hm := st_mono s (show i + 1 ≤ j by omega)
        have := h.le_size hj
        by_cases h0 : a < 0
        · have := h1 h0
          omega
        · by_cases hz : a < (s.size : Int)
          · have := h2 (by omega) hz
            omega
          · omega
theorem map_sig {s : ByteArray} {n : Nat} (h : Signs s n) : (scan s s.size 0).map sig = (List.range n).map (fun t => sig (st s t, Utf8.decode s (st s t))) := by
  rw [h.eq, List.map_map]
  rfl
theorem which_eq {s : ByteArray} {n j : Nat} (h : Signs s n) (hs : s.size < 1000000) {a : Int} (ha : At s n a j) (k : Nat) : bureauref02_which.f (s.size + k + 1) ((scan s s.size 0).map sig) a = some (j : Int) := by
  have hn := h.le
  have hj := ha.1
  unfold bureauref02_which.f
  rw [map_sig h]
  exact which_loop h hs ha _ rfl s.size k 0 (by omega) (by omega)
theorem begins_eq {s : ByteArray} {n i : Nat} (h : Signs s n) (hs : s.size < 1000000) : bureauref02_begins.f s ((scan s s.size 0).map sig) (i : Int) = some (if i < n then ((st s i : Nat) : Int) else (s.size : Int)) := by
  unfold bureauref02_begins.f
  have hlen : ((scan s s.size 0).map sig).length = n := by rw [map_sig h]; simp
  rw [if_pos (by omega), hlen]
  by_cases hc : i < n
  · rw [if_pos (by omega), if_pos (by omega), if_pos hc, rd_T68_nat _ i (by omega)]
    simp only [map_sig h, List.getElem_map, List.getElem_range]
    rfl
  · rw [if_neg (by omega), if_neg hc]
theorem r02align_eq (s : ByteArray) (hs : s.size < 1000000) (a : Int) (k : Nat) : bureauref02_Align.f (s.size + k + 22) s a = some (alignZ s a : Int) := by
  obtain ⟨n, h⟩ := signs_ex s
  obtain ⟨j, ha⟩ := At.ex h a
  have hj := ha.1
  unfold bureauref02_Align.f
  have hW : bureauref02_which.f (s.size + k + 22) ((scan s s.size 0).map sig) a = some (j : Int) := which_eq h hs ha (k + 21)
  rw [signs_eq s hs k, Option.bind_some, hW, Option.bind_some, begins_eq h hs, Option.bind_some, alignZ_eq h ha]
  by_cases hc : j < n
  · rw [if_pos hc]
  · rw [if_neg hc, show j = n by omega, h.last]
theorem decN_1 {n b0 b1 b2 b3 : Nat} (h : b0 < 128) : Lib.decodeN n b0 b1 b2 b3 = (b0, 1) := by
  unfold Lib.decodeN
  rw [if_pos h]
theorem decN_2 {n b0 b1 b2 b3 : Nat} (h : b0 / 32 = 6) (hn : 1 < n) (h1 : b1 / 64 = 2) (hv : 128 ≤ b0 % 32 * 64 + b1 % 64) : Lib.decodeN n b0 b1 b2 b3 = (b0 % 32 * 64 + b1 % 64, 2) := by
  have c1 : ¬ b0 < 128 := by omega
  have c2 : b0 / 32 = 6 ∧ (1 < n ∧ b1 / 64 = 2) := ⟨h, hn, h1⟩
  unfold Lib.decodeN
  rw [if_neg c1, if_pos c2, if_pos hv]
theorem decN_3 {n b0 b1 b2 b3 : Nat} (h : b0 / 16 = 14) (hn : 2 < n) (h1 : b1 / 64 = 2) (h2 : b2 / 64 = 2) (hv : 2048 ≤ b0 % 16 * 4096 + b1 % 64 * 64 + b2 % 64)
    (hs : b0 % 16 * 4096 + b1 % 64 * 64 + b2 % 64 < 55296 ∨ 57344 ≤ b0 % 16 * 4096 + b1 % 64 * 64 + b2 % 64) : Lib.decodeN n b0 b1 b2 b3 = (b0 % 16 * 4096 + b1 % 64 * 64 + b2 % 64, 3) := by
  have c1 : ¬ b0 < 128 := by omega
  have c2 : ¬ (b0 / 32 = 6 ∧ (1 < n ∧ b1 / 64 = 2)) := by omega
  have c3 : b0 / 16 = 14 ∧ (1 < n ∧ b1 / 64 = 2) ∧ (2 < n ∧ b2 / 64 = 2) := ⟨h, ⟨by omega, h1⟩, hn, h2⟩
  have c4 : b0 % 16 * 4096 + b1 % 64 * 64 + b2 % 64 ≥ 2048 ∧ (b0 % 16 * 4096 + b1 % 64 * 64 + b2 % 64 < 55296 ∨ (57344 ≤ b0 % 16 * 4096 + b1 % 64 * 64 + b2 % 64 ∧ b0 % 16 * 4096 + b1 % 64 * 64 + b2 % 64 ≤ 1114111)) := ⟨hv, by omega⟩
  unfold Lib.decodeN
  rw [if_neg c1, if_neg c2, if_pos c3, if_pos c4]
theorem decN_4 {n b0 b1 b2 b3 : Nat} (h : b0 / 8 = 30) (hn : 3 < n) (h1 : b1 / 64 = 2) (h2 : b2 / 64 = 2) (h3 : b3 / 64 = 2) (hv : 65536 ≤ b0 % 8 * 262144 + b1 % 64 * 4096 + b2 % 64 * 64 + b3 % 64)
    (hs : b0 % 8 * 262144 + b1 % 64 * 4096 + b2 % 64 * 64 + b3 % 64 ≤ 1114111) : Lib.decodeN n b0 b1 b2 b3 = (b0 % 8 * 262144 + b1 % 64 * 4096 + b2 % 64 * 64 + b3 % 64, 4) := by
  have c1 : ¬ b0 < 128 := by omega
  have c2 : ¬ (b0 / 32 = 6 ∧ (1 < n ∧ b1 / 64 = 2)) := by omega
  have c3 : ¬ (b0 / 16 = 14 ∧ (1 < n ∧ b1 / 64 = 2) ∧ (2 < n ∧ b2 / 64 = 2)) := by omega
  have c4 : b0 / 8 = 30 ∧ (1 < n ∧ b1 / 64 = 2) ∧ (2 < n ∧ b2 / 64 = 2) ∧ (3 < n ∧ b3 / 64 = 2) := ⟨h, ⟨by omega, h1⟩, ⟨by omega, h2⟩, hn, h3⟩
  have c5 : b0 % 8 * 262144 + b1 % 64 * 4096 + b2 % 64 * 64 + b3 % 64 ≥ 65536 ∧ (b0 % 8 * 262144 + b1 % 64 * 4096 + b2 % 64 * 64 + b3 % 64 < 55296 ∨ (57344 ≤ b0 % 8 * 262144 + b1 % 64 * 4096 + b2 % 64 * 64 + b3 % 64 ∧ b0 % 8 * 262144 + b1 % 64 * 4096 + b2 % 64 * 64 + b3 % 64 ≤ 1114111)) := ⟨hv, by omega⟩
  unfold Lib.decodeN
  rw [if_neg c1, if_neg c2, if_neg c3, if_pos c4, if_pos c5]
theorem decN_shape (n b0 b1 b2 b3 : Nat) :
    (b0 < 128 ∧ Lib.decodeN n b0 b1 b2 b3 = (b0, 1)) ∨
    (b0 / 32 = 6 ∧ 1 < n ∧ b1 / 64 = 2 ∧ 128 ≤ b0 % 32 * 64 + b1 % 64 ∧ Lib.decodeN n b0 b1 b2 b3 = (b0 % 32 * 64 + b1 % 64, 2)) ∨
    (b0 / 16 = 14 ∧ 2 < n ∧ b1 / 64 = 2 ∧ b2 / 64 = 2 ∧ 2048 ≤ b0 % 16 * 4096 + b1 % 64 * 64 + b2 % 64 ∧ (b0 % 16 * 4096 + b1 % 64 * 64 + b2 % 64 < 55296 ∨ 57344 ≤ b0 % 16 * 4096 + b1 % 64 * 64 + b2 % 64) ∧
      Lib.decodeN n b0 b1 b2 b3 = (b0 % 16 * 4096 + b1 % 64 * 64 + b2 % 64, 3)) ∨
    (b0 / 8 = 30 ∧ 3 < n ∧ b1 / 64 = 2 ∧ b2 / 64 = 2 ∧ b3 / 64 = 2 ∧ 65536 ≤ b0 % 8 * 262144 + b1 % 64 * 4096 + b2 % 64 * 64 + b3 % 64 ∧ b0 % 8 * 262144 + b1 % 64 * 4096 + b2 % 64 * 64 + b3 % 64 ≤ 1114111 ∧
      Lib.decodeN n b0 b1 b2 b3 = (b0 % 8 * 262144 + b1 % 64 * 4096 + b2 % 64 * 64 + b3 % 64, 4)) ∨
    Lib.decodeN n b0 b1 b2 b3 = (65533, 1) := by
  unfold Lib.decodeN
  repeat' split
  all_goals first
    | (left; exact ⟨by assumption, by rfl⟩)
    | (right; left; exact ⟨by omega, by omega, by omega, by omega, by rfl⟩)
    | (right; right; left; exact ⟨by omega, by omega, by omega, by omega, by omega, by omega, by rfl⟩)
    | (right; right; right; left; exact ⟨by omega, by omega, by omega, by omega, by omega, by omega, by omega, by rfl⟩)
    | (right; right; right; right; rfl)
/-- A sign that fits stays what it is when the text is cut behind it. -/
theorem decN_cut {m m' b0 b1 b2 b3 c1 c2 c3 : Nat} (hm : 1 ≤ m) (hmm : m ≤ m') (e1 : 1 < m → b1 = c1) (e2 : 2 < m → b2 = c2) (e3 : 3 < m → b3 = c3)
    (hw : (Lib.decodeN m' b0 c1 c2 c3).2 ≤ m) : Lib.decodeN m b0 b1 b2 b3 = Lib.decodeN m' b0 c1 c2 c3 := by
  rcases decN_shape m' b0 c1 c2 c3 with ⟨h0, h⟩ | ⟨h0, hn, h1, hv, h⟩ | ⟨h0, hn, h1, h2, hv, hs, h⟩ | ⟨h0, hn, h1, h2, h3, hv, hs, h⟩ | h
  · rw [h, decN_1 h0]
  · rw [h] at hw ⊢
    have hw : 2 ≤ m := hw
    have e1 := e1 (by omega)
    subst e1
    rw [decN_2 h0 (by omega) h1 hv]
  · rw [h] at hw ⊢
    have hw : 3 ≤ m := hw
    have e1 := e1 (by omega)
    have e2 := e2 (by omega)
    subst e1 e2
    rw [decN_3 h0 (by omega) h1 h2 hv hs]
  · rw [h] at hw ⊢
    have hw : 4 ≤ m := hw
    have e1 := e1 (by omega)
    have e2 := e2 (by omega)
    have e3 := e3 (by omega)
    subst e1 e2 e3
    rw [decN_4 h0 (by omega) h1 h2 h3 hv hs]
  · have key : ∀ x, Lib.decodeN m' b0 c1 c2 c3 = x → Lib.decodeN m b0 b1 b2 b3 = x → Lib.decodeN m b0 b1 b2 b3 = Lib.decodeN m' b0 c1 c2 c3 := fun x h1 h2 => by rw [h1, h2]
    rcases decN_shape m b0 b1 b2 b3 with ⟨g0, g⟩ | ⟨g0, gn, g1, gv, g⟩ | ⟨g0, gn, g1, g2, gv, gs, g⟩ | ⟨g0, gn, g1, g2, g3, gv, gs, g⟩ | g
    · exact key _ (decN_1 g0) g
    · have e1 := e1 (by omega)
      subst e1
      exact key _ (decN_2 g0 (by omega) g1 gv) g
    · have e1 := e1 (by omega)
      have e2 := e2 (by omega)
      subst e1 e2
      exact key _ (decN_3 g0 (by omega) g1 g2 gv gs) g
    · have e1 := e1 (by omega)
      have e2 := e2 (by omega)
      have e3 := e3 (by omega)
      subst e1 e2 e3
      exact key _ (decN_4 g0 (by omega) g1 g2 g3 gv gs) g
    · rw [g, h]
theorem dec_cut (s : ByteArray) (p q i : Nat) (h : q ≤ s.size) (hp : p ≤ q) (hi : i < q - p) (hw : p + i + (Utf8.decode s (p + i)).2 ≤ q) : Utf8.decode (s.extract p q) i = Utf8.decode s (p + i) := by
  have h1 : Utf8.decode (s.extract p q) i = Lib.decodeN ((s.extract p q).size - i) (gb (s.extract p q) i) (gb (s.extract p q) (i + 1)) (gb (s.extract p q) (i + 2)) (gb (s.extract p q) (i + 3)) := Lib.decode_at _ _
  have h2 : Utf8.decode s (p + i) = Lib.decodeN (s.size - (p + i)) (gb s (p + i)) (gb s (p + i + 1)) (gb s (p + i + 2)) (gb s (p + i + 3)) := Lib.decode_at _ _
  have hz := size_sub s p q h hp
  rw [h2] at hw
  rw [h1, h2, gb_sub s p q i h hp hi]
  exact decN_cut (by omega) (by omega) (fun hh => gb_sub s p q (i + 1) h hp (by omega)) (fun hh => gb_sub s p q (i + 2) h hp (by omega)) (fun hh => gb_sub s p q (i + 3) h hp (by omega)) (by omega)
/-- As many signs lie between two places where signs begin as their numbers say. -/
theorem sub_len {s : ByteArray} {n a m : Nat} (h : Signs s n) (ha : a ≤ m) (hm : m ≤ n) : (sub s (st s a) (st s m)).length = m - a := by
  have h1 := st_mono s ha
  have h2 := h.le_size hm
  obtain ⟨c, hc⟩ := signs_ex (s.extract (st s a) (st s m))
  have hz := size_sub s _ _ h2 h1
  have hst : ∀ t, a + t ≤ m → st s (a + t) = st s a + st (s.extract (st s a) (st s m)) t := by
    intro t
    induction t with
    | zero => intro _; rfl
    | succ t ih =>
      intro ht
      have e := ih (by omega)
      have hs := h.step (t := a + t) (by omega)
      have hmm := st_mono s (show a + t + 1 ≤ m by omega)
      have hlt : st (s.extract (st s a) (st s m)) t < st s m - st s a := by omega
      have hd := dec_cut s (st s a) (st s m) (st (s.extract (st s a) (st s m)) t) h2 h1 hlt (by rw [← e]; exact hmm)
      show st s (a + t) + (Utf8.decode s (st s (a + t))).2 = st s a + (st (s.extract (st s a) (st s m)) t + (Utf8.decode (s.extract (st s a) (st s m)) (st (s.extract (st s a) (st s m)) t)).2)
      rw [hd, e, Nat.add_assoc]
  have hcm : c = m - a := by
    rcases Nat.lt_trichotomy c (m - a) with hh | hh | hh
    · exfalso
      have e := hst c (by omega)
      rw [hc.last, hz] at e
      have h3 := h.step (t := a + c) (by omega)
      have h4 := st_mono s (show a + c + 1 ≤ m by omega)
      omega
    · exact hh
    · exfalso
      have h3 := hc.lt (m - a) hh
      have e := hst (m - a) (by omega)
      rw [show a + (m - a) = m by omega] at e
      omega
  unfold sub
  rw [hc.len, hcm]
/-- The numbers of the signs between two places: one is below the other when its place is. -/
theorem st_lt {s : ByteArray} {n a b : Nat} (h : Signs s n) (ha : a ≤ n) (hb : b ≤ n) (hlt : st s a ≤ st s b) : a ≤ b := by
  rcases Nat.lt_or_ge b a with hh | hh
  · exfalso
    have h1 := h.step (t := b) (by omega)
    have h2 := st_mono s (show b + 1 ≤ a by omega)
    omega
  · exact hh
theorem rends_loop (s : ByteArray) (hs : s.size < 1000000) : ∀ (c i k : Nat) (acc : List Int), i + c = s.size → acc.length ≤ i →
    bureauref06_Ends.l0 (c + k + 1) s acc (i : Int) = some (acc ++ (eL (s.data.toList.drop i) i).map (fun x : Nat => (x : Int))) := by
  intro c
  induction c with
  | zero =>
    intro i k acc hi ha
    have hlen : acc.length < 17592186044416 := by omega
    rw [show 0 + k + 1 = k + 1 by omega, bureauref06_Ends.l0, if_neg (by omega), if_pos hlen, List.drop_of_length_le (by rw [← size_list]; omega)]
    show _ = some (acc ++ [(i : Int)])
    rw [show s.size = i by omega]
  | succ c ih =>
    intro i k acc hi ha
    have hlen : acc.length < 17592186044416 := by omega
    have hlt : i < s.data.toList.length := by rw [← size_list]; omega
    have hw : wrap64 ((i : Int) + 1) = ((i + 1 : Nat) : Int) := by rw [wrapZ _ (by omega) (by omega)]; omega
    have hgb := gb_list s i _ (List.getElem?_eq_getElem hlt)
    rw [show c + 1 + k + 1 = (c + k + 1) + 1 by omega, bureauref06_Ends.l0, if_pos (by omega), if_pos (by omega), bt_gb s i (by omega), hgb, if_pos hlen, hw, List.drop_eq_getElem_cons hlt]
    by_cases h10 : s.data.toList[i] = 10
    · rw [h10, eL_hit, if_pos (by decide), ih (i + 1) k _ (by omega) (by simp; omega), List.map_cons, List.append_assoc]
      rfl
    · have hne : ¬ ((s.data.toList[i].toNat : Nat) : Int) = 10 := by
        intro h
        apply h10
        apply UInt8.toNat_inj.1
        show s.data.toList[i].toNat = 10
        omega
      rw [if_neg hne, eL_miss h10, ih (i + 1) k _ (by omega) (by omega)]
def endsI (s : ByteArray) : List Int := (ends s).map (fun x : Nat => (x : Int))
theorem endsI_len (s : ByteArray) : (endsI s).length = nE s := by unfold endsI nE; simp
theorem rends_eq (s : ByteArray) (hs : s.size < 1000000) (k : Nat) : bureauref06_Ends.f (s.size + k + 1) s = some (endsI s) := by
  unfold bureauref06_Ends.f
  have := rends_loop s hs s.size 0 k [] (by omega) (by simp)
  rw [show (0 : Int) = ((0 : Nat) : Int) from rfl, this]
  rfl
theorem endsI_get (s : ByteArray) (i : Nat) (h : i < nE s) : rd (endsI s) (i : Int) = ((bT s i : Nat) : Int) := by
  rw [rd_nat _ i (by rw [endsI_len]; exact h)]
  unfold endsI bT
  rw [List.getElem_map, List.getD_eq_getElem?_getD, List.getElem?_eq_getElem (show i < (ends s).length from h)]
  rfl
theorem rcount_eq (s : ByteArray) (hs : s.size < 1000000) (k : Nat) : bureauref06_Count.f (s.size + k + 1) s = some (nE s : Int) := by
  unfold bureauref06_Count.f
  rw [rends_eq s hs, Option.bind_some, endsI_len]
theorem rbounds_eq (s : ByteArray) (hs : s.size < 1000000) (n : Int) (k : Nat) : bureauref06_Bounds.f (s.size + k + 2) s n = some (boundsZ s n) := by
  have hn := nE_le s
  have hp := nE_pos s
  unfold bureauref06_Bounds.f boundsZ
  rw [show s.size + k + 2 = (s.size + (k + 1)) + 1 by omega, rends_eq s hs (k + 1), Option.bind_some, endsI_len]
  by_cases h0 : n < 0
  · rw [if_pos h0, bureauref06_Bounds.j0, if_pos rfl, if_neg (by omega)]
  rw [if_neg h0]
  by_cases h1 : n ≥ (nE s : Int)
  · rw [decide_eq_true h1, bureauref06_Bounds.j0, if_pos rfl, if_neg (by omega)]
  rw [decide_eq_false h1, bureauref06_Bounds.j0, if_neg (by decide), if_pos (c := 0 ≤ n ∧ _) (by omega)]
  obtain ⟨m, rfl⟩ : ∃ m : Nat, n = (m : Int) := ⟨n.toNat, by omega⟩
  rw [Int.toNat_natCast, endsI_len]
  cases m with
  | zero =>
    rw [if_pos (show ((0 : Nat) : Int) = 0 from rfl), if_pos (by omega), show (0 : Int) = ((0 : Nat) : Int) from rfl, endsI_get s 0 (by omega)]
    rfl
  | succ m =>
    have hw : wrap64 (((m + 1 : Nat) : Int) - 1) = (m : Int) := by rw [wrapZ _ (by omega) (by omega)]; omega
    have hle := bT_le s m (by unfold nE at *; omega)
    rw [if_neg (by omega), hw, if_pos (by omega), if_pos (by omega), if_pos (by omega), if_pos (by omega), endsI_get s m (by omega), endsI_get s (m + 1) (by omega), wrapZ _ (by omega) (by omega)]
    rfl
theorem rof_loop (s : ByteArray) (hs : s.size < 1000000) (a : Int) : ∀ (c i k n : Nat), i + c = s.size → n ≤ i →
    bureauref06_Of.l0 (c * 2 + k + 2) s a (n : Int) (i : Int) = some ((n + ((s.data.toList.drop i).take ((min a (s.size : Int)).toNat - i)).count 10 : Nat) : Int) := by
  intro c
  induction c with
  | zero =>
    intro i k n hi hn
    rw [show 0 * 2 + k + 2 = (k + 1) + 1 by omega, bureauref06_Of.l0, if_neg (by omega), bureauref06_Of.j1, if_neg (by decide), show (min a (s.size : Int)).toNat - i = 0 by omega, List.take_zero, List.count_nil]
    rfl
  | succ c ih =>
    intro i k n hi hn
    have hlt : i < s.data.toList.length := by rw [← size_list]; omega
    have hw : wrap64 ((i : Int) + 1) = ((i + 1 : Nat) : Int) := by rw [wrapZ _ (by omega) (by omega)]; omega
    have hwn : wrap64 ((n : Int) + 1) = ((n + 1 : Nat) : Int) := by rw [wrapZ _ (by omega) (by omega)]; omega
    have hgb := gb_list s i _ (List.getElem?_eq_getElem hlt)
    rw [show (c + 1) * 2 + k + 2 = (c * 2 + k + 2 + 1) + 1 by omega, bureauref06_Of.l0, if_pos (by omega)]
    by_cases ha : (i : Int) < a
    · have e1 : (min a (s.size : Int)).toNat - i = ((min a (s.size : Int)).toNat - (i + 1)) + 1 := by omega
      rw [decide_eq_true ha, bureauref06_Of.j1, if_pos rfl, if_pos (by omega), if_pos (by omega), bt_gb s i (by omega), hgb, hw, hwn, e1, List.drop_eq_getElem_cons hlt, List.take_succ_cons]
      by_cases h10 : s.data.toList[i] = 10
      · rw [h10, if_pos (by decide), ih (i + 1) k (n + 1) (by omega) (by omega), List.count_cons_self]
        congr 2
        omega
      · have hne : ¬ ((s.data.toList[i].toNat : Nat) : Int) = 10 := by
          intro h
          apply h10
          apply UInt8.toNat_inj.1
          show s.data.toList[i].toNat = 10
          omega
        rw [if_neg hne, ih (i + 1) k n (by omega) (by omega), List.count_cons_of_ne h10]
    · rw [decide_eq_false ha, bureauref06_Of.j1, if_neg (by decide), show (min a (s.size : Int)).toNat - i = 0 by omega, List.take_zero, List.count_nil]
      rfl
theorem rof_eq (s : ByteArray) (hs : s.size < 1000000) (a : Int) (k : Nat) : bureauref06_Of.f (s.size * 2 + k + 2) s a = some (ofZ s a : Int) := by
  unfold bureauref06_Of.f
  have := rof_loop s hs a s.size 0 k 0 (by omega) (by omega)
  rw [show (0 : Int) = ((0 : Nat) : Int) from rfl, this]
  unfold ofZ
  rw [List.drop_zero, Nat.sub_zero, Nat.zero_add, show (min a (s.size : Int)).toNat = (min (max a 0) (s.size : Int)).toNat by omega]
/-! ### the signs of a line -/
theorem filter_loop (xs : List Int) (lo hi : Int) (hx : xs.length < 1000000) : ∀ (c i k : Nat) (acc : List Int), i + c = xs.length → acc.length ≤ i →
    bureauref06_starts.l0 (c + k + 1) lo hi xs acc (i : Int) = some (acc ++ (xs.drop i).filter (fun x => decide (lo ≤ x ∧ x < hi))) := by
  intro c
  induction c with
  | zero =>
    intro i k acc hi' ha
    rw [show 0 + k + 1 = k + 1 by omega, bureauref06_starts.l0, if_neg (by omega), List.drop_of_length_le (by omega)]
    simp
  | succ c ih =>
    intro i k acc hi' ha
    have hlt : i < xs.length := by omega
    have hlen : acc.length < 17592186044416 := by omega
    have hw : wrap64 ((i : Int) + 1) = ((i + 1 : Nat) : Int) := by rw [wrapZ _ (by omega) (by omega)]; omega
    rw [show c + 1 + k + 1 = (c + k + 1) + 1 by omega, bureauref06_starts.l0, if_pos (by omega), if_pos (by omega), rd_nat xs i hlt, hw, if_pos hlen, List.drop_eq_getElem_cons hlt]
    by_cases h1 : xs[i] ≥ lo
    · by_cases h2 : xs[i] < hi
      · rw [if_pos h1, if_pos h2, ih (i + 1) k _ (by omega) (by simp; omega), List.filter_cons_of_pos (by simpa using ⟨h1, h2⟩), List.append_assoc]
        rfl
      · rw [if_pos h1, if_neg h2, ih (i + 1) k _ (by omega) (by omega), List.filter_cons_of_neg (by simp only [decide_eq_true_eq]; exact fun h => h2 h.2)]
    · rw [if_neg h1, ih (i + 1) k _ (by omega) (by omega), List.filter_cons_of_neg (by simp only [decide_eq_true_eq]; exact fun h => h1 h.1)]
def lineL (s : ByteArray) (a c : Nat) : List Int := (List.range c).map (fun t => ((st s (a + t) : Nat) : Int))
theorem filter_line {s : ByteArray} {n a c : Nat} (h : Signs s n) (hac : a + c ≤ n) :
    ((List.range n).map (fun t => ((st s t : Nat) : Int))).filter (fun x => decide ((st s a : Int) ≤ x ∧ x < (st s (a + c) : Int))) = lineL s a c := by
  obtain ⟨d, rfl⟩ : ∃ d, n = a + c + d := ⟨n - (a + c), by omega⟩
  rw [List.range_add, List.range_add, List.map_append, List.map_append, List.filter_append, List.filter_append, List.map_map, List.map_map]
  have f1 : ((List.range a).map (fun t => ((st s t : Nat) : Int))).filter (fun x => decide ((st s a : Int) ≤ x ∧ x < (st s (a + c) : Int))) = [] := by
    rw [List.filter_eq_nil_iff]
    intro x hx
    obtain ⟨t, ht, rfl⟩ := List.mem_map.1 hx
    have ht := List.mem_range.1 ht
    have h1 := h.step (t := t) (by omega)
    have h2 := st_mono s (show t + 1 ≤ a by omega)
    simp only [decide_eq_true_eq]
    omega
  have f3 : ((List.range d).map ((fun t => ((st s t : Nat) : Int)) ∘ fun x => a + c + x)).filter (fun x => decide ((st s a : Int) ≤ x ∧ x < (st s (a + c) : Int))) = [] := by
    rw [List.filter_eq_nil_iff]
    intro x hx
    obtain ⟨t, ht, rfl⟩ := List.mem_map.1 hx
    have h2 := st_mono s (show a + c ≤ a + c + t by omega)
    simp only [decide_eq_true_eq, Function.comp]
    omega
  have f2 : ((List.range c).map ((fun t => ((st s t : Nat) : Int)) ∘ fun x => a + x)).filter (fun x => decide ((st s a : Int) ≤ x ∧ x < (st s (a + c) : Int))) = (List.range c).map ((fun t => ((st s t : Nat) : Int)) ∘ fun x => a + x) := by
    rw [List.filter_eq_self]
    intro x hx
    obtain ⟨t, ht, rfl⟩ := List.mem_map.1 hx
    have ht := List.mem_range.1 ht
    have h1 := h.step (t := a + t) (by omega)
    have h2 := st_mono s (show a + t + 1 ≤ a + c by omega)
    have h3 := st_mono s (show a ≤ a + t by omega)
    simp only [decide_eq_true_eq, Function.comp]
    omega
  rw [f1, f2, f3, List.nil_append, List.append_nil]
  rfl
theorem rstarts_eq {s : ByteArray} {n q a c : Nat} (h : Signs s n) (hs : s.size < 1000000) (hq : q < nE s) (hl : LineSigns s n q a c) (k : Nat) : bureauref06_starts.f (s.size + k + 22) s (q : Int) = some (lineL s a c) := by
  have hn := h.le
  unfold bureauref06_starts.f
  have hB := rbounds_eq s hs (q : Int) (k + 20)
  have hz : boundsZ s (q : Int) = ((bF s q : Int), (bT s q : Int), 0) := by unfold boundsZ; rw [if_pos (by omega), Int.toNat_natCast]
  rw [show s.size + (k + 20) + 2 = s.size + k + 22 by omega, hz] at hB
  have hS := starts_eq s hs k
  rw [h.eq, List.map_map] at hS
  have hF := filter_loop ((List.range n).map (fun t => ((st s t : Nat) : Int))) (bF s q : Int) (bT s q : Int) (by simp; omega) n 0 (s.size + k + 21 - n) [] (by simp) (by simp)
  rw [show n + (s.size + k + 21 - n) + 1 = s.size + k + 22 by omega, List.drop_zero, List.nil_append, ← hl.from_, ← hl.to_, filter_line h hl.le] at hF
  rw [hB, Option.bind_some, hS, Option.bind_some, ← hl.from_, ← hl.to_]
  exact hF
theorem lineL_get (s : ByteArray) (a c i : Nat) (h : i < c) : rd (lineL s a c) (i : Int) = ((st s (a + i) : Nat) : Int) := by
  rw [rd_nat _ i (by unfold lineL; simpa using h)]
  unfold lineL
  rw [List.getElem_map, List.getElem_range]
theorem lineL_len (s : ByteArray) (a c : Nat) : (lineL s a c).length = c := by unfold lineL; simp
/-! ### Col -/
theorem col_loop {s : ByteArray} {n a c j : Nat} (h : Signs s n) (hac : a + c ≤ n) (hj : j ≤ n) (hja : a ≤ j) (hjc : j ≤ a + c) (hn : n < 1000000) : ∀ (d i k m : Nat), i + d = c → m = min i (j - a) →
    bureauref06_Col.l0 (d + k + 1) ((st s j : Nat) : Int) (lineL s a c) (m : Int) (i : Int) = some ((j - a : Nat) : Int) := by
  intro d
  induction d with
  | zero =>
    intro i k m hi hm
    rw [show 0 + k + 1 = k + 1 by omega, bureauref06_Col.l0, lineL_len, if_neg (by omega)]
    congr 1
    omega
  | succ d ih =>
    intro i k m hi hm
    have hw : wrap64 ((i : Int) + 1) = ((i + 1 : Nat) : Int) := by rw [wrapZ _ (by omega) (by omega)]; omega
    have hwm : wrap64 ((m : Int) + 1) = ((m + 1 : Nat) : Int) := by rw [wrapZ _ (by omega) (by omega)]; omega
    rw [show d + 1 + k + 1 = (d + k + 1) + 1 by omega, bureauref06_Col.l0, lineL_len, if_pos (by omega), if_pos (by omega), lineL_get s a c i (by omega), hw, hwm]
    by_cases hc : a + i < j
    · have h1 := h.step (t := a + i) (by omega)
      have h2 := st_mono s (show a + i + 1 ≤ j by omega)
      rw [if_pos (by omega)]
      exact ih (i + 1) k (m + 1) (by omega) (by omega)
    · have h2 := st_mono s (show j ≤ a + i by omega)
      rw [if_neg (by omega)]
      exact ih (i + 1) k m (by omega) (by omega)
theorem rcol_eq (s : ByteArray) (hs : s.size < 900000) (x : Int) (k : Nat) : bureauref06_Col.f (s.size * 2 + k + 22) s x = some (colZ s x : Int) := by
  obtain ⟨n, h⟩ := signs_ex s
  obtain ⟨j, ha⟩ := At.ex h x
  have hn := h.le
  have hj := ha.1
  have hal := alignZ_eq h ha
  have hle := h.le_size hj
  obtain ⟨o1, o2⟩ := ofZ_in s (st s j) hle
  have hq := ofZ_lt s (st s j : Int)
  have hcol : colZ s x = (sub s (bF s (ofZ s (st s j : Int))) (st s j)).length := by unfold colZ; rw [hal]
  have hA := r02align_eq s (by omega) x (s.size + k)
  rw [show s.size + (s.size + k) + 22 = s.size * 2 + k + 22 by omega, hal] at hA
  have hO := rof_eq s (by omega) (st s j : Int) (k + 20)
  rw [show s.size * 2 + (k + 20) + 2 = s.size * 2 + k + 22 by omega] at hO
  rw [hcol]
  generalize ofZ s (st s j : Int) = q at *
  obtain ⟨a, c, hl⟩ := line_signs h q hq
  have hac := hl.le
  have hS := rstarts_eq h (by omega) hq hl (s.size + k)
  rw [show s.size + (s.size + k) + 22 = s.size * 2 + k + 22 by omega] at hS
  have haj : a ≤ j := st_lt h (by omega) hj (by rw [hl.from_]; exact o1)
  have hjc : j ≤ a + c := st_lt h hj hac (by rw [hl.to_]; exact o2)
  have hlen := sub_len h haj hj
  rw [hl.from_] at hlen
  have hC := col_loop h hac hj haj hjc (by omega) c 0 (s.size * 2 + k + 21 - c) 0 (by omega) (by omega)
  rw [show c + (s.size * 2 + k + 21 - c) + 1 = s.size * 2 + k + 22 by omega] at hC
  unfold bureauref06_Col.f
  rw [hA, Option.bind_some, hO, Option.bind_some, hS, Option.bind_some, hlen]
  exact hC
/-! ### last -/
theorem last_at {s : ByteArray} {n q a c : Nat} (h : Signs s n) (hl : LineSigns s n q a c) (hq : q < nE s) : lastZ s (bF s q) (bT s q) = if c = 0 then bF s q else st s (a + (c - 1)) := by
  have hac := hl.le
  unfold lastZ
  by_cases hc : c = 0
  · have : bF s q = bT s q := by rw [← hl.from_, ← hl.to_, hc]; rfl
    rw [if_pos this, if_pos hc]
  · have h1 := h.step (t := a + (c - 1)) (by omega)
    rw [show a + (c - 1) + 1 = a + c by omega, hl.to_] at h1
    have h2 := st_mono s (show a ≤ a + (c - 1) by omega)
    rw [hl.from_] at h2
    rw [if_neg (by omega), if_neg hc]
    refine alignZ_eq h (At.of h (m := a + (c - 1)) (by omega) (by omega) ?_)
    rw [show a + (c - 1) + 1 = a + c by omega, hl.to_]
    omega
theorem rlast_eq {s : ByteArray} {n q a c : Nat} (h : Signs s n) (hs : s.size < 900000) (hq : q < nE s) (hl : LineSigns s n q a c) (k : Nat) : bureauref06_last.f (s.size + k + 22) s (q : Int) = some (lastZ s (bF s q) (bT s q) : Int) := by
  have hn := h.le
  have hac := hl.le
  have hB := rbounds_eq s (by omega) (q : Int) (k + 20)
  have hz : boundsZ s (q : Int) = ((bF s q : Int), (bT s q : Int), 0) := by unfold boundsZ; rw [if_pos (by omega), Int.toNat_natCast]
  rw [show s.size + (k + 20) + 2 = s.size + k + 22 by omega, hz] at hB
  unfold bureauref06_last.f
  rw [rstarts_eq h (by omega) hq hl k, Option.bind_some, last_at h hl hq, lineL_len]
  by_cases hc : c = 0
  · rw [if_pos (by omega), hB, Option.bind_some, if_pos hc]
  · have hw : wrap64 ((c : Int) - 1) = ((c - 1 : Nat) : Int) := by rw [wrapZ _ (by omega) (by omega)]; omega
    rw [if_neg (by omega), hw, if_pos (by omega), if_pos (by omega), if_neg hc, lineL_get s a c (c - 1) (by omega)]
theorem rbrought_eq (s : ByteArray) (hs : s.size < 900000) (n : Int) (k : Nat) : bureauref06_brought.f (s.size + k + 1) s n = some (intoZ s n : Int) := by
  have hp := nE_pos s
  have hn := nE_le s
  have hw : wrap64 ((nE s : Int) - 1) = (nE s : Int) - 1 := wrapZ _ (by omega) (by omega)
  unfold bureauref06_brought.f
  rw [rcount_eq s (by omega) k, Option.bind_some, hw]
  by_cases h0 : n < 0
  · rw [if_pos h0]
    congr 1
    unfold intoZ
    omega
  · rw [if_neg h0]
    congr 1
    unfold intoZ mn
    omega
/-! ### Place -/
theorem rplace_eq (s : ByteArray) (hs : s.size < 900000) (x y : Int) (k : Nat) : bureauref06_Place.f (s.size + k + 22) s x y = some (placeZ s x y : Int) := by
  obtain ⟨n, h⟩ := signs_ex s
  have hn := h.le
  have hq := intoZ_lt s x
  have hB := rbrought_eq s hs x (k + 21)
  rw [show s.size + (k + 21) + 1 = s.size + k + 22 by omega] at hB
  unfold bureauref06_Place.f placeZ plFrom
  rw [hB, Option.bind_some]
  generalize intoZ s x = q at *
  obtain ⟨a, c, hl⟩ := line_signs h q hq
  have hac := hl.le
  have hmx : mx y 0 = (((max y 0).toNat : Nat) : Int) := by unfold mx; omega
  rw [rstarts_eq h (by omega) hq hl k, Option.bind_some, lineL_len, hmx, hl.eq]
  generalize (max y 0).toNat = i
  by_cases hc : i < c
  · have h2 := st_mono s (show a ≤ a + i by omega)
    rw [hl.from_] at h2
    rw [if_neg (by omega), if_pos (by omega), if_pos (by omega), lineL_get s a c i hc, List.getElem?_map, List.getElem?_range hc, Option.map_some]
    simp only []
    congr 2
    omega
  · rw [if_pos (by omega), rlast_eq h hs hq hl k, Option.bind_some, List.getElem?_eq_none (by simp; omega)]
/-! ### First -/
theorem rclass_eq (k : Nat) (r : Int) : bureauref02_Class.f (k + 3) r = some (classZ r) := by
  have j1 (k : Nat) (x : Bool) : bureauref02_Class.j1 (k + 1) r x = some (if x = true then 1 else if 128 ≤ r ∧ r ≤ 1114111 ∧ r ≠ 65533 then 1 else 2) := by
    rw [bureauref02_Class.j1]
    by_cases hx : x = true
    · rw [if_pos hx, if_pos hx]
    rw [if_neg hx, if_neg hx]
    by_cases h1 : r ≥ 128
    · rw [if_pos h1]
      by_cases h2 : r ≤ 1114111
      · rw [if_pos h2]
        by_cases h3 : r = 65533
        · rw [if_pos h3, if_neg (by omega)]
        · rw [if_neg h3, if_pos ⟨h1, h2, h3⟩]
      · rw [if_neg h2, if_neg (by omega)]
    · rw [if_neg h1, if_neg (by omega)]
  have j95 (k : Nat) : bureauref02_Class.j1 (k + 1) r (r == 95) = some (if r = 95 then 1 else if 128 ≤ r ∧ r ≤ 1114111 ∧ r ≠ 65533 then 1 else 2) := by
    rw [j1]
    by_cases h : r = 95
    · rw [if_pos (by simp [h]), if_pos h]
    · rw [if_neg (by simp [h]), if_neg h]
  have jt (k : Nat) : bureauref02_Class.j1 (k + 1) r true = some 1 := by rw [j1, if_pos rfl]
  have j0 (k : Nat) (x : Bool) : bureauref02_Class.j0 (k + 2) r x = some (if x = true then 0 else if r = 10 then 3 else if (48 ≤ r ∧ r ≤ 57) ∨ (97 ≤ r ∧ r ≤ 122) ∨ (65 ≤ r ∧ r ≤ 90) ∨ r = 95 then 1 else if 128 ≤ r ∧ r ≤ 1114111 ∧ r ≠ 65533 then 1 else 2) := by
    rw [bureauref02_Class.j0]
    simp only [jt, j95]
    by_cases hx : x = true
    · rw [if_pos hx, if_pos hx]
    rw [if_neg hx, if_neg hx]
    by_cases h10 : r = 10
    · rw [if_pos h10, if_pos h10]
    rw [if_neg h10, if_neg h10]
    by_cases hm : (48 ≤ r ∧ r ≤ 57) ∨ (97 ≤ r ∧ r ≤ 122) ∨ (65 ≤ r ∧ r ≤ 90) ∨ r = 95
    · rw [if_pos hm]
      repeat' split
      all_goals first | rfl | (exfalso; omega)
    · rw [if_neg hm, if_neg (c := r = 95) (fun h => hm (Or.inr (Or.inr (Or.inr h))))]
      repeat' split
      all_goals first | rfl | (exfalso; omega)
  unfold bureauref02_Class.f classZ
  by_cases h32 : r = 32
  · rw [if_pos h32, j0 (k + 1), if_pos rfl, if_pos (Or.inl h32)]
  · rw [if_neg h32, j0 (k + 1)]
    by_cases h9 : r = 9
    · rw [if_pos (by simp [h9]), if_pos (Or.inr h9)]
    · rw [if_neg (by simp [h9]), if_neg (c := r = 32 ∨ _) (by rintro (h | h); exact h32 h; exact h9 h)]
theorem r02at_eq {s : ByteArray} {n j : Nat} (h : Signs s n) (hs : s.size < 1000000) (hj : j < n) (k : Nat) : bureauref02_At.f (s.size + k + 22) s ((st s j : Nat) : Int) = some ((((Utf8.decode s (st s j)).1 : Nat) : Int), (((Utf8.decode s (st s j)).2 : Nat) : Int)) := by
  have hA := At.of h hj (Int.le_refl _) (Int.ofNat_lt.2 (h.step hj))
  have hlen : ((scan s s.size 0).map sig).length = n := by rw [map_sig h]; simp
  have hW : bureauref02_which.f (s.size + k + 22) ((scan s s.size 0).map sig) ((st s j : Nat) : Int) = some (j : Int) := which_eq h hs hA (k + 21)
  unfold bureauref02_At.f
  rw [signs_eq s hs k, Option.bind_some, hW, Option.bind_some, hlen, if_neg (by omega), if_pos (by omega), if_pos (by omega), rd_T68_nat _ j (by omega)]
  simp only [map_sig h, List.getElem_map, List.getElem_range]
  rfl
theorem first_loop {s : ByteArray} {n q a c : Nat} (h : Signs s n) (hs : s.size < 900000) (hq : q < nE s) (hl : LineSigns s n q a c) (r : Nat) : ∀ (d i k : Nat), i + d = c →
    Aside0 (fstFrom (((List.range c).map (fun t => (st s (a + t) - bF s q, Utf8.decode s (st s (a + t))))).drop i) (bF s q) (lastZ s (bF s q) (bT s q)) = r) →
    bureauref06_First.l0 (d + s.size + k + 23) s (q : Int) (lineL s a c) (i : Int) = some (r : Int) := by
  have hac := hl.le
  have hn := h.le
  intro d
  induction d with
  | zero =>
    intro i k hi hf
    have hL := rlast_eq h hs hq hl k
    rw [show 0 + s.size + k + 23 = (s.size + k + 22) + 1 by omega, bureauref06_First.l0, lineL_len, if_neg (by omega), hL, Option.bind_some]
    have hf := hf.out
    rw [List.drop_of_length_le (by simp; omega)] at hf
    rw [← hf]
    rfl
  | succ d ih =>
    intro i k hi hf
    have hw : wrap64 ((i : Int) + 1) = ((i + 1 : Nat) : Int) := by rw [wrapZ _ (by omega) (by omega)]; omega
    have hA := r02at_eq h (by omega) (show a + i < n by omega) (d + k + 1)
    rw [show s.size + (d + k + 1) + 22 = d + 1 + s.size + k + 22 by omega] at hA
    have h2 := st_mono s (show a ≤ a + i by omega)
    rw [hl.from_] at h2
    have hC := rclass_eq (d + 1 + s.size + k + 19) (((Utf8.decode s (st s (a + i))).1 : Nat) : Int)
    rw [show d + 1 + s.size + k + 19 + 3 = d + 1 + s.size + k + 22 by omega] at hC
    have hi2 := ih (i + 1) k (by omega)
    rw [show d + s.size + k + 23 = d + 1 + s.size + k + 22 by omega] at hi2
    rw [show d + 1 + s.size + k + 23 = (d + 1 + s.size + k + 22) + 1 by omega, bureauref06_First.l0, lineL_len, if_pos (by omega), if_pos (by omega), lineL_get s a c i (by omega), hA, Option.bind_some, hC, Option.bind_some, hw]
    have hlast : i < ((List.range c).map (fun t => (st s (a + t) - bF s q, Utf8.decode s (st s (a + t))))).length := by rw [List.length_map, List.length_range]; omega
    have hp2 : bF s q + (st s (a + i) - bF s q) = st s (a + i) := by omega
    have hf := hf.out
    rw [List.drop_eq_getElem_cons hlast, List.getElem_map, List.getElem_range] at hf
    by_cases hz : classZ (((Utf8.decode s (st s (a + i))).1 : Nat) : Int) = 0
    · rw [fst_miss _ _ _ _ (by simp only [hz]; rfl)] at hf
      rw [if_pos hz]
      exact hi2 ⟨hf⟩
    · rw [fst_hit _ _ _ _ (by simpa using hz)] at hf
      rw [if_neg hz]
      rw [← hf]
      exact congrArg (fun z : Nat => some (z : Int)) hp2.symm
theorem rfirst_eq (s : ByteArray) (hs : s.size < 900000) (x : Int) (k : Nat) : bureauref06_First.f (s.size * 2 + k + 24) s x = some (firstZ s x : Int) := by
  obtain ⟨n, h⟩ := signs_ex s
  have hn := h.le
  have hq := intoZ_lt s x
  have hB := rbrought_eq s hs x (s.size + k + 23)
  rw [show s.size + (s.size + k + 23) + 1 = s.size * 2 + k + 24 by omega] at hB
  unfold bureauref06_First.f firstZ
  rw [hB, Option.bind_some]
  generalize intoZ s x = q at *
  obtain ⟨a, c, hl⟩ := line_signs h q hq
  have hac := hl.le
  have hS := rstarts_eq h (by omega) hq hl (s.size + k + 2)
  rw [show s.size + (s.size + k + 2) + 22 = s.size * 2 + k + 24 by omega] at hS
  have hF := first_loop h hs hq hl _ c 0 (s.size - c + k + 1) (by omega) ⟨by rw [List.drop_zero]⟩
  rw [show c + s.size + (s.size - c + k + 1) + 23 = s.size * 2 + k + 24 by omega] at hF
  rw [hS, Option.bind_some, hl.eq]
  exact hF
/-! ### the reference's signs, by number -/
theorem r02at_st {s : ByteArray} {n j : Nat} (h : Signs s n) (hs : s.size < 1000000) (hj : j < n) (k : Nat) : bureauref02_At.f (s.size + k + 22) s ((Ext.st s j : Nat) : Int) = some ((((Utf8.decode s (Ext.st s j)).1 : Nat) : Int), (((Utf8.decode s (Ext.st s j)).2 : Nat) : Int)) := by
  have hA := at_st h (show j ≤ n by omega)
  have hlen : ((scan s s.size 0).map sig).length = n := by rw [map_sig h]; simp
  have hW : bureauref02_which.f (s.size + k + 22) ((scan s s.size 0).map sig) ((Ext.st s j : Nat) : Int) = some (j : Int) := which_eq h hs hA (k + 21)
  unfold bureauref02_At.f
  rw [signs_eq s hs k, Option.bind_some, hW, Option.bind_some, hlen, if_neg (by omega), if_pos (by omega), if_pos (by omega), rd_T68_nat _ j (by omega)]
  simp only [map_sig h, List.getElem_map, List.getElem_range]
  rfl
theorem rnext_st {s : ByteArray} {n j : Nat} (h : Signs s n) (hs : s.size < 1000000) (hj : j < n) (k : Nat) : bureauref02_Next.f (s.size + k + 22) s ((Ext.st s j : Nat) : Int) = some ((Ext.st s (j + 1) : Nat) : Int) := by
  have hn := h.le
  unfold bureauref02_Next.f
  have hw : wrap64 ((j : Int) + 1) = ((j + 1 : Nat) : Int) := by rw [wrapZ _ (by omega) (by omega)]; omega
  have hW : bureauref02_which.f (s.size + k + 22) ((scan s s.size 0).map sig) ((Ext.st s j : Nat) : Int) = some (j : Int) := which_eq h hs (at_st h (by omega)) (k + 21)
  rw [signs_eq s hs k, Option.bind_some, hW, Option.bind_some, hw, begins_eq h hs, Option.bind_some]
  by_cases hc : j + 1 < n
  · rw [if_pos hc]
  · rw [if_neg hc, show j + 1 = n by omega, h.last]
/-! ### the document's lists of places -/
def resL (l : List Int) (N : Nat) : Int × Bool := match l[N - 1]? with | some v => (v, true) | none => (0, false)
theorem resL_hit (v : Int) (l : List Int) : resL (v :: l) 1 = (v, true) := rfl
theorem resL_more (v : Int) (l : List Int) (N : Nat) (h : 2 ≤ N) : resL (v :: l) N = resL l (N - 1) := by
  obtain ⟨m, rfl⟩ : ∃ m, N = m + 2 := ⟨N - 2, by omega⟩
  rfl
theorem resL_map (s : ByteArray) (l : List Nat) (N : Nat) : resL (l.map (fun t => ((Ext.st s t : Nat) : Int))) N = resI s l N 0 := by
  unfold resL resI
  rw [List.getElem?_map]
  cases l[N - 1]? <;> rfl
theorem resL_mapB (s : ByteArray) (l : List Nat) (N : Nat) (other : Int) : (if (resL (l.map (fun t => ((bF s t : Nat) : Int))) N).2 = true then (resL (l.map (fun t => ((bF s t : Nat) : Int))) N).1 else other) = resB s l N other := by
  unfold resL resB
  rw [List.getElem?_map]
  cases l[N - 1]? <;> rfl
theorem resI_or (s : ByteArray) (l : List Nat) (N : Nat) (other : Int) : (if (resI s l N 0).2 = true then (resI s l N 0).1 else other) = (resI s l N other).1 := by
  unfold resI
  cases l[N - 1]? <;> rfl
theorem rd_get (xs : List Int) (i : Nat) (h : i < xs.length) : rd xs (i : Int) = xs[i] := rd_nat xs i h
theorem behind_loop (xs : List Int) (hx : xs.length < 1000000) (a : Int) : ∀ (c i N k : Nat), i + c = xs.length → 1 ≤ N → N ≤ 999 →
    bureauref12_behind.l0 (c + 1 + k) xs a (N : Int) (i : Int) = some (resL ((xs.drop i).filter (fun v => decide (a < v))) N) := by
  intro c
  induction c with
  | zero =>
    intro i N k hi h1 h2
    rw [show 0 + 1 + k = k + 1 by omega, bureauref12_behind.l0, if_neg (by omega), List.drop_of_length_le (by omega)]
    rfl
  | succ c ih =>
    intro i N k hi h1 h2
    have hlt : i < xs.length := by omega
    have hw : wrap64 ((i : Int) + 1) = ((i + 1 : Nat) : Int) := by rw [wrapZ _ (by omega) (by omega)]; omega
    have hwn : wrap64 ((N : Int) - 1) = ((N - 1 : Nat) : Int) := by rw [wrapZ _ (by omega) (by omega)]; omega
    rw [show c + 1 + 1 + k = (c + 1 + k) + 1 by omega, bureauref12_behind.l0, if_pos (by omega), if_pos (by omega), rd_get xs i hlt, hw, hwn, List.drop_eq_getElem_cons hlt]
    by_cases h : xs[i] > a
    · rw [if_pos h, List.filter_cons_of_pos (by simpa using h)]
      by_cases hN : N = 1
      · subst hN
        rw [if_pos (by omega), resL_hit]
      · rw [if_neg (by omega), ih (i + 1) (N - 1) k (by omega) (by omega) (by omega), resL_more _ _ _ (by omega)]
    · rw [if_neg h, List.filter_cons_of_neg (by simpa using h), ih (i + 1) N k (by omega) h1 h2]
theorem behind_eq (xs : List Int) (hx : xs.length < 1000000) (a : Int) (N K : Nat) (hK : xs.length + 1 ≤ K) (h1 : 1 ≤ N) (h2 : N ≤ 999) : bureauref12_behind.f K xs a (N : Int) = some (resL (xs.filter (fun v => decide (a < v))) N) := by
  obtain ⟨k, rfl⟩ : ∃ k, K = xs.length + 1 + k := ⟨K - (xs.length + 1), by omega⟩
  exact behind_loop xs hx a xs.length 0 N k (by omega) h1 h2
theorem ahead_loop (xs : List Int) (hx : xs.length < 1000000) (a : Int) : ∀ (c N k : Nat), c ≤ xs.length → 1 ≤ N → N ≤ 999 →
    bureauref12_ahead.l0 (c + 1 + k) xs a (N : Int) ((c : Int) - 1) = some (resL ((xs.take c).filter (fun v => decide (v < a))).reverse N) := by
  intro c
  induction c with
  | zero =>
    intro N k hi h1 h2
    rw [show 0 + 1 + k = k + 1 by omega, bureauref12_ahead.l0, if_neg (by omega)]
    rfl
  | succ c ih =>
    intro N k hi h1 h2
    have hlt : c < xs.length := by omega
    have hw : wrap64 ((c : Int) - 1) = (c : Int) - 1 := by rw [wrapZ _ (by omega) (by omega)]
    have hwn : wrap64 ((N : Int) - 1) = ((N - 1 : Nat) : Int) := by rw [wrapZ _ (by omega) (by omega)]; omega
    rw [show c + 1 + 1 + k = (c + 1 + k) + 1 by omega, show ((c + 1 : Nat) : Int) - 1 = (c : Int) by omega, bureauref12_ahead.l0, if_pos (by omega), if_pos (by omega), if_pos (by omega), rd_get xs c hlt, hw, hwn, List.take_succ_eq_append_getElem hlt, List.filter_append, List.reverse_append]
    by_cases h : xs[c] < a
    · rw [if_pos h, List.filter_cons_of_pos (by simpa using h), List.filter_nil, List.reverse_singleton, List.singleton_append]
      by_cases hN : N = 1
      · subst hN
        rw [if_pos (by omega), resL_hit]
      · rw [if_neg (by omega), ih (N - 1) k (by omega) (by omega) (by omega), resL_more _ _ _ (by omega)]
    · rw [if_neg h, List.filter_cons_of_neg (by simpa using h), List.filter_nil, List.reverse_nil, List.nil_append, ih N k (by omega) h1 h2]
theorem ahead_eq (xs : List Int) (hx : xs.length < 1000000) (a : Int) (N K : Nat) (hK : xs.length + 1 ≤ K) (h1 : 1 ≤ N) (h2 : N ≤ 999) : bureauref12_ahead.f K xs a (N : Int) = some (resL (xs.filter (fun v => decide (v < a))).reverse N) := by
  obtain ⟨k, rfl⟩ : ∃ k, K = xs.length + 1 + k := ⟨K - (xs.length + 1), by omega⟩
  unfold bureauref12_ahead.f
  rw [wrapZ _ (by omega) (by omega), ahead_loop xs hx a xs.length N k (Nat.le_refl _) h1 h2, List.take_length]
/-! ### lists of numbers -/
theorem range_gt (b j : Nat) (hb : b ≤ j + 1) : ∀ m, (List.range' b m).filter (fun t => decide (j < t)) = List.range' (j + 1) (b + m - (j + 1)) := by
  intro m
  induction m with
  | zero => rw [show b + 0 - (j + 1) = 0 by omega]; rfl
  | succ m ih =>
    rw [List.range'_1_concat, List.filter_append, ih]
    by_cases c : j < b + m
    · rw [List.filter_cons_of_pos (by simpa using c), List.filter_nil, show b + (m + 1) - (j + 1) = (b + m - (j + 1)) + 1 by omega, List.range'_1_concat, show j + 1 + (b + m - (j + 1)) = b + m by omega]
    · rw [List.filter_cons_of_neg (by simpa using c), List.filter_nil, List.append_nil, show b + (m + 1) - (j + 1) = b + m - (j + 1) by omega]
theorem range_lt (b j : Nat) : ∀ m, b ≤ j → j ≤ b + m → (List.range' b m).filter (fun t => decide (t < j)) = List.range' b (j - b) := by
  intro m
  induction m with
  | zero => intro h1 h2; rw [show j - b = 0 by omega]; rfl
  | succ m ih =>
    intro h1 h2
    rw [List.range'_1_concat, List.filter_append]
    by_cases c : j = b + (m + 1)
    · rw [List.filter_cons_of_pos (by simp; omega), List.filter_nil, show j - b = m + 1 by omega, List.range'_1_concat]
      congr 1
      exact List.filter_eq_self.2 (fun t ht => by have := (List.mem_range'_1.1 ht).2; simp; omega)
    · rw [List.filter_cons_of_neg (by simp; omega), List.filter_nil, List.append_nil, ih h1 (by omega)]
theorem gt_list {s : ByteArray} {n j b m : Nat} (h : Signs s n) (hj : j ≤ n) (hb : b ≤ j + 1) (hm : b + m ≤ n) (p : Int → Bool) :
    ((dnI s p b m).map (fun t => ((Ext.st s t : Nat) : Int))).filter (fun v => decide (((Ext.st s j : Nat) : Int) < v)) = (dnI s p (j + 1) (b + m - (j + 1))).map (fun t => ((Ext.st s t : Nat) : Int)) := by
  rw [List.filter_map]
  congr 1
  unfold dnI
  rw [← range_gt b j hb m, List.filter_filter, List.filter_filter]
  refine List.filter_congr (fun t ht => ?_)
  have ht := List.mem_range'_1.1 ht
  have hi := st_lt_iff h (a := j) (b := t) hj (by omega)
  have : decide (((Ext.st s j : Nat) : Int) < ((Ext.st s t : Nat) : Int)) = decide (j < t) := by
    rw [decide_eq_decide, ← hi]; omega
  simp only [Function.comp]
  rw [this, Bool.and_comm]
theorem lt_list {s : ByteArray} {n j b m : Nat} (h : Signs s n) (hj : j ≤ b + m) (hb : b ≤ j) (hm : b + m ≤ n) (p : Int → Bool) :
    (((dnI s p b m).map (fun t => ((Ext.st s t : Nat) : Int))).filter (fun v => decide (v < ((Ext.st s j : Nat) : Int)))).reverse = (upI s p b (j - b)).map (fun t => ((Ext.st s t : Nat) : Int)) := by
  unfold upI
  rw [List.filter_map, ← List.map_reverse]
  congr 2
  unfold dnI
  rw [← range_lt b j m hb hj, List.filter_filter, List.filter_filter]
  refine List.filter_congr (fun t ht => ?_)
  have ht := List.mem_range'_1.1 ht
  have hi := st_lt_iff h (a := t) (b := j) (by omega) (by omega)
  have : decide (((Ext.st s t : Nat) : Int) < ((Ext.st s j : Nat) : Int)) = decide (t < j) := by
    rw [decide_eq_decide, ← hi]; omega
  simp only [Function.comp]
  rw [this, Bool.and_comm]
theorem map_len (s : ByteArray) (p : Int → Bool) (b m : Nat) : ((dnI s p b m).map (fun t => ((Ext.st s t : Nat) : Int))).length ≤ m := by
  rw [List.length_map]
  unfold dnI
  have := List.length_filter_le (fun t => p ((Ext.st s t : Nat) : Int)) (List.range' b m)
  rwa [List.length_range'] at this
/-! ### Beginnings, Ends -/
def sigs (s : ByteArray) : List S68 := (scan s s.size 0).map sig
theorem sigs_len {s : ByteArray} {n : Nat} (h : Signs s n) : (sigs s).length = n := by unfold sigs; rw [map_sig h]; simp
theorem sigs_get {s : ByteArray} {n i : Nat} (h : Signs s n) (hi : i < n) : rd_T68 (sigs s) (i : Int) = sig (Ext.st s i, Utf8.decode s (Ext.st s i)) := by
  rw [rd_T68_nat _ i (by rw [sigs_len h]; exact hi)]
  unfold sigs
  simp only [map_sig h, List.getElem_map, List.getElem_range]
def clN (s : ByteArray) (t : Nat) : Int := classZ (((Utf8.decode s (Ext.st s t)).1 : Nat) : Int)
theorem cls_st {s : ByteArray} {n t : Nat} (h : Signs s n) (ht : t < n) : clsZ s ((Ext.st s t : Nat) : Int) = clN s t := by
  have h1 := h.lt t ht
  unfold clsZ clN
  rw [if_neg (by omega), if_neg (by omega), runeZ_st h ht]
theorem cls_end {s : ByteArray} {n : Nat} (h : Signs s n) : clsZ s ((Ext.st s n : Nat) : Int) = -1 := by
  have h1 := h.last
  unfold clsZ
  rw [if_neg (by omega), if_pos (by omega)]
theorem rclass12 {s : ByteArray} {n i K : Nat} (h : Signs s n) (hi : i < n) (hK : 3 ≤ K) : bureauref12_class.f K (sigs s) (i : Int) = some (clN s i) := by
  obtain ⟨k, rfl⟩ : ∃ k, K = k + 3 := ⟨K - 3, by omega⟩
  unfold bureauref12_class.f
  rw [if_pos (by omega), if_pos (by rw [sigs_len h]; omega), sigs_get h hi]
  show (bureauref02_Class.f (k + 3) (((Utf8.decode s (Ext.st s i)).1 : Nat) : Int)).bind _ = _
  rw [rclass_eq]
  rfl
def wdN (s : ByteArray) (t : Nat) : Bool := clN s t == 1 || clN s t == 2
theorem rword12 {s : ByteArray} {n i K : Nat} (h : Signs s n) (hi : i < n) (hK : 3 ≤ K) : bureauref12_word.f K (sigs s) (i : Int) = some (wdN s i) := by
  unfold bureauref12_word.f wdN
  rw [rclass12 h hi hK, Option.bind_some, Option.bind_some]
  by_cases c : clN s i = 1
  · rw [if_pos c, c]; rfl
  · rw [if_neg c, beq_eq_false_iff_ne.2 c, Bool.false_or]
theorem beg_st {s : ByteArray} {n t : Nat} (h : Signs s n) (ht : t < n) : begZ s ((Ext.st s t : Nat) : Int) = (wdN s t && (t == 0 || clN s (t - 1) != clN s t)) := by
  unfold begZ wdN
  rw [cls_st h ht]
  cases t with
  | zero =>
    rw [show ((Ext.st s 0 : Nat) : Int) = 0 from rfl]
    rfl
  | succ t =>
    have h1 := Ext.st_lt h (show 0 < t + 1 by omega) (by omega)
    have e1 : (((Ext.st s (t + 1) : Nat) : Int) == 0) = false := beq_eq_false_iff_ne.2 (by omega)
    have e2 : (t + 1 == 0) = false := rfl
    rw [prevZ_st h (by omega), cls_st h (by omega), e1, e2, Nat.add_sub_cancel]
theorem fin_st {s : ByteArray} {n t : Nat} (h : Signs s n) (ht : t < n) : finZ s ((Ext.st s t : Nat) : Int) = (wdN s t && (t + 1 == n || clN s (t + 1) != clN s t)) := by
  unfold finZ wdN
  rw [cls_st h ht, nextZ_st h ht]
  by_cases c : t + 1 = n
  · have e : (t + 1 == n) = true := by simpa using c
    rw [e, Bool.true_or, Bool.and_true, c, cls_end h]
    by_cases c1 : clN s t = 1
    · rw [c1]; rfl
    · by_cases c2 : clN s t = 2
      · rw [c2]; rfl
      · rw [beq_eq_false_iff_ne.2 c1, beq_eq_false_iff_ne.2 c2]; rfl
  · have e : (t + 1 == n) = false := by simpa using c
    rw [e, Bool.false_or, cls_st h (by omega)]
theorem begs_loop {s : ByteArray} {n : Nat} (h : Signs s n) (hn : n < 1000000) : ∀ (c i k : Nat) (acc : List Int), i + c = n → acc.length ≤ i →
    bureauref12_Beginnings.l0 (c + 4 + k) (sigs s) acc (i : Int) = some (acc ++ (dnI s (begZ s) i c).map (fun t => ((Ext.st s t : Nat) : Int))) := by
  intro c
  induction c with
  | zero =>
    intro i k acc hi ha
    rw [show 0 + 4 + k = (k + 3) + 1 by omega, bureauref12_Beginnings.l0, sigs_len h, if_neg (by omega)]
    simp [dnI]
  | succ c ih =>
    intro i k acc hi ha
    have hin : i < n := by omega
    have hw : wrap64 ((i : Int) + 1) = ((i + 1 : Nat) : Int) := by rw [wrapZ _ (by omega) (by omega)]; omega
    have hb := beg_st h hin
    have i1 := ih (i + 1) k acc (by omega) (by omega)
    have i2 := ih (i + 1) k (acc ++ [((Ext.st s i : Nat) : Int)]) (by omega) (by simp; omega)
    have ha2 : acc.length < 17592186044416 := by omega
    have h0 : (0 : Int) ≤ (i : Int) := by omega
    rw [show c + 1 + 4 + k = (c + 4 + k) + 1 by omega, bureauref12_Beginnings.l0, sigs_len h, if_pos (by omega), rword12 h hin (by omega), Option.bind_some, sigs_get h hin, hw]
    have ef : (sig (Ext.st s i, Utf8.decode s (Ext.st s i))).f0 = ((Ext.st s i : Nat) : Int) := rfl
    rw [ef]
    cases w : wdN s i
    · rw [if_neg (by decide), i1, dnI_miss c (by rw [hb, w, Bool.false_and]; decide)]
    · rw [if_pos rfl]
      cases i with
      | zero =>
        rw [if_pos (by omega), if_pos h0, if_pos ha2, i2, dnI_hit c (by rw [hb, w]; rfl), List.append_assoc]
        rfl
      | succ i =>
        have hwp : wrap64 (((i + 1 : Nat) : Int) - 1) = (i : Int) := by rw [wrapZ _ (by omega) (by omega)]; omega
        rw [if_neg (by omega), hwp, rclass12 h (by omega) (by omega), Option.bind_some, rclass12 h hin (by omega), Option.bind_some]
        have e : begZ s ((Ext.st s (i + 1) : Nat) : Int) = (clN s i != clN s (i + 1)) := by rw [hb, w]; rfl
        by_cases cc : clN s i = clN s (i + 1)
        · rw [if_pos cc, i1, dnI_miss c (by rw [e, bne_eq_false_iff_eq.2 cc]; decide)]
        · rw [if_neg cc, if_pos h0, if_pos ha2, i2, dnI_hit c (by rw [e]; exact bne_iff_ne.2 cc), List.append_assoc]
          rfl
theorem begs_eq {s : ByteArray} {n : Nat} (h : Signs s n) (hs : s.size < 100000) (K : Nat) (hK : 2 * s.size + 60 ≤ K) : bureauref12_Beginnings.f K s = some ((dnI s (begZ s) 0 n).map (fun t => ((Ext.st s t : Nat) : Int))) := by
  have hn := h.le
  obtain ⟨k, rfl⟩ : ∃ k, K = s.size + k + 22 := ⟨K - (s.size + 22), by omega⟩
  unfold bureauref12_Beginnings.f
  rw [signs_eq s (by omega) k, Option.bind_some]
  have := begs_loop h (by omega) n 0 (s.size + k + 22 - n - 4) [] (by omega) (by simp)
  rw [show n + 4 + (s.size + k + 22 - n - 4) = s.size + k + 22 by omega] at this
  exact this
theorem fins_loop {s : ByteArray} {n : Nat} (h : Signs s n) (hn : n < 1000000) : ∀ (c i k : Nat) (acc : List Int), i + c = n → acc.length ≤ i →
    bureauref12_Ends.l0 (c + 4 + k) (sigs s) acc (i : Int) = some (acc ++ (dnI s (finZ s) i c).map (fun t => ((Ext.st s t : Nat) : Int))) := by
  intro c
  induction c with
  | zero =>
    intro i k acc hi ha
    rw [show 0 + 4 + k = (k + 3) + 1 by omega, bureauref12_Ends.l0, sigs_len h, if_neg (by omega)]
    simp [dnI]
  | succ c ih =>
    intro i k acc hi ha
    have hin : i < n := by omega
    have hw : wrap64 ((i : Int) + 1) = ((i + 1 : Nat) : Int) := by rw [wrapZ _ (by omega) (by omega)]; omega
    have hb := fin_st h hin
    have i1 := ih (i + 1) k acc (by omega) (by omega)
    have i2 := ih (i + 1) k (acc ++ [((Ext.st s i : Nat) : Int)]) (by omega) (by simp; omega)
    have ha2 : acc.length < 17592186044416 := by omega
    have h0 : (0 : Int) ≤ (i : Int) := by omega
    rw [show c + 1 + 4 + k = (c + 4 + k) + 1 by omega, bureauref12_Ends.l0, sigs_len h, if_pos (by omega), rword12 h hin (by omega), Option.bind_some, sigs_get h hin, hw]
    have ef : (sig (Ext.st s i, Utf8.decode s (Ext.st s i))).f0 = ((Ext.st s i : Nat) : Int) := rfl
    rw [ef]
    cases w : wdN s i
    · rw [if_neg (by decide), i1, dnI_miss c (by rw [hb, w, Bool.false_and]; decide)]
    · rw [if_pos rfl]
      by_cases cl : i + 1 = n
      · rw [if_pos (by omega), if_pos h0, if_pos ha2, i2, dnI_hit c (by rw [hb, w, beq_iff_eq.2 cl]; rfl), List.append_assoc]
        rfl
      · rw [if_neg (by omega), rclass12 h (by omega) (by omega), Option.bind_some, rclass12 h hin (by omega), Option.bind_some]
        have e : finZ s ((Ext.st s i : Nat) : Int) = (clN s (i + 1) != clN s i) := by rw [hb, w, beq_eq_false_iff_ne.2 cl]; rfl
        by_cases cc : clN s (i + 1) = clN s i
        · rw [if_pos cc, i1, dnI_miss c (by rw [e, bne_eq_false_iff_eq.2 cc]; decide)]
        · rw [if_neg cc, if_pos h0, if_pos ha2, i2, dnI_hit c (by rw [e]; exact bne_iff_ne.2 cc), List.append_assoc]
          rfl
theorem fins_eq {s : ByteArray} {n : Nat} (h : Signs s n) (hs : s.size < 100000) (K : Nat) (hK : 2 * s.size + 60 ≤ K) : bureauref12_Ends.f K s = some ((dnI s (finZ s) 0 n).map (fun t => ((Ext.st s t : Nat) : Int))) := by
  have hn := h.le
  obtain ⟨k, rfl⟩ : ∃ k, K = s.size + k + 22 := ⟨K - (s.size + 22), by omega⟩
  unfold bureauref12_Ends.f
  rw [signs_eq s (by omega) k, Option.bind_some]
  have := fins_loop h (by omega) n 0 (s.size + k + 22 - n - 4) [] (by omega) (by simp)
  rw [show n + 4 + (s.size + k + 22 - n - 4) = s.size + k + 22 by omega] at this
  exact this
/-! ### inLine -/
def argP (s : ByteArray) (g : Int) : Int → Bool := if g < 0 then fun _ => true else fun a => runeZ s a == g
def inL (s : ByteArray) (lo hi g : Int) (i c : Nat) : List Nat := (List.range' i c).filter (fun t => decide (lo ≤ ((Ext.st s t : Nat) : Int)) && (decide (((Ext.st s t : Nat) : Int) < hi) && argP s g ((Ext.st s t : Nat) : Int)))
theorem inLine_loop {s : ByteArray} {n : Nat} (h : Signs s n) (hn : n < 1000000) (lo hi g : Int) : ∀ (c i k : Nat) (acc : List Int), i + c = n → acc.length ≤ i →
    bureauref12_inLine.l0 (c + 1 + k) g lo hi (sigs s) acc (i : Int) = some (acc ++ (inL s lo hi g i c).map (fun t => ((Ext.st s t : Nat) : Int))) := by
  intro c
  induction c with
  | zero =>
    intro i k acc hi' ha
    rw [show 0 + 1 + k = k + 1 by omega, bureauref12_inLine.l0, sigs_len h, if_neg (by omega)]
    simp [inL]
  | succ c ih =>
    intro i k acc hi' ha
    have hin : i < n := by omega
    have hw : wrap64 ((i : Int) + 1) = ((i + 1 : Nat) : Int) := by rw [wrapZ _ (by omega) (by omega)]; omega
    have i1 := ih (i + 1) k acc (by omega) (by omega)
    have i2 := ih (i + 1) k (acc ++ [((Ext.st s i : Nat) : Int)]) (by omega) (by simp; omega)
    have ha2 : acc.length < 17592186044416 := by omega
    have e1 : c + 1 + 1 + k = (c + 1 + k) + 1 := by omega
    have e2 : (i : Int) < (n : Int) := by omega
    have e3 : (0 : Int) ≤ (i : Int) := by omega
    have ef : (sig (Ext.st s i, Utf8.decode s (Ext.st s i))).f0 = ((Ext.st s i : Nat) : Int) := rfl
    have er : (sig (Ext.st s i, Utf8.decode s (Ext.st s i))).f2 = (((Utf8.decode s (Ext.st s i)).1 : Nat) : Int) := rfl
    have hr := runeZ_st h hin
    rw [e1, bureauref12_inLine.l0, sigs_len h, if_pos e2, if_pos e3, sigs_get h hin, hw, ef, er, i1, i2]
    unfold inL
    rw [List.range'_succ]
    by_cases c1 : ((Ext.st s i : Nat) : Int) ≥ lo
    · by_cases c2 : ((Ext.st s i : Nat) : Int) < hi
      · by_cases c3 : g < 0
        · have hp : argP s g ((Ext.st s i : Nat) : Int) = true := by unfold argP; rw [if_pos c3]
          rw [if_pos c1, if_pos c2, if_pos c3, if_pos ha2, List.filter_cons_of_pos (by rw [decide_eq_true c1, decide_eq_true c2, hp]; rfl), List.append_assoc]
          rfl
        · by_cases c4 : (((Utf8.decode s (Ext.st s i)).1 : Nat) : Int) = g
          · have hp : argP s g ((Ext.st s i : Nat) : Int) = true := by unfold argP; rw [if_neg c3, hr]; exact beq_iff_eq.2 c4
            rw [if_pos c1, if_pos c2, if_neg c3, if_pos c4, if_pos ha2, List.filter_cons_of_pos (by rw [decide_eq_true c1, decide_eq_true c2, hp]; rfl), List.append_assoc]
            rfl
          · have hp : argP s g ((Ext.st s i : Nat) : Int) = false := by unfold argP; rw [if_neg c3, hr]; exact beq_eq_false_iff_ne.2 c4
            rw [if_pos c1, if_pos c2, if_neg c3, if_neg c4, List.filter_cons_of_neg (by rw [hp, Bool.and_false, Bool.and_false]; decide)]
      · rw [if_pos c1, if_neg c2, List.filter_cons_of_neg (by rw [decide_eq_false c2, Bool.false_and, Bool.and_false]; decide)]
    · rw [if_neg c1, List.filter_cons_of_neg (by rw [decide_eq_false c1, Bool.false_and]; decide)]
theorem inL_eq {s : ByteArray} {n a c : Nat} (h : Signs s n) (hac : a + c ≤ n) (g : Int) : inL s ((Ext.st s a : Nat) : Int) ((Ext.st s (a + c) : Nat) : Int) g 0 n = dnI s (argP s g) a c := by
  have e : (List.range' 0 n).filter (fun t => decide (a ≤ t) && decide (t < a + c)) = List.range' a c := by
    rw [← List.filter_filter, range_lt 0 (a + c) n (Nat.zero_le _) (by omega), Nat.sub_zero]
    cases a with
    | zero =>
      rw [Nat.zero_add]
      exact List.filter_eq_self.2 (fun t _ => by simp)
    | succ a =>
      have := range_gt 0 a (Nat.zero_le _) (a + 1 + c)
      rw [show 0 + (a + 1 + c) - (a + 1) = c by omega] at this
      rw [← this]
      exact List.filter_congr (fun t _ => decide_eq_decide.2 (by omega))
  unfold inL dnI
  rw [← e, List.filter_filter]
  refine List.filter_congr (fun t ht => ?_)
  have ht := List.mem_range'_1.1 ht
  have h1 := st_le_iff h (a := a) (b := t) (by omega) (by omega)
  have h2 := st_lt_iff h (a := t) (b := a + c) (by omega) hac
  have d1 : decide (((Ext.st s a : Nat) : Int) ≤ ((Ext.st s t : Nat) : Int)) = decide (a ≤ t) := decide_eq_decide.2 (by rw [← h1]; omega)
  have d2 : decide (((Ext.st s t : Nat) : Int) < ((Ext.st s (a + c) : Nat) : Int)) = decide (t < a + c) := decide_eq_decide.2 (by rw [← h2]; omega)
  rw [d1, d2]
  cases decide (a ≤ t) <;> cases decide (t < a + c) <;> cases argP s g ((Ext.st s t : Nat) : Int) <;> rfl
theorem inLine_eq {s : ByteArray} {n q a c : Nat} (h : Signs s n) (hq : q < nE s) (ls : LineSigns s n q a c) (hs : s.size < 100000) (g : Int) (K : Nat) (hK : 2 * s.size + 60 ≤ K) :
    bureauref12_inLine.f K s (q : Int) g = some ((dnI s (argP s g) a c).map (fun t => ((Ext.st s t : Nat) : Int))) := by
  have hn := h.le
  obtain ⟨k, rfl⟩ : ∃ k, K = s.size + k + 22 := ⟨K - (s.size + 22), by omega⟩
  unfold bureauref12_inLine.f
  have hB := rbounds_eq s (by omega) (q : Int) (k + 20)
  rw [show s.size + (k + 20) + 2 = s.size + k + 22 by omega, boundsZ_in s q hq] at hB
  rw [hB, Option.bind_some, signs_eq s (by omega) k, Option.bind_some]
  simp only
  have := inLine_loop h (by omega) ((bF s q : Nat) : Int) ((bT s q : Nat) : Int) g n 0 (s.size + k + 22 - n - 1) [] (by omega) (by simp)
  rw [show n + 1 + (s.size + k + 22 - n - 1) = s.size + k + 22 by omega] at this
  refine this.trans ?_
  rw [← ls.from_, ← ls.to_, inL_eq h ls.le]
  rfl
/-! ### empties -/
theorem emp_line (s : ByteArray) (q : Nat) (hq : q < nE s) : empZ s ((bF s q : Nat) : Int) = (bF s q == bT s q) := by
  have hb := bT_le s q (by unfold nE at hq; exact hq)
  have hg := bT_gb s q hq
  unfold empZ
  have first : (((bF s q : Nat) : Int) == 0 || bt s (((bF s q : Nat) : Int) - 1) == 10) = true := by
    cases q with
    | zero => rfl
    | succ q =>
      have hst := lines_step s q
      have hb2 := bT_le s q (by unfold nE at hq; omega)
      have hg2 := bT_gb s q (by omega)
      have h10 := hg2.1 (by omega)
      rw [hst, show ((bT s q + 1 : Nat) : Int) - 1 = ((bT s q : Nat) : Int) by omega, bt_gb s _ (by omega), h10]
      simp
  rw [first, Bool.true_and]
  by_cases c : bF s q = bT s q
  · rw [beq_iff_eq.2 c]
    by_cases c2 : bF s q < s.size
    · have h10 := hg.1 (by omega)
      rw [bt_gb s _ c2, c, h10]
      simp
    · have : bF s q = s.size := by omega
      rw [this]
      simp
  · rw [beq_eq_false_iff_ne.2 c]
    have hlt : bF s q < s.size := by omega
    have e1 : (((bF s q : Nat) : Int) == (s.size : Int)) = false := beq_eq_false_iff_ne.2 (by omega)
    rw [e1, Bool.false_or, bt_gb s _ hlt]
    have h1 := of_line s q (bF s q) hq (Nat.le_refl _) hb.1
    have h2 := of_line s q (bF s q + 1) hq (by omega) (by omega)
    have hl : bF s q < s.data.toList.length := by rw [← size_list]; exact hlt
    have hgl := gb_list s (bF s q) _ (List.getElem?_eq_getElem hl)
    unfold ofZ at h1 h2
    rw [show (min (max ((bF s q : Nat) : Int) 0) (s.size : Int)).toNat = bF s q by omega] at h1
    rw [show (min (max ((bF s q + 1 : Nat) : Int) 0) (s.size : Int)).toNat = bF s q + 1 by omega, List.take_succ_eq_append_getElem hl, List.count_append, h1] at h2
    refine beq_eq_false_iff_ne.2 (fun e => ?_)
    have : s.data.toList[bF s q] = 10 := by
      apply UInt8.toNat_inj.1
      rw [← hgl]
      show gb s (bF s q) = 10
      omega
    rw [this] at h2
    simp at h2
theorem emp_loop (s : ByteArray) (hs : s.size < 100000) : ∀ (c i k : Nat) (acc : List Int), i + c = nE s → acc.length ≤ i →
    bureauref12_empties.l0 (s.size + 10 + c + k) s acc (i : Int) = some (acc ++ (pI s i c).map (fun t => ((bF s t : Nat) : Int))) := by
  have hnE := nE_le s
  intro c
  induction c with
  | zero =>
    intro i k acc hi ha
    have hC := rcount_eq s (by omega) (k + 8)
    rw [show s.size + 10 + 0 + k = (s.size + (k + 8) + 1) + 1 by omega, bureauref12_empties.l0, hC, Option.bind_some, if_neg (by omega)]
    simp [pI]
  | succ c ih =>
    intro i k acc hi ha
    have hC := rcount_eq s (by omega) (c + 1 + k + 8)
    have hB := rbounds_eq s (by omega) (i : Int) (c + 1 + k + 7)
    rw [boundsZ_in s i (by omega), show s.size + (c + 1 + k + 7) + 2 = s.size + (c + 1 + k + 8) + 1 by omega] at hB
    have hw : wrap64 ((i : Int) + 1) = ((i + 1 : Nat) : Int) := by rw [wrapZ _ (by omega) (by omega)]; omega
    have hE := emp_line s i (by omega)
    rw [show s.size + 10 + (c + 1) + k = (s.size + (c + 1 + k + 8) + 1) + 1 by omega, bureauref12_empties.l0, hC, Option.bind_some, if_pos (by omega), hB, Option.bind_some, hw]
    simp only
    rw [show s.size + (c + 1 + k + 8) + 1 = s.size + 10 + c + k by omega]
    by_cases e : bF s i = bT s i
    · rw [if_pos (by omega), if_pos (by omega), ih (i + 1) k _ (by omega) (by simp; omega), pI_hit c (by rw [hE]; exact beq_iff_eq.2 e), List.append_assoc]
      rfl
    · rw [if_neg (by omega), ih (i + 1) k _ (by omega) (by omega), pI_miss c (by rw [hE, beq_eq_false_iff_ne.2 e]; decide)]
theorem emp_eq (s : ByteArray) (hs : s.size < 100000) (K : Nat) (hK : 2 * s.size + 60 ≤ K) : bureauref12_empties.f K s = some ((pI s 0 (nE s)).map (fun t => ((bF s t : Nat) : Int))) := by
  have hnE := nE_le s
  obtain ⟨k, rfl⟩ : ∃ k, K = s.size + 10 + nE s + k := ⟨K - (s.size + 10 + nE s), by omega⟩
  unfold bureauref12_empties.f
  have := emp_loop s hs (nE s) 0 k [] (by omega) (by simp)
  exact this
theorem bF_lt (s : ByteArray) {q u : Nat} (h : q < u) (hu : u < nE s) : bT s q < bF s u := by
  have := lines_apart s q (u - (q + 1)) (by omega)
  rwa [show q + 1 + (u - (q + 1)) = u by omega] at this
theorem gt_listB (s : ByteArray) {q : Nat} (hq : q < nE s) :
    ((pI s 0 (nE s)).map (fun t => ((bF s t : Nat) : Int))).filter (fun v => decide (((bT s q : Nat) : Int) < v)) = (pI s (q + 1) (nE s - (q + 1))).map (fun t => ((bF s t : Nat) : Int)) := by
  rw [List.filter_map]
  congr 1
  unfold pI
  have hr := range_gt 0 q (Nat.zero_le _) (nE s)
  rw [Nat.zero_add] at hr
  rw [← hr, List.filter_filter, List.filter_filter]
  refine List.filter_congr (fun t ht => ?_)
  have ht := List.mem_range'_1.1 ht
  have : decide (((bT s q : Nat) : Int) < ((bF s t : Nat) : Int)) = decide (q < t) := by
    rw [decide_eq_decide]
    constructor
    · intro h1
      by_cases c : q < t
      · exact c
      · exfalso
        have b := bT_le s t (by unfold nE at hq; omega)
        by_cases c2 : t = q
        · subst c2; omega
        · have := bF_lt s (show t < q by omega) hq
          have b2 := bT_le s q (by unfold nE at hq; omega)
          omega
    · intro h1
      have := bF_lt s h1 (by omega)
      omega
  simp only [Function.comp]
  rw [this, Bool.and_comm]
theorem lt_listB (s : ByteArray) {q : Nat} (hq : q < nE s) :
    (((pI s 0 (nE s)).map (fun t => ((bF s t : Nat) : Int))).filter (fun v => decide (v < ((bF s q : Nat) : Int)))).reverse = ((pI s 0 q).reverse).map (fun t => ((bF s t : Nat) : Int)) := by
  rw [List.filter_map, ← List.map_reverse]
  congr 2
  unfold pI
  have hr := range_lt 0 q (nE s) (Nat.zero_le _) (by omega)
  rw [Nat.sub_zero] at hr
  rw [← hr, List.filter_filter, List.filter_filter]
  refine List.filter_congr (fun t ht => ?_)
  have ht := List.mem_range'_1.1 ht
  have : decide (((bF s t : Nat) : Int) < ((bF s q : Nat) : Int)) = decide (t < q) := by
    rw [decide_eq_decide]
    constructor
    · intro h1
      by_cases c : t < q
      · exact c
      · exfalso
        by_cases c2 : t = q
        · subst c2; omega
        · have := bF_lt s (show q < t by omega) (by omega)
          have b2 := bT_le s q (by unfold nE at hq; omega)
          omega
    · intro h1
      have := bF_lt s h1 hq
      have b2 := bT_le s t (by unfold nE at hq; omega)
      omega
  simp only [Function.comp]
  rw [this, Bool.and_comm]
theorem mapB_len (s : ByteArray) : ((pI s 0 (nE s)).map (fun t => ((bF s t : Nat) : Int))).length ≤ nE s := by
  rw [List.length_map]
  unfold pI
  have := List.length_filter_le (fun k => empZ s ((bF s k : Nat) : Int)) (List.range' 0 (nE s))
  rwa [List.length_range'] at this
theorem alive_eq : bureaulaw12_alive.f = some true := by decide +kernel
theorem argP_any (s : ByteArray) : argP s (-1) = rfZ s .any := by
  unfold argP
  rw [if_pos (by decide)]
  rfl
theorem argP_is (s : ByteArray) {g : Int} (hg : ¬ g < 0) : argP s g = rfZ s (.is g) := by
  unfold argP
  rw [if_neg hg]
  rfl
theorem or_eq (s : ByteArray) (l : List Nat) (N : Nat) (other : Int) : bureauref12_or.f (resI s l N 0).1 (resI s l N 0).2 other = some (resI s l N other).1 := by
  unfold bureauref12_or.f
  rw [← resI_or s l N other]
  split <;> rfl
theorem orB_eq (s : ByteArray) (l : List Nat) (N : Nat) (other : Int) : bureauref12_or.f (resL (l.map (fun t => ((bF s t : Nat) : Int))) N).1 (resL (l.map (fun t => ((bF s t : Nat) : Int))) N).2 other = some (resB s l N other) := by
  unfold bureauref12_or.f
  rw [← resL_mapB s l N other]
  split <;> rfl
theorem exc_eq (a z : Int) : bureauref12_exclusive.f a z true = some (exc a z) := by
  unfold bureauref12_exclusive.f exc
  rw [if_pos rfl]
  by_cases c : z = a
  · rw [if_pos c, if_neg (by simpa using c)]
  · rw [if_neg c, if_pos (by simpa using c)]
theorem exc_no (a z : Int) : bureauref12_exclusive.f a z false = some (0, 0, false) := rfl
theorem inc_eq (a z : Int) : bureauref12_inclusive.f z (decide (z > a)) = some (inc a z) := by
  unfold bureauref12_inclusive.f inc
  by_cases c : z > a
  · rw [decide_eq_true c, if_pos rfl, if_pos c]
  · rw [decide_eq_false c, if_neg (by decide), if_neg c]
structure Big (s : ByteArray) (K : Nat) : Prop where
  sz : s.size ≤ 1024
  k : 4 * s.size + 100 ≤ K
theorem Big.of {s : ByteArray} {K : Nat} (b : Big s K) (x : Int) : bureauref06_Of.f K s x = some ((ofZ s x : Nat) : Int) := by
  have h1 := b.sz; have h2 := b.k
  obtain ⟨k, rfl⟩ : ∃ k, K = s.size * 2 + k + 2 := ⟨K - (s.size * 2 + 2), by omega⟩
  exact rof_eq s (by omega) x k
theorem Big.bounds {s : ByteArray} {K : Nat} (b : Big s K) (x : Int) : bureauref06_Bounds.f K s x = some (boundsZ s x) := by
  have h1 := b.sz; have h2 := b.k
  obtain ⟨k, rfl⟩ : ∃ k, K = s.size + k + 2 := ⟨K - (s.size + 2), by omega⟩
  exact rbounds_eq s (by omega) x k
theorem Big.count {s : ByteArray} {K : Nat} (b : Big s K) : bureauref06_Count.f K s = some ((nE s : Nat) : Int) := by
  have h1 := b.sz; have h2 := b.k
  obtain ⟨k, rfl⟩ : ∃ k, K = s.size + k + 1 := ⟨K - (s.size + 1), by omega⟩
  exact rcount_eq s (by omega) k
theorem Big.first {s : ByteArray} {K : Nat} (b : Big s K) (x : Int) : bureauref06_First.f K s x = some ((firstZ s x : Nat) : Int) := by
  have h1 := b.sz; have h2 := b.k
  obtain ⟨k, rfl⟩ : ∃ k, K = s.size * 2 + k + 24 := ⟨K - (s.size * 2 + 24), by omega⟩
  exact rfirst_eq s (by omega) x k
theorem Big.place {s : ByteArray} {K : Nat} (b : Big s K) (x y : Int) : bureauref06_Place.f K s x y = some ((placeZ s x y : Nat) : Int) := by
  have h1 := b.sz; have h2 := b.k
  obtain ⟨k, rfl⟩ : ∃ k, K = s.size + k + 22 := ⟨K - (s.size + 22), by omega⟩
  exact rplace_eq s (by omega) x y k
theorem Big.col {s : ByteArray} {K : Nat} (b : Big s K) (x : Int) : bureauref06_Col.f K s x = some ((colZ s x : Nat) : Int) := by
  have h1 := b.sz; have h2 := b.k
  obtain ⟨k, rfl⟩ : ∃ k, K = s.size * 2 + k + 22 := ⟨K - (s.size * 2 + 22), by omega⟩
  exact rcol_eq s (by omega) x k
theorem Big.align {s : ByteArray} {K : Nat} (b : Big s K) (x : Int) : bureauref02_Align.f K s x = some ((alignZ s x : Nat) : Int) := by
  have h1 := b.sz; have h2 := b.k
  obtain ⟨k, rfl⟩ : ∃ k, K = s.size + k + 22 := ⟨K - (s.size + 22), by omega⟩
  exact r02align_eq s (by omega) x k
theorem Big.next {s : ByteArray} {K : Nat} (b : Big s K) {n j : Nat} (h : Signs s n) (hj : j < n) : bureauref02_Next.f K s ((Ext.st s j : Nat) : Int) = some ((Ext.st s (j + 1) : Nat) : Int) := by
  have h1 := b.sz; have h2 := b.k
  obtain ⟨k, rfl⟩ : ∃ k, K = s.size + k + 22 := ⟨K - (s.size + 22), by omega⟩
  exact rnext_st h (by omega) hj k
theorem Big.prev {s : ByteArray} {K : Nat} (b : Big s K) {n j : Nat} (h : Signs s n) (hj : j ≤ n) : bureauref02_Prev.f K s ((Ext.st s j : Nat) : Int) = some (prevZ s ((Ext.st s j : Nat) : Int)) := by
  have h1 := b.sz; have h2 := b.k; have h3 := h.le
  obtain ⟨k, rfl⟩ : ∃ k, K = s.size + k + 22 := ⟨K - (s.size + 22), by omega⟩
  have hW : bureauref02_which.f (s.size + k + 22) ((scan s s.size 0).map sig) ((Ext.st s j : Nat) : Int) = some (j : Int) := which_eq h (by omega) (at_st h hj) (k + 21)
  unfold bureauref02_Prev.f
  rw [signs_eq s (by omega) k, Option.bind_some, hW, Option.bind_some]
  cases j with
  | zero => rw [if_pos (by omega), prevZ_0 h]
  | succ j =>
    have hw : wrap64 (((j + 1 : Nat) : Int) - 1) = (j : Int) := by rw [wrapZ _ (by omega) (by omega)]; omega
    rw [if_neg (by omega), hw, begins_eq h (by omega), Option.bind_some, if_pos (by omega), prevZ_st h hj]
section
variable {s : ByteArray} {x : Int} {n j q a c K N : Nat}
theorem dnList (b : Big s K) (P : Pl s x n j q a c) (h1 : 1 ≤ N) (h2 : N ≤ 999) (p : Int → Bool) (b0 m : Nat) (hb : b0 ≤ j + 1) (hm : b0 + m ≤ n) :
    bureauref12_behind.f K ((dnI s p b0 m).map (fun t => ((Ext.st s t : Nat) : Int))) ((Ext.st s j : Nat) : Int) (N : Int) = some (resI s (dnI s p (j + 1) (b0 + m - (j + 1))) N 0) := by
  have hs := b.sz; have hk := b.k; have hn := P.h.le
  have hl := map_len s p b0 m
  rw [behind_eq _ (by omega) _ N K (by omega) h1 h2, gt_list P.h P.hj hb hm, resL_map]
theorem upList (b : Big s K) (P : Pl s x n j q a c) (h1 : 1 ≤ N) (h2 : N ≤ 999) (p : Int → Bool) (b0 m : Nat) (hb : b0 ≤ j) (hj : j ≤ b0 + m) (hm : b0 + m ≤ n) :
    bureauref12_ahead.f K ((dnI s p b0 m).map (fun t => ((Ext.st s t : Nat) : Int))) ((Ext.st s j : Nat) : Int) (N : Int) = some (resI s (upI s p b0 (j - b0)) N 0) := by
  have hs := b.sz; have hk := b.k; have hn := P.h.le
  have hl := map_len s p b0 m
  rw [ahead_eq _ (by omega) _ N K (by omega) h1 h2, lt_list P.h hj hb hm, resL_map]
theorem lineOf (b : Big s K) (P : Pl s x n j q a c) : bureauref06_Of.f K s ((Ext.st s j : Nat) : Int) = some (q : Int) := by rw [b.of, P.of]
theorem lineIn (b : Big s K) (P : Pl s x n j q a c) (g : Int) : bureauref12_inLine.f K s (q : Int) g = some ((dnI s (argP s g) a c).map (fun t => ((Ext.st s t : Nat) : Int))) := by
  have hs := b.sz; have hk := b.k
  exact inLine_eq P.h P.hq P.ls (by omega) g K (by omega)
theorem lineB (b : Big s K) (P : Pl s x n j q a c) : bureauref06_Bounds.f K s (q : Int) = some (((Ext.st s a : Nat) : Int), ((Ext.st s (a + c) : Nat) : Int), 0) := by
  rw [b.bounds, boundsZ_in s q P.hq, P.ls.from_, P.ls.to_]
theorem side_h (b : Big s K) (P : Pl s x n j q a c) (h1 : 1 ≤ N) (h2 : N ≤ 999) : bureauref12_sideways.f K s ((Ext.st s j : Nat) : Int) (N : Int) 104 = some ((resI s (upI s (rfZ s .any) a (j - a)) N ((Ext.st s a : Nat) : Int)).1, true) := by
  unfold bureauref12_sideways.f
  rw [lineOf b P, Option.bind_some, lineB b P, Option.bind_some, lineIn b P, Option.bind_some, if_pos rfl, upList b P h1 h2 _ a c P.haj P.hjc P.ls.le, Option.bind_some, or_eq, Option.bind_some, argP_any]
theorem side_l (b : Big s K) (P : Pl s x n j q a c) (h1 : 1 ≤ N) (h2 : N ≤ 999) : bureauref12_sideways.f K s ((Ext.st s j : Nat) : Int) (N : Int) 108 = some ((resI s (dnI s (rfZ s .any) (j + 1) (a + c - (j + 1))) N ((Ext.st s (a + c) : Nat) : Int)).1, true) := by
  have haj := P.haj
  unfold bureauref12_sideways.f
  rw [lineOf b P, Option.bind_some, lineB b P, Option.bind_some, lineIn b P, Option.bind_some, if_neg (by decide), if_pos rfl, dnList b P h1 h2 _ a c (by omega) P.ls.le, Option.bind_some, or_eq, Option.bind_some, argP_any]
theorem side_0 (b : Big s K) (P : Pl s x n j q a c) : bureauref12_sideways.f K s ((Ext.st s j : Nat) : Int) (N : Int) 48 = some (((Ext.st s a : Nat) : Int), true) := by
  unfold bureauref12_sideways.f
  rw [lineOf b P, Option.bind_some, lineB b P, Option.bind_some, lineIn b P, Option.bind_some, if_neg (by decide), if_neg (by decide), if_pos rfl]
theorem side_c (b : Big s K) (P : Pl s x n j q a c) : bureauref12_sideways.f K s ((Ext.st s j : Nat) : Int) (N : Int) 94 = some (((firstZ s (q : Int) : Nat) : Int), true) := by
  unfold bureauref12_sideways.f
  rw [lineOf b P, Option.bind_some, lineB b P, Option.bind_some, lineIn b P, Option.bind_some, if_neg (by decide), if_neg (by decide), if_neg (by decide), if_pos rfl, b.first, Option.bind_some]
theorem side_d (b : Big s K) (P : Pl s x n j q a c) (h1 : 1 ≤ N) (h2 : N ≤ 999) : bureauref12_sideways.f K s ((Ext.st s j : Nat) : Int) (N : Int) 36 = some (if (q : Int) + (N : Int) - 1 ≥ (nE s : Int) then (0, false) else ((boundsZ s ((q : Int) + (N : Int) - 1)).2.1, true)) := by
  have hq := P.hq
  have hnE := nE_le s
  have hs := b.sz
  have w1 : wrap64 ((q : Int) + (N : Int)) = (q : Int) + (N : Int) := wrapZ _ (by omega) (by omega)
  have w2 : wrap64 ((q : Int) + (N : Int) - 1) = (q : Int) + (N : Int) - 1 := wrapZ _ (by omega) (by omega)
  unfold bureauref12_sideways.f
  rw [lineOf b P, Option.bind_some, lineB b P, Option.bind_some, lineIn b P, Option.bind_some, if_neg (by decide), if_neg (by decide), if_neg (by decide), if_neg (by decide), b.count, Option.bind_some, w1, w2, b.bounds]
  split <;> rfl
theorem words_w (b : Big s K) (P : Pl s x n j q a c) (h1 : 1 ≤ N) (h2 : N ≤ 999) : bureauref12_words.f K s ((Ext.st s j : Nat) : Int) (N : Int) 119 = some (resI s (dnI s (rfZ s .beg) (j + 1) (n - (j + 1))) N ((Ext.st s n : Nat) : Int)).1 := by
  have hs := b.sz; have hk := b.k
  unfold bureauref12_words.f
  rw [if_pos rfl, begs_eq P.h (by omega) K (by omega), Option.bind_some, dnList b P h1 h2 _ 0 n (by omega) (by omega), Option.bind_some, size_st P.h, or_eq, Option.bind_some, Nat.zero_add]
  rfl
theorem words_b (b : Big s K) (P : Pl s x n j q a c) (h1 : 1 ≤ N) (h2 : N ≤ 999) : bureauref12_words.f K s ((Ext.st s j : Nat) : Int) (N : Int) 98 = some (resI s (upI s (rfZ s .beg) 0 (j - 0)) N ((Ext.st s 0 : Nat) : Int)).1 := by
  have hs := b.sz; have hk := b.k
  have hj := P.hj
  unfold bureauref12_words.f
  rw [if_neg (by decide), if_pos rfl, begs_eq P.h (by omega) K (by omega), Option.bind_some, upList b P h1 h2 _ 0 n (by omega) (by omega) (by omega), Option.bind_some, or_eq, Option.bind_some]
  rfl
theorem words_p1 (b : Big s K) (P : Pl s x n j q a c) (h1 : 1 ≤ N) (h2 : N ≤ 999) : bureauref12_words.f K s ((Ext.st s j : Nat) : Int) (N : Int) 125 = some (resB s (pI s (q + 1) (nE s - (q + 1))) N (s.size : Int)) := by
  have hs := b.sz; have hk := b.k
  have hnE := nE_le s
  have hl := mapB_len s
  unfold bureauref12_words.f
  rw [if_neg (by decide), if_neg (by decide), if_pos rfl, lineOf b P, Option.bind_some, b.bounds, boundsZ_in s q P.hq, Option.bind_some, emp_eq s (by omega) K (by omega), Option.bind_some, behind_eq _ (by omega) _ N K (by omega) h1 h2, gt_listB s P.hq, Option.bind_some, orB_eq, Option.bind_some]
theorem words_p2 (b : Big s K) (P : Pl s x n j q a c) (h1 : 1 ≤ N) (h2 : N ≤ 999) : bureauref12_words.f K s ((Ext.st s j : Nat) : Int) (N : Int) 123 = some (resB s (pI s 0 q).reverse N 0) := by
  have hs := b.sz; have hk := b.k
  have hnE := nE_le s
  have hl := mapB_len s
  unfold bureauref12_words.f
  rw [if_neg (by decide), if_neg (by decide), if_neg (by decide), lineOf b P, Option.bind_some, b.bounds, boundsZ_in s q P.hq, Option.bind_some, emp_eq s (by omega) K (by omega), Option.bind_some, ahead_eq _ (by omega) _ N K (by omega) h1 h2, lt_listB s P.hq, Option.bind_some, orB_eq, Option.bind_some]
theorem no_neg (h : Signs s n) (g : Int) (hg : g < 0) (i d : Nat) (hd : d = 0 ∨ i + d ≤ n) : dnI s (rfZ s (.is g)) i d = [] := by
  unfold dnI
  rw [List.filter_eq_nil_iff]
  intro t ht
  have ht := List.mem_range'_1.1 ht
  show ¬ (runeZ s ((Ext.st s t : Nat) : Int) == g) = true
  rw [runeZ_st h (by omega), beq_iff_eq]
  generalize (Utf8.decode s (Ext.st s t)).1 = r
  omega
theorem finds_eq (b : Big s (K + 1)) (b' : Big s K) (P : Pl s x n j q a c) (h1 : 1 ≤ N) (h2 : N ≤ 999) {cnt : Int} (hN : min (max cnt 1) 999 = (N : Int)) (key g : Int) (hk : key = 102 ∨ key = 116 ∨ key = 70 ∨ key = 84) :
    bureauref12_finds.f (K + 1) s ((Ext.st s j : Nat) : Int) (N : Int) key g = some (findZ (toK s x cnt) key g) := by
  have hs := b.sz
  have hle := P.ls.le
  have haj := P.haj
  have hj := P.hj
  have hsz : (toK s x cnt).s = s := rfl
  have hd := P.dn hN (.is g) (a + c) hle 0
  have hu := P.up hN (.is g) a (by omega) 0
  unfold findZ
  rw [P.t, P.f, hd, hu, hsz]
  unfold bureauref12_finds.f
  by_cases hg : g < 0
  · rw [if_pos hg]
    have e1 := no_neg P.h g hg (j + 1) (a + c - (j + 1)) (by omega)
    have e2 : upI s (rfZ s (.is g)) a (j - a) = [] := by
      unfold upI
      rw [no_neg P.h g hg a (j - a) (by omega)]
      rfl
    have e3 : resI s [] N 0 = (0, false) := rfl
    rw [e1, e2, e3]
    simp
  rw [if_neg hg, lineOf b P, Option.bind_some, lineIn b P, Option.bind_some, argP_is s hg]
  have hD := dnList b' P h1 h2 (rfZ s (.is g)) a c (by omega) hle
  have hU := upList b' P h1 h2 (rfZ s (.is g)) a c haj P.hjc hle
  have dn : ∀ key : Int, (key = 102 ∨ key = 116) → bureauref12_finds.j0 (K + 1) s ((Ext.st s j : Nat) : Int) (N : Int) key ((dnI s (rfZ s (.is g)) a c).map (fun t => ((Ext.st s t : Nat) : Int))) true = some (if (resI s (dnI s (rfZ s (.is g)) (j + 1) (a + c - (j + 1))) N 0).2 = true ∧ key = 116 then prevZ s (resI s (dnI s (rfZ s (.is g)) (j + 1) (a + c - (j + 1))) N 0).1 else (resI s (dnI s (rfZ s (.is g)) (j + 1) (a + c - (j + 1))) N 0).1, (resI s (dnI s (rfZ s (.is g)) (j + 1) (a + c - (j + 1))) N 0).2) := fun key hk => by
    rw [bureauref12_finds.j0, if_pos rfl, hD, Option.bind_some]
    rcases resI_cases s (dnI s (rfZ s (.is g)) (j + 1) (a + c - (j + 1))) N 0 with ⟨t, g1, g2⟩ | ⟨g1, g2⟩
    · obtain ⟨q1, q2, _⟩ := dnI_get g1
      rw [g2]
      simp only [true_and, if_true]
      rcases hk with rfl | rfl
      · rw [if_neg (by decide), if_neg (by decide)]
      · rw [if_pos rfl, b'.prev P.h (show t ≤ n by omega), Option.bind_some, if_pos rfl]
    · rw [g2]
      simp
  have up : ∀ key : Int, (key = 70 ∨ key = 84) → bureauref12_finds.j0 (K + 1) s ((Ext.st s j : Nat) : Int) (N : Int) key ((dnI s (rfZ s (.is g)) a c).map (fun t => ((Ext.st s t : Nat) : Int))) false = some (if (resI s (upI s (rfZ s (.is g)) a (j - a)) N 0).2 = true ∧ key = 84 then nextZ s (resI s (upI s (rfZ s (.is g)) a (j - a)) N 0).1 else (resI s (upI s (rfZ s (.is g)) a (j - a)) N 0).1, (resI s (upI s (rfZ s (.is g)) a (j - a)) N 0).2) := fun key hk => by
    rw [bureauref12_finds.j0, if_neg (by decide), hU, Option.bind_some]
    rcases resI_cases s (upI s (rfZ s (.is g)) a (j - a)) N 0 with ⟨t, g1, g2⟩ | ⟨g1, g2⟩
    · obtain ⟨q1, q2, _⟩ := upI_get g1
      rw [g2]
      simp only [true_and, if_true]
      rcases hk with rfl | rfl
      · rw [if_neg (by decide), if_neg (by decide)]
      · rw [if_pos rfl, b'.next P.h (show t < n by omega), Option.bind_some, if_pos rfl, nextZ_st P.h (by omega)]
    · rw [g2]
      simp
  rcases hk with rfl | rfl | rfl | rfl
  · rw [if_pos rfl, dn _ (.inl rfl), if_pos (c := (102 : Int) = 102 ∨ (102 : Int) = 116) (Or.inl rfl)]
  · rw [if_neg (by decide), show ((116 : Int) == 116) = true from rfl, dn _ (.inr rfl), if_pos (c := (116 : Int) = 102 ∨ (116 : Int) = 116) (Or.inr rfl)]
  · rw [if_neg (by decide), show ((70 : Int) == 116) = false from rfl, up _ (.inl rfl), if_neg (c := (70 : Int) = 102 ∨ (70 : Int) = 116) (by decide)]
  · rw [if_neg (by decide), show ((84 : Int) == 116) = false from rfl, up _ (.inr rfl), if_neg (c := (84 : Int) = 102 ∨ (84 : Int) = 116) (by decide)]
end
theorem mnmx {cnt : Int} {N : Nat} (hN : min (max cnt 1) 999 = (N : Int)) : mn (mx cnt 1) 999 = (N : Int) := by
  rw [← hN]; unfold mn mx; omega
theorem lines_eq {s : ByteArray} {x : Int} {n j q a c B N : Nat} (b : ∀ K, B ≤ K → Big s K) (P : Pl s x n j q a c) (h2 : N ≤ 999) {cnt : Int} (hN : min (max cnt 1) 999 = (N : Int)) (hc : -9223372036854775808 ≤ cnt ∧ cnt ≤ 9223372036854775807) (key : Int) (hk : key = 106 ∨ key = 107 ∨ key = 71 ∨ key = 103) :
    bureauref12_lines.f (B + 4) s ((Ext.st s j : Nat) : Int) (N : Int) key cnt = some (linesZ (toK s x cnt) key cnt) := by
  have hsz := (b B (Nat.le_refl _)).sz
  have hnE := nE_le s
  have hnp := nE_pos s
  have hq := P.hq
  have w1 : wrap64 ((q : Int) + (N : Int)) = (q : Int) + (N : Int) := wrapZ _ (by omega) (by omega)
  have w2 : wrap64 ((q : Int) - (N : Int)) = (q : Int) - (N : Int) := wrapZ _ (by omega) (by omega)
  have w3 : wrap64 (((nE s : Nat) : Int) - 1) = ((nE s : Nat) : Int) - 1 := wrapZ _ (by omega) (by omega)
  have eJ : ∀ (m : Nat) (hm : B ≤ m) (t : Int), bureauref12_lines.j1 (m + 3) s ((Ext.st s j : Nat) : Int) key ((nE s : Nat) : Int) t = some (if t < 0 then (0, false) else if t > ((nE s : Nat) : Int) - 1 then (0, false) else if key = 106 ∨ key = 107 then (((placeZ s t ((colZ s ((Ext.st s j : Nat) : Int) : Nat) : Int) : Nat) : Int), true) else (((firstZ s t : Nat) : Int), true)) := fun m hm t => by
    have e3 : ∀ u : Bool, u = (decide (key = 106 ∨ key = 107)) → bureauref12_lines.j3 (m + 1) s ((Ext.st s j : Nat) : Int) t u = some (if key = 106 ∨ key = 107 then (((placeZ s t ((colZ s ((Ext.st s j : Nat) : Int) : Nat) : Int) : Nat) : Int), true) else (((firstZ s t : Nat) : Int), true)) := fun u hu => by
      have bb := b m hm
      rw [bureauref12_lines.j3]
      by_cases ck : key = 106 ∨ key = 107
      · rw [hu, decide_eq_true ck, if_pos rfl, if_pos ck, bb.col, Option.bind_some, bb.place, Option.bind_some]
      · rw [hu, decide_eq_false ck, if_neg (by decide), if_neg ck, bb.first, Option.bind_some]
    rw [bureauref12_lines.j1]
    by_cases c1 : t < 0
    · rw [if_pos c1, if_pos c1, bureauref12_lines.j2, if_pos rfl]
    rw [if_neg c1, if_neg c1, bureauref12_lines.j2]
    by_cases c2 : t > ((nE s : Nat) : Int) - 1
    · rw [decide_eq_true (by omega), if_pos rfl, if_pos c2]
    rw [decide_eq_false (by omega), if_neg (by decide), if_neg c2]
    by_cases c3 : key = 106
    · rw [if_pos c3]
      exact e3 true (decide_eq_true (.inl c3)).symm
    · rw [if_neg c3]
      refine e3 _ ?_
      by_cases c4 : key = 107
      · rw [beq_iff_eq.2 c4, decide_eq_true (.inr c4)]
      · rw [beq_eq_false_iff_ne.2 c4, decide_eq_false (by omega)]
  have eZ : linesZ (toK s x cnt) key cnt = (if lineTo (toK s x cnt) key cnt < 0 then (0, false) else if lineTo (toK s x cnt) key cnt > ((nE s : Nat) : Int) - 1 then (0, false) else if key = 106 ∨ key = 107 then (((placeZ s (lineTo (toK s x cnt) key cnt) ((colZ s ((Ext.st s j : Nat) : Int) : Nat) : Int) : Nat) : Int), true) else (((firstZ s (lineTo (toK s x cnt) key cnt) : Nat) : Int), true)) := by
    unfold linesZ
    rw [P.a]
    rfl
  rw [eZ]
  have fin : ∀ (m : Nat) (hm : B ≤ m) t, lineTo (toK s x cnt) key cnt = t → bureauref12_lines.j1 (m + 3) s ((Ext.st s j : Nat) : Int) key ((nE s : Nat) : Int) t = some (if lineTo (toK s x cnt) key cnt < 0 then (0, false) else if lineTo (toK s x cnt) key cnt > ((nE s : Nat) : Int) - 1 then (0, false) else if key = 106 ∨ key = 107 then (((placeZ s (lineTo (toK s x cnt) key cnt) ((colZ s ((Ext.st s j : Nat) : Int) : Nat) : Int) : Nat) : Int), true) else (((firstZ s (lineTo (toK s x cnt) key cnt) : Nat) : Int), true)) := fun m hm t ht => by
    rw [ht]; exact eJ m hm t
  clear eJ eZ
  have bb := b (B + 4) (by omega)
  unfold bureauref12_lines.f
  rw [lineOf bb P, Option.bind_some, bb.count, Option.bind_some, w1, w2]
  have lt : lineTo (toK s x cnt) key cnt = if key = 106 then (q : Int) + N else if key = 107 then (q : Int) - N else if cnt < 1 ∧ key = 103 then 0 else if cnt < 1 then ((nE s : Nat) : Int) - 1 else min (cnt - 1) (((nE s : Nat) : Int) - 1) := by
    unfold lineTo
    rw [P.l, toK_n hN]
    rfl
  by_cases c1 : key = 106
  · rw [if_pos c1]
    exact fin (B + 1) (by omega) _ (by rw [lt, if_pos c1])
  by_cases c2 : key = 107
  · rw [if_neg c1, if_pos c2]
    exact fin (B + 1) (by omega) _ (by rw [lt, if_neg c1, if_pos c2])
  rw [if_neg c1, if_neg c2]
  rw [if_neg c1, if_neg c2] at lt
  by_cases c3 : cnt < 1
  · rw [if_pos c3, bureauref12_lines.j0]
    by_cases c4 : key = 103
    · rw [beq_iff_eq.2 c4, if_pos rfl]
      exact fin B (Nat.le_refl _) _ (by rw [lt, if_pos ⟨c3, c4⟩])
    · rw [beq_eq_false_iff_ne.2 c4, if_neg (by decide), if_pos c3, w3]
      exact fin B (Nat.le_refl _) _ (by rw [lt, if_neg (fun h => c4 h.2), if_pos c3])
  · have w4 : wrap64 (cnt - 1) = cnt - 1 := wrapZ _ (by omega) (by omega)
    rw [if_neg c3, bureauref12_lines.j0, if_neg (by decide), if_neg c3, w3, w4]
    by_cases c5 : cnt > ((nE s : Nat) : Int)
    · rw [if_pos c5]
      exact fin B (Nat.le_refl _) _ (by rw [lt, if_neg (fun h => c3 h.1), if_neg c3]; omega)
    · rw [if_neg c5]
      exact fin B (Nat.le_refl _) _ (by rw [lt, if_neg (fun h => c3 h.1), if_neg c3]; omega)
theorem To_eq {s : ByteArray} {x : Int} {B : Nat} (b : ∀ K, B ≤ K → Big s K) (key g : Int) {cnt : Int} (hc : -9223372036854775808 ≤ cnt ∧ cnt ≤ 9223372036854775807) :
    bureauref12_To.f (B + 9) s x key g cnt = some (toZ s x key g cnt) := by
  obtain ⟨n, j, q, a, c, P⟩ := Pl.ex s x
  obtain ⟨N, hN, h1, h2⟩ : ∃ N : Nat, min (max cnt 1) 999 = (N : Int) ∧ 1 ≤ N ∧ N ≤ 999 := ⟨(min (max cnt 1) 999).toNat, by omega, by omega, by omega⟩
  have hA := (b (B + 9) (by omega)).align x
  have hM := mnmx hN
  have hal := P.al
  rw [hal] at hA
  have b8 := b (B + 8) (by omega)
  have b7 := b (B + 7) (by omega)
  have b6 := b (B + 6) (by omega)
  have b5 := b (B + 5) (by omega)
  have b4 := b (B + 4) (by omega)
  by_cases k1 : key = 104
  · subst k1
    unfold bureauref12_To.f
    rw [hA, Option.bind_some, if_pos rfl, hM, bureauref12_To.j0, if_pos (by decide), side_h b8 P h1 h2, Option.bind_some, exc_eq, Option.bind_some, toZ_h P hN]
  by_cases k2 : key = 108
  · subst k2
    unfold bureauref12_To.f
    rw [hA, Option.bind_some, if_neg (by decide), if_pos rfl, hM, bureauref12_To.j0, if_pos (by decide), side_l b8 P h1 h2, Option.bind_some, exc_eq, Option.bind_some, toZ_l P hN]
  by_cases k3 : key = 48
  · subst k3
    unfold bureauref12_To.f
    rw [hA, Option.bind_some, if_neg (by decide), if_neg (by decide), if_pos rfl, hM, bureauref12_To.j0, if_pos (by decide), side_0 b8 P, Option.bind_some, exc_eq, Option.bind_some,
      toZ_exc s x 48 g cnt (by decide) (by decide) (by decide) (toK s x cnt).f rfl, P.a, P.f]
  by_cases k4 : key = 94
  · subst k4
    unfold bureauref12_To.f
    rw [hA, Option.bind_some, if_neg (by decide), if_neg (by decide), if_neg (by decide), if_pos rfl, hM, bureauref12_To.j0, if_pos (by decide), side_c b8 P, Option.bind_some, exc_eq, Option.bind_some,
      toZ_exc s x 94 g cnt (by decide) (by decide) (by decide) ((firstZ s (toK s x cnt).line : Nat) : Int) rfl, P.a, P.l]
  by_cases k5 : key = 36
  · subst k5
    unfold bureauref12_To.f
    rw [hA, Option.bind_some, if_neg (by decide), if_neg (by decide), if_neg (by decide), if_neg (by decide), hM, bureauref12_To.j0, if_pos (by decide), side_d b8 P h1 h2, Option.bind_some]
    have hw : withinTo (toK s x cnt) 36 g = ((boundsZ s ((toK s x cnt).line + (toK s x cnt).n - 1)).2.1, (boundsZ s ((toK s x cnt).line + (toK s x cnt).n - 1)).2.2 == 0) := rfl
    rw [P.l, toK_n hN] at hw
    by_cases cc : (q : Int) + (N : Int) - 1 ≥ (nE s : Int)
    · rw [if_pos cc]
      simp only
      rw [exc_no, Option.bind_some]
      rw [boundsZ_out s _ (.inr cc)] at hw
      rw [toZ_no s x 36 g cnt (by decide) (by decide) (by decide) 0 hw]
    · rw [if_neg cc]
      simp only
      rw [exc_eq, Option.bind_some]
      have hb : boundsZ s ((q : Int) + (N : Int) - 1) = ((bF s ((q : Int) + (N : Int) - 1).toNat : Int), (bT s ((q : Int) + (N : Int) - 1).toNat : Int), 0) := by unfold boundsZ; rw [if_pos ⟨by omega, by omega⟩]
      rw [hb] at hw ⊢
      rw [toZ_exc s x 36 g cnt (by decide) (by decide) (by decide) _ hw, P.a]
  have n1 : (key == 36) = false := beq_eq_false_iff_ne.2 k5
  have st0 : bureauref12_To.f (B + 9) s x key g cnt = if key = 119 then bureauref12_To.j1 (B + 8) s key g cnt ((Ext.st s j : Nat) : Int) (N : Int) key (key == 119) else if key = 98 then bureauref12_To.j1 (B + 8) s key g cnt ((Ext.st s j : Nat) : Int) (N : Int) key (key == 98) else if key = 123 then bureauref12_To.j1 (B + 8) s key g cnt ((Ext.st s j : Nat) : Int) (N : Int) key (key == 123) else bureauref12_To.j1 (B + 8) s key g cnt ((Ext.st s j : Nat) : Int) (N : Int) key (key == 125) := by
    unfold bureauref12_To.f
    rw [hA, Option.bind_some, if_neg k1, if_neg k2, if_neg k3, if_neg k4, n1, hM, bureauref12_To.j0, if_neg (by decide)]
  rw [st0]
  clear st0 n1
  by_cases k6 : key = 119
  · subst k6
    rw [if_pos rfl, bureauref12_To.j1, if_pos (by decide), words_w b7 P h1 h2, Option.bind_some, exc_eq, Option.bind_some, toZ_w P hN]
  by_cases k7 : key = 98
  · subst k7
    rw [if_neg (by decide), if_pos rfl, bureauref12_To.j1, if_pos (by decide), words_b b7 P h1 h2, Option.bind_some, exc_eq, Option.bind_some, toZ_b P hN]
  by_cases k8 : key = 123
  · subst k8
    rw [if_neg (by decide), if_neg (by decide), if_pos rfl, bureauref12_To.j1, if_pos (by decide), words_p2 b7 P h1 h2, Option.bind_some, exc_eq, Option.bind_some, toZ_p2 P hN]
  by_cases k9 : key = 125
  · subst k9
    rw [if_neg (by decide), if_neg (by decide), if_neg (by decide), bureauref12_To.j1, if_pos (by decide), words_p1 b7 P h1 h2, Option.bind_some, exc_eq, Option.bind_some, toZ_p1 P hN]
  have n1 : (key == 125) = false := beq_eq_false_iff_ne.2 k9
  rw [if_neg k6, if_neg k7, if_neg k8, n1, bureauref12_To.j1, if_neg (by decide)]
  by_cases k10 : key = 101
  · subst k10
    have hsz := b7.sz
    rw [if_pos rfl, fins_eq P.h (by omega) (B + 7) (by have := b7.k; omega), Option.bind_some, dnList b7 P h1 h2 _ 0 n (by omega) (by omega), Option.bind_some, size_st P.h, b7.prev P.h (Nat.le_refl _), Option.bind_some, or_eq, Option.bind_some, inc_eq, Option.bind_some, toZ_e P hN, Nat.zero_add, size_st P.h]
    rfl
  rw [if_neg k10]
  have fT : ∀ key, (key = 102 ∨ key = 116) → bureauref12_To.j2 (B + 7) s key g cnt ((Ext.st s j : Nat) : Int) (N : Int) key true = some (toZ s x key g cnt) := fun key hk => by
    rw [bureauref12_To.j2, if_pos rfl, finds_eq b6 b5 P h1 h2 hN key g (by omega), Option.bind_some]
    unfold toZ
    rw [if_neg (by omega), if_neg (by omega), if_pos hk]
    generalize findZ (toK s x cnt) key g = z
    obtain ⟨z1, z2⟩ := z
    cases z2 <;> rfl
  by_cases k11 : key = 102
  · rw [if_pos k11, beq_iff_eq.2 k11]
    exact fT key (.inl k11)
  rw [if_neg k11]
  by_cases k12 : key = 116
  · rw [beq_iff_eq.2 k12]
    exact fT key (.inr k12)
  have n2 : (key == 116) = false := beq_eq_false_iff_ne.2 k12
  rw [n2, bureauref12_To.j2, if_neg (by decide)]
  have fB : ∀ key, (key = 70 ∨ key = 84) → bureauref12_To.j3 (B + 6) s key g cnt ((Ext.st s j : Nat) : Int) (N : Int) key true = some (toZ s x key g cnt) := fun key hk => by
    rw [bureauref12_To.j3, if_pos rfl, finds_eq b5 b4 P h1 h2 hN key g (by omega), Option.bind_some]
    have hw : withinTo (toK s x cnt) key g = findZ (toK s x cnt) key g := by rcases hk with rfl | rfl <;> rfl
    have e1 : ¬ (key = 106 ∨ key = 107 ∨ key = 71 ∨ key = 103) := by omega
    have e2 : ¬ key = 101 := by omega
    have e3 : ¬ (key = 102 ∨ key = 116) := by omega
    generalize findZ (toK s x cnt) key g = z at hw ⊢
    obtain ⟨z1, z2⟩ := z
    cases z2
    · simp only
      rw [exc_no, Option.bind_some, toZ_no s x key g cnt e1 e2 e3 _ hw]
    · simp only
      rw [exc_eq, Option.bind_some, toZ_exc s x key g cnt e1 e2 e3 _ hw, P.a]
  by_cases k13 : key = 70
  · rw [if_pos k13, beq_iff_eq.2 k13]
    exact fB key (.inl k13)
  rw [if_neg k13]
  by_cases k14 : key = 84
  · rw [beq_iff_eq.2 k14]
    exact fB key (.inr k14)
  have n3 : (key == 84) = false := beq_eq_false_iff_ne.2 k14
  rw [n3, bureauref12_To.j3, if_neg (by decide)]
  have fL : ∀ key, (key = 106 ∨ key = 107 ∨ key = 71 ∨ key = 103) → bureauref12_To.j4 (B + 5) s key cnt ((Ext.st s j : Nat) : Int) (N : Int) true = some (toZ s x key g cnt) := fun key hk => by
    rw [bureauref12_To.j4, if_pos rfl, lines_eq b P h2 hN hc key hk, Option.bind_some]
    unfold toZ
    rw [if_pos hk]
    generalize linesZ (toK s x cnt) key cnt = z
    obtain ⟨z1, z2⟩ := z
    cases z2 <;> rfl
  by_cases k15 : key = 106
  · rw [if_pos k15, beq_iff_eq.2 k15]
    exact fL key (by omega)
  rw [if_neg k15]
  by_cases k16 : key = 107
  · rw [if_pos k16, beq_iff_eq.2 k16]
    exact fL key (by omega)
  rw [if_neg k16]
  by_cases k17 : key = 71
  · rw [if_pos k17, beq_iff_eq.2 k17]
    exact fL key (by omega)
  rw [if_neg k17]
  by_cases k18 : key = 103
  · rw [beq_iff_eq.2 k18]
    exact fL key (by omega)
  have n4 : (key == 103) = false := beq_eq_false_iff_ne.2 k18
  have hw : withinTo (toK s x cnt) key g = (0, false) := by
    unfold withinTo
    rw [if_neg k1, if_neg k2, if_neg k3, if_neg k4, if_neg k5, if_neg k6, if_neg k7, if_neg k9, if_neg k8, if_neg (by omega)]
  rw [n4, bureauref12_To.j4, if_neg (by decide), toZ_no s x key g cnt (by omega) k10 (by omega) _ hw]
theorem MoveAll : bureaulaw12_MoveAll.Pure := by
  intro s x key g cnt _ _ hkw hgw hcw
  have hr : -9223372036854775808 ≤ cnt ∧ cnt ≤ 9223372036854775807 := by simpa [Lit.wf, IntKind.min, IntKind.max, IntKind.signed, IntKind.bits] using hcw
  have hgr : -2147483648 ≤ g ∧ g ≤ 2147483647 := by simpa [Lit.wf, IntKind.min, IntKind.max, IntKind.signed, IntKind.bits] using hgw
  have hkr : -2147483648 ≤ key ∧ key ≤ 2147483647 := by simpa [Lit.wf, IntKind.min, IntKind.max, IntKind.signed, IntKind.bits] using hkw
  have hg : wrap64 g = g := wrapZ _ (by omega) (by omega)
  have hk : wrap64 key = key := wrapZ _ (by omega) (by omega)
  refine ⟨4 * s.size + 100 + 9, ?_⟩
  unfold bureaulaw12_MoveAll.f
  rw [alive_eq, Option.bind_some, if_pos rfl]
  by_cases hs : (s.size : Int) > 1024
  · rw [if_pos hs]
  have hT : move_To.f s x key g cnt = some (toZ s x key g cnt) := by
    unfold move_To.f
    rw [if_pos ⟨by omega, hr.1, hr.2⟩]
  have hb : ∀ K, 4 * s.size + 100 ≤ K → Big s K := fun K h => ⟨by omega, h⟩
  rw [if_neg hs, hT, Option.bind_some, hk, hg, To_eq hb key g hr, Option.bind_some, if_pos rfl, if_pos rfl]
  generalize (toZ s x key g cnt).2.2 = z
  cases z <;> rfl

end Go.Proofs.YtpajakfmahfpkaaDoor.Pure
