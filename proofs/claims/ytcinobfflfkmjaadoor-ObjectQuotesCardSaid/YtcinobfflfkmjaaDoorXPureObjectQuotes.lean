/- What stands between a pair of quotes has no such quote and no line end: for every text and place. -/
import Derived.Test.YtcinobfflfkmjaaDoorXObjectQuotesx6
import Derived.Test.YtcinobfflfkmjaaDoorExt13M
import Derived.OpenShut
set_option linter.unusedVariables false
set_option linter.unusedSimpArgs false
namespace Go.Proofs.YtcinobfflfkmjaaDoor.Pure
open Go.RowKit Go.Proofs.YtcinobfflfkmjaaDoor.XObjectQuotes Go.Proofs.YtcinobfflfkmjaaDoorW.PrintWords Go.Proofs.YtcinobfflfkmjaaDoorW.PrintMore Go.Proofs.YtcinobfflfkmjaaDoor.Ext

def whole (x : Nat × Nat × Nat) : Bool := !(x.2.1 == 65533 && x.2.2 == 1)
/-! The numbers' bytes. -/
def enc (r : Nat) : List Nat :=
  if r < 128 then [r] else if r < 2048 then [192 + r / 64, 128 + r % 64] else if r < 65536 then [224 + r / 4096, 128 + r / 64 % 64, 128 + r % 64] else [240 + r / 262144, 128 + r / 4096 % 64, 128 + r / 64 % 64, 128 + r % 64]
def mayN (r : Nat) : Bool := r ≤ 1114111 && (r < 55296 || 57344 ≤ r)
theorem enc_lt {r : Nat} (h : r ≤ 1114111) : ∀ x ∈ enc r, x < 256 := by
  unfold enc
  intro x hx
  split at hx
  · simp only [List.mem_cons, List.not_mem_nil, or_false] at hx
    omega
  split at hx
  · simp only [List.mem_cons, List.not_mem_nil, or_false] at hx
    omega
  split at hx
  · simp only [List.mem_cons, List.not_mem_nil, or_false] at hx
    omega
  · simp only [List.mem_cons, List.not_mem_nil, or_false] at hx
    omega
/-! What the document's 'number' reads, and which so many bytes are a sign. -/
def numN (n b0 b1 b2 b3 : Nat) : Nat :=
  if n = 1 then b0 else if n = 2 then b0 % 32 * 64 + b1 % 64 else if n = 3 then (b0 % 16 * 64 + b1 % 64) * 64 + b2 % 64 else ((b0 % 8 * 64 + b1 % 64) * 64 + b2 % 64) * 64 + b3 % 64
theorem num1 (b0 b1 b2 b3 : Nat) : numN 1 b0 b1 b2 b3 = b0 := rfl
theorem num2 (b0 b1 b2 b3 : Nat) : numN 2 b0 b1 b2 b3 = b0 % 32 * 64 + b1 % 64 := rfl
theorem num3 (b0 b1 b2 b3 : Nat) : numN 3 b0 b1 b2 b3 = (b0 % 16 * 64 + b1 % 64) * 64 + b2 % 64 := rfl
theorem num4 (b0 b1 b2 b3 : Nat) : numN 4 b0 b1 b2 b3 = ((b0 % 8 * 64 + b1 % 64) * 64 + b2 % 64) * 64 + b3 % 64 := rfl
def okN (n b0 b1 b2 b3 : Nat) : Bool := mayN (numN n b0 b1 b2 b3) && enc (numN n b0 b1 b2 b3) == [b0, b1, b2, b3].take n
theorem ok1 {b0 : Nat} (b1 b2 b3 : Nat) (h0 : b0 < 256) : okN 1 b0 b1 b2 b3 = decide (b0 < 128) := by
  unfold okN mayN enc numN
  rw [if_pos rfl, Bool.eq_iff_iff]
  simp only [Bool.and_eq_true, Bool.or_eq_true, decide_eq_true_eq, beq_iff_eq, List.take_succ_cons, List.take_zero]
  constructor
  · rintro ⟨_, h⟩
    split at h
    · assumption
    · exfalso
      split at h
      · simp only [List.cons.injEq] at h
        exact absurd h.2 (by simp)
      split at h
      · simp only [List.cons.injEq] at h
        exact absurd h.2 (by simp)
      · simp only [List.cons.injEq] at h
        exact absurd h.2 (by simp)
  · intro h
    exact ⟨by omega, by rw [if_pos h]⟩
theorem ok2 {b0 b1 : Nat} (b2 b3 : Nat) (h0 : b0 < 256) (h1 : b1 < 256) : okN 2 b0 b1 b2 b3 = decide (b0 / 32 = 6 ∧ b1 / 64 = 2 ∧ 128 ≤ b0 % 32 * 64 + b1 % 64) := by
  unfold okN mayN enc numN
  rw [if_neg (by omega), if_pos rfl, Bool.eq_iff_iff]
  simp only [Bool.and_eq_true, Bool.or_eq_true, decide_eq_true_eq, beq_iff_eq, List.take_succ_cons, List.take_zero]
  generalize hr : b0 % 32 * 64 + b1 % 64 = r
  constructor
  · rintro ⟨_, h⟩
    split at h
    · cases h
    split at h
    · simp only [List.cons.injEq, and_true] at h
      omega
    split at h
    · cases h
    · cases h
  · intro h
    refine ⟨by omega, ?_⟩
    rw [if_neg (by omega), if_pos (by omega)]
    simp only [List.cons.injEq, and_true]
    omega
theorem ok3 {b0 b1 b2 : Nat} (b3 : Nat) (h0 : b0 < 256) (h1 : b1 < 256) (h2 : b2 < 256) : okN 3 b0 b1 b2 b3 =
    decide (b0 / 16 = 14 ∧ b1 / 64 = 2 ∧ b2 / 64 = 2 ∧ 2048 ≤ b0 % 16 * 4096 + b1 % 64 * 64 + b2 % 64 ∧ (b0 % 16 * 4096 + b1 % 64 * 64 + b2 % 64 < 55296 ∨ 57344 ≤ b0 % 16 * 4096 + b1 % 64 * 64 + b2 % 64)) := by
  unfold okN mayN enc numN
  rw [if_neg (by omega), if_neg (by omega), if_pos rfl, Bool.eq_iff_iff]
  simp only [Bool.and_eq_true, Bool.or_eq_true, decide_eq_true_eq, beq_iff_eq, List.take_succ_cons, List.take_zero]
  rw [show (b0 % 16 * 64 + b1 % 64) * 64 + b2 % 64 = b0 % 16 * 4096 + b1 % 64 * 64 + b2 % 64 by omega]
  generalize hr : b0 % 16 * 4096 + b1 % 64 * 64 + b2 % 64 = r
  constructor
  · rintro ⟨_, h⟩
    split at h
    · cases h
    split at h
    · cases h
    split at h
    · simp only [List.cons.injEq, and_true] at h
      omega
    · cases h
  · intro h
    refine ⟨by omega, ?_⟩
    rw [if_neg (by omega), if_neg (by omega), if_pos (by omega)]
    simp only [List.cons.injEq, and_true]
    omega
theorem ok4 {b0 b1 b2 b3 : Nat} (h0 : b0 < 256) (h1 : b1 < 256) (h2 : b2 < 256) (h3 : b3 < 256) : okN 4 b0 b1 b2 b3 =
    decide (b0 / 8 = 30 ∧ b1 / 64 = 2 ∧ b2 / 64 = 2 ∧ b3 / 64 = 2 ∧ 65536 ≤ b0 % 8 * 262144 + b1 % 64 * 4096 + b2 % 64 * 64 + b3 % 64 ∧ b0 % 8 * 262144 + b1 % 64 * 4096 + b2 % 64 * 64 + b3 % 64 ≤ 1114111) := by
  unfold okN mayN enc numN
  rw [if_neg (by omega), if_neg (by omega), if_neg (by omega), Bool.eq_iff_iff]
  simp only [Bool.and_eq_true, Bool.or_eq_true, decide_eq_true_eq, beq_iff_eq, List.take_succ_cons, List.take_zero]
  rw [show ((b0 % 8 * 64 + b1 % 64) * 64 + b2 % 64) * 64 + b3 % 64 = b0 % 8 * 262144 + b1 % 64 * 4096 + b2 % 64 * 64 + b3 % 64 by omega]
  generalize hr : b0 % 8 * 262144 + b1 % 64 * 4096 + b2 % 64 * 64 + b3 % 64 = r
  constructor
  · rintro ⟨_, h⟩
    split at h
    · cases h
    split at h
    · cases h
    split at h
    · cases h
    · simp only [List.cons.injEq, and_true] at h
      omega
  · intro h
    refine ⟨by omega, ?_⟩
    rw [if_neg (by omega), if_neg (by omega), if_neg (by omega)]
    simp only [List.cons.injEq, and_true]
    omega
/-- The model's decoding, by which so many bytes are a sign. -/
def firstOk (m b0 b1 b2 b3 : Nat) : Nat × Nat × Bool :=
  if okN 1 b0 b1 b2 b3 = true then (numN 1 b0 b1 b2 b3, 1, true)
  else if 2 ≤ m ∧ okN 2 b0 b1 b2 b3 = true then (numN 2 b0 b1 b2 b3, 2, true)
  else if 3 ≤ m ∧ okN 3 b0 b1 b2 b3 = true then (numN 3 b0 b1 b2 b3, 3, true)
  else if 4 ≤ m ∧ okN 4 b0 b1 b2 b3 = true then (numN 4 b0 b1 b2 b3, 4, true)
  else (65533, 1, false)
theorem first_decode {m b0 b1 b2 b3 : Nat} (h0 : b0 < 256) (h1 : b1 < 256) (h2 : b2 < 256) (h3 : b3 < 256) :
    firstOk m b0 b1 b2 b3 = ((Lib.decodeN m b0 b1 b2 b3).1, (Lib.decodeN m b0 b1 b2 b3).2, whole (0, Lib.decodeN m b0 b1 b2 b3)) := by
  unfold firstOk
  rw [ok1 b1 b2 b3 h0, ok2 b2 b3 h0 h1, ok3 b3 h0 h1 h2, ok4 h0 h1 h2 h3]
  simp only [decide_eq_true_eq]
  have n1 : numN 1 b0 b1 b2 b3 = b0 := rfl
  have n2 : numN 2 b0 b1 b2 b3 = b0 % 32 * 64 + b1 % 64 := rfl
  have n3 : numN 3 b0 b1 b2 b3 = b0 % 16 * 4096 + b1 % 64 * 64 + b2 % 64 := by unfold numN; rw [if_neg (by omega), if_neg (by omega), if_pos rfl]; omega
  have n4 : numN 4 b0 b1 b2 b3 = b0 % 8 * 262144 + b1 % 64 * 4096 + b2 % 64 * 64 + b3 % 64 := by unfold numN; rw [if_neg (by omega), if_neg (by omega), if_neg (by omega)]; omega
  rw [n1, n2, n3, n4]
  unfold Lib.decodeN
  by_cases c1 : b0 < 128
  · rw [if_pos c1, if_pos c1]
    have : (b0 == 65533) = false := by rw [beq_eq_false_iff_ne]; omega
    simp [whole, this]
  rw [if_neg c1, if_neg c1]
  by_cases c2 : b0 / 32 = 6 ∧ (1 < m ∧ b1 / 64 = 2)
  · rw [if_pos c2]
    by_cases d2 : b0 % 32 * 64 + b1 % 64 ≥ 128
    · rw [if_pos d2, if_pos (by omega)]
      simp [whole]
    · rw [if_neg d2, if_neg (by omega), if_neg (by omega), if_neg (by omega)]
      rfl
  rw [if_neg c2, if_neg (by omega)]
  by_cases c3 : b0 / 16 = 14 ∧ (1 < m ∧ b1 / 64 = 2) ∧ (2 < m ∧ b2 / 64 = 2)
  · rw [if_pos c3]
    by_cases d3 : b0 % 16 * 4096 + b1 % 64 * 64 + b2 % 64 ≥ 2048 ∧ (b0 % 16 * 4096 + b1 % 64 * 64 + b2 % 64 < 55296 ∨ (57344 ≤ b0 % 16 * 4096 + b1 % 64 * 64 + b2 % 64 ∧ b0 % 16 * 4096 + b1 % 64 * 64 + b2 % 64 ≤ 1114111))
    · rw [if_pos d3, if_pos (by omega)]
      simp [whole]
    · rw [if_neg d3, if_neg (by omega), if_neg (by omega)]
      rfl
  rw [if_neg c3, if_neg (by omega)]
  by_cases c4 : b0 / 8 = 30 ∧ (1 < m ∧ b1 / 64 = 2) ∧ (2 < m ∧ b2 / 64 = 2) ∧ (3 < m ∧ b3 / 64 = 2)
  · rw [if_pos c4]
    by_cases d4 : b0 % 8 * 262144 + b1 % 64 * 4096 + b2 % 64 * 64 + b3 % 64 ≥ 65536 ∧ (b0 % 8 * 262144 + b1 % 64 * 4096 + b2 % 64 * 64 + b3 % 64 < 55296 ∨ (57344 ≤ b0 % 8 * 262144 + b1 % 64 * 4096 + b2 % 64 * 64 + b3 % 64 ∧ b0 % 8 * 262144 + b1 % 64 * 4096 + b2 % 64 * 64 + b3 % 64 ≤ 1114111))
    · rw [if_pos d4, if_pos (by omega)]
      simp [whole]
    · rw [if_neg d4, if_neg (by omega)]
      rfl
  rw [if_neg c4, if_neg (by omega)]
  rfl
theorem may_eq (r : Nat) : bureauref02_May.f (r : Int) = some (mayN r) := by
  unfold bureauref02_May.f mayN
  rw [if_pos (Int.natCast_nonneg r)]
  by_cases h1 : r ≤ 1114111
  · rw [if_pos (by omega)]
    by_cases h2 : r < 55296
    · rw [if_pos (by omega)]
      simp [h1, h2]
    · rw [if_neg (by omega)]
      congr 1
      rw [Bool.eq_iff_iff]
      simp only [decide_eq_true_eq, Bool.and_eq_true, Bool.or_eq_true]
      omega
  · rw [if_neg (by omega)]
    simp [h1]
theorem lowK (K : Int) (k x : Nat) (hK : K = (k : Int)) (h : k + x < 256) : UInt8.ofNat (wrap64 (K + (x : Int)) % 256).toNat = UInt8.ofNat (k + x) := by
  congr 1
  unfold wrap64
  omega
theorem lowA (x : Nat) (h : x < 256) : UInt8.ofNat ((x : Int) % 256).toNat = UInt8.ofNat x := by
  congr 1
  omega
theorem l2 {a b a' b' : UInt8} (h1 : a = a') (h2 : b = b') : [a, b] = [a', b'] := by rw [h1, h2]
theorem l3 {a b c a' b' c' : UInt8} (h1 : a = a') (h2 : b = b') (h3 : c = c') : [a, b, c] = [a', b', c'] := by rw [h1, h2, h3]
theorem l4 {a b c d a' b' c' d' : UInt8} (h1 : a = a') (h2 : b = b') (h3 : c = c') (h4 : d = d') : [a, b, c, d] = [a', b', c', d'] := by rw [h1, h2, h3, h4]
theorem bytes_eq {r : Nat} (h : r ≤ 1114111) : bureauref02_Bytes.f (r : Int) = some ⟨((enc r).map UInt8.ofNat).toArray⟩ := by
  have e64 : Int.tdiv (r : Int) 64 = ((r / 64 : Nat) : Int) := rfl
  have e4096 : Int.tdiv (r : Int) 4096 = ((r / 4096 : Nat) : Int) := rfl
  have e262144 : Int.tdiv (r : Int) 262144 = ((r / 262144 : Nat) : Int) := rfl
  have m64 : Int.tmod (r : Int) 64 = ((r % 64 : Nat) : Int) := rfl
  have w1 := wrapN (r / 64) (by omega)
  have w2 := wrapN (r / 4096) (by omega)
  have w3 := wrapN (r / 262144) (by omega)
  have m1 : Int.tmod ((r / 64 : Nat) : Int) 64 = ((r / 64 % 64 : Nat) : Int) := rfl
  have m2 : Int.tmod ((r / 4096 : Nat) : Int) 64 = ((r / 4096 % 64 : Nat) : Int) := rfl
  unfold bureauref02_Bytes.f enc
  rw [e64, e4096, e262144, m64, w1, w2, w3, m1, m2]
  clear e64 e4096 e262144 m64 w1 w2 w3 m1 m2
  by_cases h1 : r < 128
  · rw [if_pos (by omega), if_pos h1]
    simp only [strOfNums, List.map_cons, List.map_nil, lowA r (by omega)]
  rw [if_neg (by omega), if_neg h1]
  by_cases h2 : r < 2048
  · rw [if_pos (by omega), if_pos h2]
    simp only [strOfNums, List.map_cons, List.map_nil]
    exact congrArg (fun l : List UInt8 => some (⟨l.toArray⟩ : ByteArray)) (l2 (lowK 192 192 (r / 64) rfl (by omega)) (lowK 128 128 (r % 64) rfl (by omega)))
  rw [if_neg (by omega), if_neg h2]
  by_cases h3 : r < 65536
  · rw [if_pos (by omega), if_pos h3]
    simp only [strOfNums, List.map_cons, List.map_nil]
    exact congrArg (fun l : List UInt8 => some (⟨l.toArray⟩ : ByteArray)) (l3 (lowK 224 224 (r / 4096) rfl (by omega)) (lowK 128 128 (r / 64 % 64) rfl (by omega)) (lowK 128 128 (r % 64) rfl (by omega)))
  · rw [if_neg (by omega), if_neg h3]
    simp only [strOfNums, List.map_cons, List.map_nil]
    exact congrArg (fun l : List UInt8 => some (⟨l.toArray⟩ : ByteArray)) (l4 (lowK 240 240 (r / 262144) rfl (by omega)) (lowK 128 128 (r / 4096 % 64) rfl (by omega)) (lowK 128 128 (r / 64 % 64) rfl (by omega)) (lowK 128 128 (r % 64) rfl (by omega)))
theorem num_step (k : Nat) (x : ByteArray) (a j : Nat) (hj : j < x.size) (ha : a < 1000000) (hs : x.size < 100) :
    bureauref02_number.l0 (k + 1) x (a : Int) (j : Int) = bureauref02_number.l0 k x ((a * 64 + gb x j % 64 : Nat) : Int) ((j + 1 : Nat) : Int) := by
  have hb := gb_lt x j
  rw [bureauref02_number.l0, if_pos (by omega), if_pos (by omega), bt_gb x j hj, wrapN (gb x j) (by omega)]
  have e : Int.tmod ((gb x j : Nat) : Int) 64 = ((gb x j % 64 : Nat) : Int) := rfl
  rw [e]
  congr 1
  · unfold wrap64
    omega
  · unfold wrap64
    omega
theorem num_end (k : Nat) (x : ByteArray) (a : Int) : bureauref02_number.l0 (k + 1) x a (x.size : Int) = some a := by
  rw [bureauref02_number.l0, if_neg (by omega)]
theorem number_eq (k : Nat) (x : ByteArray) (n : Nat) (hn : x.size = n) (h1 : 1 ≤ n) (h4 : n ≤ 4) :
    bureauref02_number.f (k + 6) x = some ((numN n (gb x 0) (gb x 1) (gb x 2) (gb x 3) : Nat) : Int) := by
  have h0 := gb_lt x 0
  have e0 : wrap64 (bt x 0) = ((gb x 0 : Nat) : Int) := by rw [show (0 : Int) = ((0 : Nat) : Int) from rfl, bt_gb x 0 (by omega), wrapN _ (by omega)]
  unfold bureauref02_number.f
  rw [if_pos (by omega), e0]
  have e32 : Int.tmod ((gb x 0 : Nat) : Int) 32 = ((gb x 0 % 32 : Nat) : Int) := rfl
  have e16 : Int.tmod ((gb x 0 : Nat) : Int) 16 = ((gb x 0 % 16 : Nat) : Int) := rfl
  have e8 : Int.tmod ((gb x 0 : Nat) : Int) 8 = ((gb x 0 % 8 : Nat) : Int) := rfl
  rw [e32, e16, e8]
  have e1 : (1 : Int) = ((1 : Nat) : Int) := rfl
  rcases (by omega : n = 1 ∨ n = 2 ∨ n = 3 ∨ n = 4) with hc | hc | hc | hc
  · rw [if_neg (by omega), if_neg (by omega), if_neg (by omega), bureauref02_number.j0]
    have := num_end (k + 4) x ((gb x 0 : Nat) : Int)
    rw [hn, hc] at this
    rw [e1, this, hc]
    rfl
  · rw [if_pos (by omega), bureauref02_number.j0, e1, num_step _ x _ 1 (by omega) (by omega) (by omega)]
    have := num_end (k + 3) x ((gb x 0 % 32 * 64 + gb x 1 % 64 : Nat) : Int)
    rw [hn, hc] at this
    rw [this, hc]
    rfl
  · rw [if_neg (by omega), if_pos (by omega), bureauref02_number.j0, e1, num_step _ x _ 1 (by omega) (by omega) (by omega), num_step _ x _ 2 (by omega) (by omega) (by omega)]
    have := num_end (k + 2) x (((gb x 0 % 16 * 64 + gb x 1 % 64) * 64 + gb x 2 % 64 : Nat) : Int)
    rw [hn, hc] at this
    rw [this, hc]
    rfl
  · rw [if_neg (by omega), if_neg (by omega), if_pos (by omega), bureauref02_number.j0, e1, num_step _ x _ 1 (by omega) (by omega) (by omega), num_step _ x _ 2 (by omega) (by omega) (by omega), num_step _ x _ 3 (by omega) (by omega) (by omega)]
    have := num_end (k + 1) x ((((gb x 0 % 8 * 64 + gb x 1 % 64) * 64 + gb x 2 % 64) * 64 + gb x 3 % 64 : Nat) : Int)
    rw [hn, hc] at this
    rw [this, hc]
    rfl
/-! 'one': the sign at a place. -/
theorem list_eq_gb {s : ByteArray} {i n r : Nat} (hn : i + n ≤ s.size) (h1 : 1 ≤ n) (h4 : n ≤ 4) (hr : r ≤ 1114111) :
    ((⟨((enc r).map UInt8.ofNat).toArray⟩ : ByteArray).toList = (s.extract i (i + n)).toList) ↔ enc r = [gb s i, gb s (i + 1), gb s (i + 2), gb s (i + 3)].take n := by
  rw [ByteArray.toList_eq, ByteArray.toList_eq, list_bytes (s.extract i (i + n)), size_ext s i n hn]
  have hm : (List.range n).map (fun j => (s.extract i (i + n)).get! j) = ([gb s i, gb s (i + 1), gb s (i + 2), gb s (i + 3)].take n).map UInt8.ofNat := by
    rw [List.map_congr_left (g := fun j => s.get! (i + j)) (fun j hj => get_ext s i n j hn (List.mem_range.1 hj))]
    have g0 (j : Nat) : UInt8.ofNat (gb s j) = s.get! j := by unfold gb; exact UInt8.ofNat_toNat
    rcases (by omega : n = 1 ∨ n = 2 ∨ n = 3 ∨ n = 4) with rfl | rfl | rfl | rfl <;> simp [List.range_succ, g0]
  rw [hm]
  have inj : ∀ (x y : List Nat), (∀ a ∈ x, a < 256) → (∀ a ∈ y, a < 256) → x.map UInt8.ofNat = y.map UInt8.ofNat → x = y := by
    intro x
    induction x with
    | nil => intro y _ _ h; cases y with | nil => rfl | cons a y => cases h
    | cons a x ih =>
      intro y hx hy h
      cases y with
      | nil => cases h
      | cons b y =>
        simp only [List.map_cons, List.cons.injEq] at h
        have hab := congrArg UInt8.toNat h.1
        rw [UInt8.toNat_ofNat', UInt8.toNat_ofNat'] at hab
        have ha := hx a (by simp)
        have hb := hy b (by simp)
        rw [ih y (fun a ha => hx a (by simp [ha])) (fun a ha => hy a (by simp [ha])) h.2]
        congr 1
        omega
  constructor
  · intro h
    refine inj _ _ (enc_lt hr) (fun a ha => ?_) h
    have := List.mem_of_mem_take ha
    simp only [List.mem_cons, List.not_mem_nil, or_false] at this
    have b0 := gb_lt s i
    have b1 := gb_lt s (i + 1)
    have b2 := gb_lt s (i + 2)
    have b3 := gb_lt s (i + 3)
    omega
  · intro h
    rw [h]
theorem one_step (k : Nat) (s : ByteArray) (i n : Nat) (hs : s.size < 1000000000) (h1 : 1 ≤ n) (h4 : n ≤ 4) (hn : i + n ≤ s.size) :
    bureauref02_one.l0 (k + 12) s (i : Int) (n : Int) =
      if okN n (gb s i) (gb s (i + 1)) (gb s (i + 2)) (gb s (i + 3)) = true then some ((i : Int), (n : Int), ((numN n (gb s i) (gb s (i + 1)) (gb s (i + 2)) (gb s (i + 3)) : Nat) : Int), true) else bureauref02_one.l0 (k + 10) s (i : Int) ((n + 1 : Nat) : Int) := by
  have hw : wrap64 ((s.size : Int) - (i : Int)) = (s.size : Int) - (i : Int) := wrapZ _ (by omega) (by omega)
  have hw2 : wrap64 ((i : Int) + (n : Int)) = ((i + n : Nat) : Int) := by rw [wrapZ _ (by omega) (by omega)]; omega
  have hw3 : wrap64 ((n : Int) + 1) = ((n + 1 : Nat) : Int) := by rw [wrapZ _ (by omega) (by omega)]; omega
  have c4 : (n : Int) ≤ 4 := by omega
  have cd : decide ((n : Int) ≤ (s.size : Int) - (i : Int)) = true := decide_eq_true (by omega)
  have ci : (0 : Int) ≤ (i : Int) := by omega
  have cn : (i : Int) ≤ ((i + n : Nat) : Int) := by omega
  have cs : ((i + n : Nat) : Int) ≤ (s.size : Int) := by omega
  rw [bureauref02_one.l0, if_pos c4, hw, cd, bureauref02_one.j1, if_pos rfl, if_pos ci, hw2, if_pos cn, if_pos cs, hw3, Int.toNat_natCast, Int.toNat_natCast]
  clear hw hw2 hw3 c4 cd ci cn cs
  have hx := size_ext s i n hn
  have hlt0 := gb_lt (s.extract i (i + n)) 0
  rw [number_eq (k + 4) (s.extract i (i + n)) n hx h1 h4, Option.bind_some]
  have hg (j : Nat) (hj : j < n) : gb (s.extract i (i + n)) j = gb s (i + j) := by unfold gb; rw [get_ext s i n j hn hj]
  have hg0 : gb (s.extract i (i + n)) 0 = gb s i := hg 0 (by omega)
  have hnum : numN n (gb (s.extract i (i + n)) 0) (gb (s.extract i (i + n)) 1) (gb (s.extract i (i + n)) 2) (gb (s.extract i (i + n)) 3) = numN n (gb s i) (gb s (i + 1)) (gb s (i + 2)) (gb s (i + 3)) := by
    rcases (by omega : n = 1 ∨ n = 2 ∨ n = 3 ∨ n = 4) with rfl | rfl | rfl | rfl
    · rw [num1, num1, hg0]
    · rw [num2, num2, hg0, hg 1 (by omega)]
    · rw [num3, num3, hg0, hg 1 (by omega), hg 2 (by omega)]
    · rw [num4, num4, hg0, hg 1 (by omega), hg 2 (by omega), hg 3 (by omega)]
  rw [hnum]
  generalize hr : numN n (gb s i) (gb s (i + 1)) (gb s (i + 2)) (gb s (i + 3)) = r
  rw [may_eq, Option.bind_some]
  unfold okN
  rw [hr]
  cases hm : mayN r with
  | false => simp
  | true =>
    have hr2 : r ≤ 1114111 := by simp [mayN] at hm; omega
    rw [if_pos rfl, bytes_eq hr2, Option.bind_some]
    have hl := list_eq_gb (r := r) hn h1 h4 hr2
    by_cases he : enc r = [gb s i, gb s (i + 1), gb s (i + 2), gb s (i + 3)].take n
    · rw [if_pos (hl.2 he), if_pos (by simp [he])]
    · rw [if_neg (fun h => he (hl.1 h)), if_neg (by simp [he])]
theorem one_last (k : Nat) (s : ByteArray) (i n : Nat) (hs : s.size < 1000000000) (hi : i < s.size) (hn : 4 < n ∨ s.size < i + n) :
    bureauref02_one.l0 (k + 2) s (i : Int) (n : Int) = some ((i : Int), 1, 65533, false) := by
  have hw : wrap64 ((s.size : Int) - (i : Int)) = (s.size : Int) - (i : Int) := wrapZ _ (by omega) (by omega)
  rw [bureauref02_one.l0]
  by_cases h4 : n ≤ 4
  · rw [if_pos (by omega), hw, decide_eq_false (by omega), bureauref02_one.j1, if_neg (by decide)]
  · rw [if_neg (by omega), bureauref02_one.j1, if_neg (by decide)]
theorem one_eq (k : Nat) (s : ByteArray) (i : Nat) (hs : s.size < 1000000000) (hi : i < s.size) :
    bureauref02_one.f (k + 20) s (i : Int) = some ((i : Int), (((Utf8.decode s i).2 : Nat) : Int), (((Utf8.decode s i).1 : Nat) : Int), whole (0, Utf8.decode s i)) := by
  have b0 := gb_lt s i
  have b1 := gb_lt s (i + 1)
  have b2 := gb_lt s (i + 2)
  have b3 := gb_lt s (i + 3)
  have hd : Utf8.decode s i = Lib.decodeN (s.size - i) (gb s i) (gb s (i + 1)) (gb s (i + 2)) (gb s (i + 3)) := Lib.decode_at s i
  have hf := first_decode (m := s.size - i) b0 b1 b2 b3
  rw [← hd] at hf
  have h1 := congrArg (fun x : Nat × Nat × Bool => x.1) hf
  have h2 := congrArg (fun x : Nat × Nat × Bool => x.2.1) hf
  have h3 := congrArg (fun x : Nat × Nat × Bool => x.2.2) hf
  simp only at h1 h2 h3
  rw [← h1, ← h2, ← h3]
  clear h1 h2 h3 hf hd
  unfold bureauref02_one.f firstOk
  rw [show (1 : Int) = ((1 : Nat) : Int) from rfl, one_step (k + 8) s i 1 hs (by omega) (by omega) (by omega)]
  split
  · rfl
  by_cases m2 : i + 2 ≤ s.size
  · rw [one_step (k + 6) s i 2 hs (by omega) (by omega) m2]
    split
    · rw [if_pos ⟨by omega, by assumption⟩]
    rw [if_neg (fun h => by rename_i h' ; exact h' h.2)]
    by_cases m3 : i + 3 ≤ s.size
    · rw [one_step (k + 4) s i 3 hs (by omega) (by omega) m3]
      split
      · rw [if_pos ⟨by omega, by assumption⟩]
      rw [if_neg (fun h => by rename_i h' ; exact h' h.2)]
      by_cases m4 : i + 4 ≤ s.size
      · rw [one_step (k + 2) s i 4 hs (by omega) (by omega) m4]
        split
        · rw [if_pos ⟨by omega, by assumption⟩]
        rw [if_neg (fun h => by rename_i h' ; exact h' h.2), one_last (k + 10) s i 5 hs hi (by omega)]
        rfl
      · rw [one_last (k + 12) s i 4 hs hi (by omega), if_neg (by omega)]
        rfl
    · rw [one_last (k + 14) s i 3 hs hi (by omega), if_neg (by omega), if_neg (by omega)]
      rfl
  · rw [one_last (k + 16) s i 2 hs hi (by omega), if_neg (by omega), if_neg (by omega), if_neg (by omega)]
    rfl
/-- A sign, as the document has it. -/
def sig (x : Nat × Nat × Nat) : S63 := ⟨(x.1 : Int), (x.2.2 : Int), (x.2.1 : Int), whole x⟩
theorem whole_at (i j : Nat) (d : Nat × Nat) : whole (i, d) = whole (j, d) := rfl
theorem signs_loop (s : ByteArray) (hs : s.size < 1000000) : ∀ (b k i : Nat) (acc : List S63), s.size ≤ i + b → i ≤ s.size → acc.length ≤ i →
    bureauref02_Signs.l0 (b + k + 22) s acc (i : Int) = some (acc ++ (scan s b i).map sig) := by
  intro b
  induction b with
  | zero =>
    intro k i acc h hi ha
    rw [show (0 + k + 22 : Nat) = (k + 21) + 1 by omega, bureauref02_Signs.l0, if_neg (by omega)]
    simp [scan]
  | succ b ih =>
    intro k i acc h hi ha
    rw [show (b + 1 + k + 22 : Nat) = (b + k + 22) + 1 by omega, bureauref02_Signs.l0]
    by_cases hc : i < s.size
    · have hw := width_pos s i hc
      have hf := width_fits s i hc
      have h4 := width_le4 s i
      rw [if_pos (by omega), show b + k + 22 = (b + k + 2) + 20 by omega, one_eq (b + k + 2) s i (by omega) hc, Option.bind_some]
      have hlen : acc.length < 4398046511104 := by omega
      rw [if_pos hlen]
      have hw64 : wrap64 ((i : Int) + (((Utf8.decode s i).2 : Nat) : Int)) = ((i + (Utf8.decode s i).2 : Nat) : Int) := by rw [wrapZ _ (by omega) (by omega)]; omega
      simp only []
      rw [hw64, show b + k + 2 + 20 = b + k + 22 by omega, ih k _ _ (by omega) hf (by simp; omega), scan, if_pos hc, List.append_assoc]
      rfl
    · rw [if_neg (by omega), scan, if_neg hc]
      simp
theorem signs_eq (s : ByteArray) (hs : s.size < 1000000) (k : Nat) : bureauref02_Signs.f (s.size + k + 22) s = some ((scan s s.size 0).map sig) := by
  unfold bureauref02_Signs.f
  have := signs_loop s hs s.size k 0 [] (by omega) (by omega) (by simp)
  rw [show (0 : Int) = ((0 : Nat) : Int) from rfl, this]
  rfl
theorem rd_T63_nat (xs : List S63) (i : Nat) (h : i < xs.length) : rd_T63 xs (i : Int) = xs[i] := by
  unfold rd_T63
  rw [Int.toNat_natCast, List.getD_eq_getElem?_getD, List.getElem?_eq_getElem h]
  rfl
theorem which_loop {s : ByteArray} {n j : Nat} (h : Signs s n) (hs : s.size < 1000000) {a : Int} (ha : At s n a j) (xs : List S63) (hx : xs = (List.range n).map (fun t => sig (st s t, Utf8.decode s (st s t)))) :
    ∀ (c k i : Nat), j ≤ i + c → i ≤ j → bureauref02_which.l0 (c + k + 1) xs a (i : Int) = some (j : Int) := by
  have hlen : xs.length = n := by rw [hx]; simp
  have hn := h.le
  obtain ⟨hj, h1, h2, h3⟩ := ha
  have hat (i : Nat) (hi : i < n) : rd_T63 xs (i : Int) = sig (st s i, Utf8.decode s (st s i)) := by
    rw [rd_T63_nat xs i (by omega)]
    subst hx
    simp
  have hsum (i : Nat) (hi : i < n) : wrap64 ((sig (st s i, Utf8.decode s (st s i))).f0 + (sig (st s i, Utf8.decode s (st s i))).f1) = ((st s (i + 1) : Nat) : Int) := by
    have := h.le_size (show i + 1 ≤ n by omega)
    simp only [sig, st] at this ⊢
    rw [wrapZ _ (by omega) (by omega)]
    omega
  have stop (k : Nat) : bureauref02_which.l0 (k + 1) xs a (j : Int) = some (j : Int) := by
    rw [bureauref02_which.l0]
    by_cases hc : j < n
    · rw [if_pos (by omega), if_pos (by omega), hat j hc, hsum j hc, if_pos]
      have := h.step hc
      by_cases h0 : a < 0
      · omega
      · by_cases hz : a < (s.size : Int)
        · have := h2 (by omega) hz
          omega
        · have := h3 (by omega)
          omega
    · rw [if_neg (by omega), hlen]
      congr 1
      omega
  intro c
  induction c with
  | zero =>
    intro k i hc hi
    obtain rfl : i = j := by omega
    exact stop _
  | succ c ih =>
    intro k i hc hi
    by_cases he : i = j
    · subst he
      exact stop _
    · rw [show c + 1 + k + 1 = (c + k + 1) + 1 by omega, bureauref02_which.l0, if_pos (by omega), if_pos (by omega), hat i (by omega), hsum i (by omega), if_neg]
      · have hw : wrap64 ((i : Int) + 1) = ((i + 1 : Nat) : Int) := by rw [wrapZ _ (by omega) (by omega)]; omega
        rw [hw]
        exact ih k (i + 1) (by omega) (by omega)
      · have hm := st_mono s (show i + 1 ≤ j by omega)
        have := h.le_size hj
        by_cases h0 : a < 0
        · have := h1 h0
          omega
        · by_cases hz : a < (s.size : Int)
          · have := h2 (by omega) hz
            omega
          · omega
theorem map_sig {s : ByteArray} {n : Nat} (h : Signs s n) : (scan s s.size 0).map sig = (List.range n).map (fun t => sig (st s t, Utf8.decode s (st s t))) := by
  rw [h.eq, List.map_map]
  rfl
theorem which_eq {s : ByteArray} {n j : Nat} (h : Signs s n) (hs : s.size < 1000000) {a : Int} (ha : At s n a j) (k : Nat) : bureauref02_which.f (s.size + k + 1) ((scan s s.size 0).map sig) a = some (j : Int) := by
  have hn := h.le
  have hj := ha.1
  unfold bureauref02_which.f
  rw [map_sig h]
  exact which_loop h hs ha _ rfl s.size k 0 (by omega) (by omega)
theorem begins_eq {s : ByteArray} {n i : Nat} (h : Signs s n) (hs : s.size < 1000000) : bureauref02_begins.f s ((scan s s.size 0).map sig) (i : Int) = some (if i < n then ((st s i : Nat) : Int) else (s.size : Int)) := by
  unfold bureauref02_begins.f
  have hlen : ((scan s s.size 0).map sig).length = n := by rw [map_sig h]; simp
  rw [if_pos (by omega), hlen]
  by_cases hc : i < n
  · rw [if_pos (by omega), if_pos (by omega), if_pos hc, rd_T63_nat _ i (by omega)]
    simp only [map_sig h, List.getElem_map, List.getElem_range]
    rfl
  · rw [if_neg (by omega), if_neg hc]
theorem r02align_eq (s : ByteArray) (hs : s.size < 1000000) (a : Int) (k : Nat) : bureauref02_Align.f (s.size + k + 22) s a = some (alignZ s a : Int) := by
  obtain ⟨n, h⟩ := signs_ex s
  obtain ⟨j, ha⟩ := At.ex h a
  have hj := ha.1
  unfold bureauref02_Align.f
  have hW : bureauref02_which.f (s.size + k + 22) ((scan s s.size 0).map sig) a = some (j : Int) := which_eq h hs ha (k + 21)
  rw [signs_eq s hs k, Option.bind_some, hW, Option.bind_some, begins_eq h hs, Option.bind_some, alignZ_eq h ha]
  by_cases hc : j < n
  · rw [if_pos hc]
  · rw [if_neg hc, show j = n by omega, h.last]
theorem class_eq (k : Nat) (r : Int) : glyph_Class.f (k + 4) r = some (classZ r) := by
  unfold classZ glyph_Class.f
  have j3 (k : Nat) (x : Bool) : glyph_Class.j3 (k + 1) r x = some (if x = true then 1 else if 128 ≤ r ∧ r ≤ 1114111 ∧ r ≠ 65533 then 1 else 2) := by
    rw [glyph_Class.j3]
    by_cases hx : x = true
    · rw [if_pos hx, if_pos hx]
    rw [if_neg hx, if_neg hx]
    by_cases h1 : r ≥ 128
    · rw [if_pos h1]
      by_cases h2 : r ≤ 1114111
      · rw [if_pos h2]
        by_cases h3 : r = 65533
        · rw [if_pos h3, if_neg (by omega)]
        · rw [if_neg h3, if_pos ⟨h1, h2, h3⟩]
      · rw [if_neg h2, if_neg (by omega)]
    · rw [if_neg h1, if_neg (by omega)]
  have j2 (k : Nat) (x : Bool) : glyph_Class.j2 (k + 2) r x = some (if x = true ∨ (65 ≤ r ∧ r ≤ 90) ∨ r = 95 then 1 else if 128 ≤ r ∧ r ≤ 1114111 ∧ r ≠ 65533 then 1 else 2) := by
    rw [glyph_Class.j2]
    by_cases hx : x = true
    · rw [if_pos hx, j3, if_pos hx, if_pos (Or.inl hx)]
    rw [if_neg hx]
    by_cases h1 : r ≥ 65
    · rw [if_pos h1]
      by_cases h2 : r ≤ 90
      · rw [if_pos h2, decide_eq_true h2, j3, if_pos rfl, if_pos (Or.inr (Or.inl ⟨h1, h2⟩))]
      · rw [if_neg h2, j3]
        by_cases h3 : r = 95
        · rw [if_pos (by simp [h3]), if_pos (Or.inr (Or.inr h3))]
        · rw [if_neg (by simp [h3]), if_neg (c := x = true ∨ _) (by rintro (h | h | h); exact hx h; omega; omega)]
    · rw [if_neg h1, j3]
      rw [if_neg (by simp; omega), if_neg (c := x = true ∨ _) (by rintro (h | h | h); exact hx h; omega; omega)]
  have j1 (k : Nat) (x : Bool) : glyph_Class.j1 (k + 3) r x = some (if x = true ∨ (97 ≤ r ∧ r ≤ 122) ∨ (65 ≤ r ∧ r ≤ 90) ∨ r = 95 then 1 else if 128 ≤ r ∧ r ≤ 1114111 ∧ r ≠ 65533 then 1 else 2) := by
    rw [glyph_Class.j1]
    by_cases hx : x = true
    · rw [if_pos hx, j3, if_pos hx, if_pos (Or.inl hx)]
    rw [if_neg hx]
    by_cases h1 : r ≥ 97
    · rw [if_pos h1, j2]
      by_cases h2 : r ≤ 122
      · rw [if_pos (Or.inl (decide_eq_true h2)), if_pos (Or.inr (Or.inl ⟨h1, h2⟩))]
      · rw [if_neg (by rintro (h | h | h); exact h2 (of_decide_eq_true h); omega; omega), if_neg (c := x = true ∨ _) (by rintro (h | h | h | h); exact hx h; omega; omega; omega)]
    · rw [if_neg h1, j2]
      by_cases h3 : (65 ≤ r ∧ r ≤ 90) ∨ r = 95
      · rw [if_pos (Or.inr h3), if_pos (Or.inr (Or.inr h3))]
      · rw [if_neg (by rintro (h | h); cases h; exact h3 h), if_neg (c := x = true ∨ _) (by rintro (h | h | h); exact hx h; omega; exact h3 h)]
  have j0 (k : Nat) (x : Bool) : glyph_Class.j0 (k + 4) r x = some (if x = true then 0 else if r = 10 then 3 else if (48 ≤ r ∧ r ≤ 57) ∨ (97 ≤ r ∧ r ≤ 122) ∨ (65 ≤ r ∧ r ≤ 90) ∨ r = 95 then 1 else if 128 ≤ r ∧ r ≤ 1114111 ∧ r ≠ 65533 then 1 else 2) := by
    rw [glyph_Class.j0]
    by_cases hx : x = true
    · rw [if_pos hx, if_pos hx]
    rw [if_neg hx, if_neg hx]
    by_cases h10 : r = 10
    · rw [if_pos h10, if_pos h10]
    rw [if_neg h10, if_neg h10]
    by_cases h1 : r ≥ 48
    · rw [if_pos h1, j1]
      by_cases h2 : r ≤ 57
      · rw [if_pos (Or.inl (decide_eq_true h2)), if_pos (Or.inl ⟨h1, h2⟩)]
      · by_cases h3 : (97 ≤ r ∧ r ≤ 122) ∨ (65 ≤ r ∧ r ≤ 90) ∨ r = 95
        · rw [if_pos (Or.inr h3), if_pos (Or.inr h3)]
        · rw [if_neg (by rintro (h | h); exact h2 (of_decide_eq_true h); exact h3 h), if_neg (c := (48 ≤ r ∧ r ≤ 57) ∨ _) (by rintro (h | h); omega; exact h3 h)]
    · rw [if_neg h1, j1]
      rw [if_neg (by rintro (h | h | h | h); cases h; omega; omega; omega), if_neg (c := (48 ≤ r ∧ r ≤ 57) ∨ _) (by rintro (h | h | h | h); omega; omega; omega; omega)]
  by_cases h32 : r = 32
  · rw [if_pos h32, j0, if_pos rfl, if_pos (Or.inl h32)]
  · rw [if_neg h32, j0]
    by_cases h9 : r = 9
    · rw [if_pos (by simp [h9]), if_pos (Or.inr h9)]
    · rw [if_neg (by simp [h9]), if_neg (c := r = 32 ∨ _) (by rintro (h | h); exact h32 h; exact h9 h)]
theorem ext_drop (s : ByteArray) (p : Nat) : (s.extract p s.size).data.toList = s.data.toList.drop p := by
  rw [ByteArray.data_extract, Array.toList_extract, List.extract_eq_take_drop, List.take_of_length_le]
  rw [List.length_drop, size_list]
  exact Nat.le_refl _
theorem ext_take (s : ByteArray) (q : Nat) : (s.extract 0 q).data.toList = s.data.toList.take q := by
  rw [ByteArray.data_extract, Array.toList_extract, List.extract_eq_take_drop, List.drop_zero, Nat.sub_zero]
theorem strcount_eq (s : ByteArray) : strings_Count.f s (⟨#[10]⟩ : ByteArray) = some ((s.data.toList.count 10 : Nat) : Int) := rfl
theorem index_eq (s : ByteArray) (p : Nat) : strings_IndexByte.f (s.extract p s.size) 10 = some (Lib.indexByte (s.data.toList.drop p) 10) := by
  unfold strings_IndexByte.f
  rw [ext_drop]
  rfl
theorem nE_count (s : ByteArray) : nE s = s.data.toList.count 10 + 1 := eL_len _ _
theorem nE_pos (s : ByteArray) : 1 ≤ nE s := ends_pos s
theorem nE_le (s : ByteArray) : nE s ≤ s.size + 1 := ends_le s
theorem count_eq (s : ByteArray) (hs : s.size ≤ 1000000) : line_Count.f s = some (nE s : Int) := by
  unfold line_Count.f
  have := nE_le s
  rw [strcount_eq, Option.bind_some, nE_count] at *
  congr 1
  rw [wrapZ _ (by omega) (by omega)]
  omega
theorem of_eq (s : ByteArray) (a : Int) : line_Of.f s a = some (ofZ s a : Int) := by
  unfold line_Of.f
  have hm : mn (mx a 0) (s.size : Int) = min (max a 0) (s.size : Int) := by unfold mn mx; omega
  rw [hm, if_pos (by omega), if_pos (by omega), strcount_eq, Option.bind_some, ext_take]
  rfl
theorem bounds_loop (s : ByteArray) (hs : s.size ≤ 1000000) (m : Nat) (hm : m < nE s) : ∀ (c i k : Nat), i + c = m →
    line_Bounds.l0 (c + k + 1) s (bF s i : Int) (m : Int) (i : Int) = some ((bF s m : Int), (bT s m : Int), 0) := by
  have hn := nE_le s
  intro c
  induction c with
  | zero =>
    intro i k hi
    have hi : i = m := by omega
    subst hi
    have h1 := (bF_tail s i hm).1
    rw [show 0 + k + 1 = k + 1 by omega, line_Bounds.l0, if_neg (by omega), if_pos (by omega), if_pos (by omega), Int.toNat_natCast, index_eq, Option.bind_some]
    rcases bT_index s i hm with ⟨h2, h3, h4⟩ | ⟨j, h2, h3, h4, h5, h6⟩
    · rw [h2, if_pos (by decide), h4]
    · rw [h2, if_neg (by omega), wrapZ _ (by omega) (by omega), h4]
      rfl
  | succ c ih =>
    intro i k hi
    have him : i < nE s := by omega
    have h1 := (bF_tail s i him).1
    have hw : wrap64 ((i : Int) + 1) = ((i + 1 : Nat) : Int) := by rw [wrapZ _ (by omega) (by omega)]; omega
    rw [show c + 1 + k + 1 = (c + k + 1) + 1 by omega, line_Bounds.l0, if_pos (by omega), if_pos (by omega), if_pos (by omega), Int.toNat_natCast, index_eq, Option.bind_some, hw]
    rcases bT_index s i him with ⟨h2, h3, h4⟩ | ⟨j, h2, h3, h4, h5, h6⟩
    · exfalso
      unfold nE at hm
      omega
    · have e1 : wrap64 ((j : Int) + 1) = (j : Int) + 1 := wrapZ _ (by omega) (by omega)
      have e2 : wrap64 ((bF s i : Int) + ((j : Int) + 1)) = ((bF s (i + 1) : Nat) : Int) := by rw [wrapZ _ (by omega) (by omega), h6]; omega
      rw [h2, e1, e2]
      exact ih (i + 1) k (by omega)
def boundsZ (s : ByteArray) (n : Int) : Int × Int × Int := if 0 ≤ n ∧ n < (nE s : Int) then ((bF s n.toNat : Int), (bT s n.toNat : Int), 0) else (0, 0, 2)
theorem bounds_eq (s : ByteArray) (hs : s.size ≤ 1000000) (n : Int) (k : Nat) : line_Bounds.f (s.size + k + 4) s n = some (boundsZ s n) := by
  have hn := nE_le s
  unfold line_Bounds.f boundsZ
  by_cases h0 : n < 0
  · rw [if_pos h0, show s.size + k + 4 = (s.size + k + 3) + 1 from rfl, line_Bounds.j0, if_pos rfl, if_neg (by omega)]
  rw [if_neg h0, count_eq s hs, Option.bind_some, show s.size + k + 4 = (s.size + k + 3) + 1 from rfl, line_Bounds.j0]
  by_cases h1 : n ≥ (nE s : Int)
  · rw [decide_eq_true h1, if_pos rfl, if_neg (by omega)]
  · rw [decide_eq_false h1, if_neg (by decide), if_pos (by omega)]
    obtain ⟨m, rfl⟩ : ∃ m : Nat, n = (m : Int) := ⟨n.toNat, by omega⟩
    have := bounds_loop s hs m (by omega) m 0 (s.size + k + 2 - m) (by omega)
    rw [show m + (s.size + k + 2 - m) + 1 = s.size + k + 3 by omega] at this
    exact this
theorem suffix_dec (s : ByteArray) (i : Nat) (h : i < s.size) : utf8_DecodeRuneInString.f (s.extract i s.size) = some ((((Utf8.decode s i).1 : Nat) : Int), (((Utf8.decode s i).2 : Nat) : Int)) := by
  unfold utf8_DecodeRuneInString.f
  rw [suffix_decode s i h]
theorem align_loop (s : ByteArray) (a : Nat) (ha : a < s.size) (hs : s.size < 1000000) : ∀ (n b k : Nat), n + b = 4 → glyph_Align.l0 (n * 2 + k + 2) s (a : Int) (b : Int) = some ((al s a n b : Nat) : Int) := by
  intro n
  induction n with
  | zero =>
    intro b k hb
    rw [show 0 * 2 + k + 2 = (k + 1) + 1 by omega, glyph_Align.l0, if_neg (by omega), glyph_Align.j1, if_neg (by decide)]
    rfl
  | succ n ih =>
    intro b k hb
    rw [show (n + 1) * 2 + k + 2 = ((n * 2 + k + 2) + 1) + 1 by omega, glyph_Align.l0, if_pos (by omega)]
    have hal : al s a (n + 1) b = if b ≤ a then (if gb s (a - b) / 64 = 2 then al s a n (b + 1) else if b < (Utf8.decode s (a - b)).2 then a - b else a) else a := rfl
    rw [hal]
    by_cases hc : b ≤ a
    · have hd : decide ((b : Int) ≤ (a : Int)) = true := decide_eq_true (by omega)
      have hw : wrap64 ((a : Int) - (b : Int)) = ((a - b : Nat) : Int) := by rw [wrapZ _ (by omega) (by omega)]; omega
      have hw1 : wrap64 ((b : Int) + 1) = ((b + 1 : Nat) : Int) := by rw [wrapZ _ (by omega) (by omega)]; omega
      have c1 : (0 : Int) ≤ ((a - b : Nat) : Int) := by omega
      have c2 : ((a - b : Nat) : Int) < (s.size : Int) := by omega
      have c3 : ((a - b : Nat) : Int) ≤ (s.size : Int) := by omega
      rw [hd, glyph_Align.j1, if_pos rfl, hw, hw1, if_pos c1, if_pos c2, bt_gb s (a - b) (by omega)]
      unfold utf8_RuneStart.f
      rw [Ext.start_eq _ (gb_lt s _), Option.bind_some, if_pos hc]
      by_cases hg : gb s (a - b) / 64 = 2
      · rw [if_neg (by simp [hg]), if_pos hg]
        exact ih (b + 1) k (by omega)
      · rw [if_pos (by simp [hg]), if_neg hg, if_pos c3, Int.toNat_natCast, suffix_dec s (a - b) (by omega), Option.bind_some]
        simp only []
        by_cases hl : b < (Utf8.decode s (a - b)).2
        · rw [if_pos hl, if_pos (by omega)]
        · rw [if_neg hl, if_neg (by omega)]
    · have hd : decide ((b : Int) ≤ (a : Int)) = false := decide_eq_false (by omega)
      rw [hd, glyph_Align.j1, if_neg (by decide), if_neg hc]
theorem align_eq {s : ByteArray} {n j : Nat} (h : Signs s n) (hs : s.size < 1000000) {a : Int} (ha : At s n a j) (k : Nat) : glyph_Align.f (k + 10) s a = some ((st s j : Nat) : Int) := by
  obtain ⟨hj, h1, h2, h3⟩ := ha
  unfold glyph_Align.f
  by_cases c0 : a < 0
  · rw [if_pos c0, h1 c0]
    rfl
  rw [if_neg c0]
  by_cases c1 : a ≥ (s.size : Int)
  · rw [if_pos c1, h3 c1, h.last]
  rw [if_neg c1]
  obtain ⟨e1, e2, e3⟩ := h2 (by omega) (by omega)
  obtain ⟨a, rfl⟩ : ∃ a' : Nat, a = a' := ⟨a.toNat, by omega⟩
  have := align_loop s a (by omega) hs 4 0 k (by omega)
  rw [show 4 * 2 + k + 2 = k + 10 by omega] at this
  rw [show (0 : Int) = ((0 : Nat) : Int) from rfl, this, al_eq h e1 (by omega) (by omega)]
theorem alignP_eq (s : ByteArray) (hs : s.size < 1000000) (a : Int) (k : Nat) : glyph_Align.f (k + 10) s a = some (alignZ s a : Int) := by
  obtain ⟨n, h⟩ := signs_ex s
  obtain ⟨j, hj⟩ := At.ex h a
  rw [align_eq h hs hj k, alignZ_eq h hj]
theorem ofZ_lt (s : ByteArray) (a : Int) : ofZ s a < nE s := by
  rw [nE_count]
  unfold ofZ
  have := List.Sublist.count_le (10 : UInt8) (List.take_sublist (min (max a 0) (s.size : Int)).toNat s.data.toList)
  omega
theorem bF_of (s : ByteArray) : ∀ (p : Nat), p ≤ s.size → bF s ((s.data.toList.take p).count 10) ≤ p ∧ p ≤ bT s ((s.data.toList.take p).count 10) := by
  intro p
  induction p with
  | zero =>
    intro _
    rw [List.take_zero, List.count_nil]
    exact ⟨Nat.zero_le _, Nat.zero_le _⟩
  | succ p ih =>
    intro hp
    obtain ⟨h1, h2⟩ := ih (by omega)
    have hlen : p < s.data.toList.length := by rw [← size_list]; omega
    have hlt : (s.data.toList.take p).count 10 < nE s := by
      rw [nE_count]
      have := List.Sublist.count_le (10 : UInt8) (List.take_sublist p s.data.toList)
      omega
    have ht : s.data.toList.take (p + 1) = s.data.toList.take p ++ [s.data.toList[p]] := by rw [List.take_add_one, List.getElem?_eq_getElem hlen]; rfl
    have hgb : gb s p = s.data.toList[p].toNat := gb_list s p _ (List.getElem?_eq_getElem hlen)
    rw [ht, List.count_append]
    generalize hq : (s.data.toList.take p).count 10 = q at *
    by_cases hc : s.data.toList[p] = 10
    · have he : bT s q = p := by
        rcases bT_index s q hlt with ⟨h3, h4, h5⟩ | ⟨j, h3, h4, h5, h6, h7⟩
        · exfalso
          -- no line end from bF on, yet one at p
          obtain ⟨e1, e2⟩ := bF_tail s q hlt
          have hcnt := eL_len (s.data.toList.drop (bF s q)) (bF s q)
          rw [e2, List.length_drop] at hcnt
          have h0 : (s.data.toList.drop (bF s q)).count 10 = 0 := by omega
          have hmem : (10 : UInt8) ∈ s.data.toList.drop (bF s q) := by
            rw [← hc]
            have : s.data.toList[p] = (s.data.toList.drop (bF s q))[p - bF s q]'(by rw [List.length_drop]; omega) := by
              rw [List.getElem_drop]
              congr 1
              omega
            rw [this]
            exact List.getElem_mem _
          exact absurd (List.count_pos_iff.2 hmem) (by omega)
        · rcases Nat.lt_or_ge p (bT s q) with hlt2 | hge
          · exfalso
            -- p lies ahead of the first line end
            have hix := h3
            have key : ∀ (l : List UInt8) (i : Nat), Lib.indexByte l 10 = (i : Int) → ∀ t, t < i → l[t]? ≠ some 10 := by
              intro l
              induction l with
              | nil => intro i hi; exact absurd hi (by simp [Lib.indexByte])
              | cons c r ihl =>
                intro i hi t ht
                have hx : Lib.indexByte (c :: r) 10 = if (c == 10) = true then 0 else if (Lib.indexByte r 10 == -1) = true then -1 else Lib.indexByte r 10 + 1 := rfl
                rw [hx] at hi
                by_cases h10 : (c == 10) = true
                · rw [if_pos h10] at hi
                  omega
                · rw [if_neg h10] at hi
                  by_cases hm : (Lib.indexByte r 10 == -1) = true
                  · rw [if_pos hm] at hi
                    omega
                  · rw [if_neg hm] at hi
                    cases t with
                    | zero =>
                      rw [List.getElem?_cons_zero]
                      intro he
                      apply h10
                      rw [Option.some.inj he]
                      rfl
                    | succ t =>
                      rw [List.getElem?_cons_succ]
                      exact ihl (i - 1) (by omega) t (by omega)
            have := key _ _ hix (p - bF s q) (by omega)
            rw [List.getElem?_drop, show bF s q + (p - bF s q) = p by omega, List.getElem?_eq_getElem hlen, hc] at this
            exact this rfl
          · omega
      rw [hc]
      have h10 : List.count (10 : UInt8) [10] = 1 := rfl
      rw [h10]
      have hf : bF s (q + 1) = bT s q + 1 := rfl
      have hq1 : q + 1 < nE s := (bT_last s q hlt).1 (by omega)
      have hb := bT_le s (q + 1) hq1
      exact ⟨by omega, by omega⟩
    · have h0 : List.count (10 : UInt8) [s.data.toList[p]] = 0 := by
        rw [List.count_cons_of_ne hc]
        rfl
      rw [h0, Nat.add_zero]
      refine ⟨by omega, ?_⟩
      rcases Nat.lt_or_ge p (bT s q) with hlt2 | hge
      · omega
      · exfalso
        have he : bT s q = p := by omega
        have := (bT_gb s q hlt).1 (by omega)
        rw [he, hgb] at this
        apply hc
        exact UInt8.toNat_inj.1 this
theorem ofZ_in (s : ByteArray) (p : Nat) (h : p ≤ s.size) : bF s (ofZ s (p : Int)) ≤ p ∧ p ≤ bT s (ofZ s (p : Int)) := by
  have := bF_of s p h
  have e : (min (max (p : Int) 0) (s.size : Int)).toNat = p := by omega
  unfold ofZ
  rw [e]
  exact this
/-! ### what Find makes of a pair -/
def fin3 (around : Bool) (z : Int × Int × Bool) : Int × Int × Bool := if z.2.2 = true then (if around = true then (z.1, z.2.1 + 1, true) else (z.1 + 1, z.2.1, true)) else (0, 0, false)
theorem j3_eq (k : Nat) (around : Bool) (z : Int × Int × Bool) (h0 : -1000000 < z.1 ∧ z.1 < 1000000) (h1 : -1000000 < z.2.1 ∧ z.2.1 < 1000000) : object_Find.j3 (k + 1) around z.1 z.2.1 z.2.2 = some (fin3 around z) := by
  have w0 : wrap64 (z.1 + 1) = z.1 + 1 := wrapZ _ (by omega) (by omega)
  have w1 : wrap64 (z.2.1 + 1) = z.2.1 + 1 := wrapZ _ (by omega) (by omega)
  rw [object_Find.j3, w0, w1]
  unfold fin3
  cases z.2.2
  · rfl
  · cases around <;> rfl
theorem find_head (s : ByteArray) (hs : s.size < 1000000) (at_ : Int) (around : Bool) (key : Int) (k : Nat) : object_Find.f (k + 10) s at_ around key =
    (if ((alignZ s at_ : Nat) : Int) = (s.size : Int) then (some (0, 0, false)) else (if key = 119 then ((object_word.f (k + 10) s ((alignZ s at_ : Nat) : Int) around).bind fun bt153 => (some (bt153.1, bt153.2, true))) else (if key = 40 then (object_Find.j0 (k + 10) s ((alignZ s at_ : Nat) : Int) around key 0 0 false key (key == 40)) else (if key = 41 then (object_Find.j0 (k + 10) s ((alignZ s at_ : Nat) : Int) around key 0 0 false key (key == 41)) else (object_Find.j0 (k + 10) s ((alignZ s at_ : Nat) : Int) around key 0 0 false key (key == 98)))))) := by
  unfold object_Find.f
  rw [alignP_eq s hs at_ k, Option.bind_some]
/-! ### a byte between two places -/
theorem list_gb (s : ByteArray) (i : Nat) (h : i < s.size) : ∃ b : UInt8, s.data.toList[i]? = some b ∧ b.toNat = gb s i := by
  have hl : i < s.data.toList.length := by rw [← size_list]; exact h
  refine ⟨s.data.toList[i], List.getElem?_eq_getElem hl, ?_⟩
  exact (gb_list s i _ (List.getElem?_eq_getElem hl)).symm
theorem idx_eq (s : ByteArray) (p e q : Nat) (hp : p ≤ e) (he : e ≤ s.size) (hq : q < 256) :
    (strings_IndexByte.f (s.extract p e) (q : Int) = some (-1) ∧ ∀ t, p ≤ t → t < e → gb s t ≠ q) ∨
    ∃ o : Nat, strings_IndexByte.f (s.extract p e) (q : Int) = some ((o : Int) - (p : Int)) ∧ p ≤ o ∧ o < e ∧ gb s o = q ∧ ∀ t, p ≤ t → t < o → gb s t ≠ q := by
  have hsz := size_sub s p e he hp
  have hqb : ((q : Int).toNat.toUInt8).toNat = q := by
    rw [Int.toNat_natCast]
    show q % 256 = q
    omega
  have at' : ∀ t, t < e - p → ∃ b : UInt8, (s.extract p e).data.toList[t]? = some b ∧ b.toNat = gb s (p + t) := fun t ht => by
    obtain ⟨b, h1, h2⟩ := list_gb (s.extract p e) t (by omega)
    exact ⟨b, h1, by rw [h2, gb_sub s p e t he hp ht]⟩
  have eqb : ∀ b : UInt8, b.toNat = q → b = (q : Int).toNat.toUInt8 := fun b hb => UInt8.toNat_inj.1 (by rw [hqb, hb])
  unfold strings_IndexByte.f
  have hge := Lib.indexByte_ge (s.extract p e).data.toList (q : Int).toNat.toUInt8
  by_cases hr : Lib.indexByte (s.extract p e).data.toList (q : Int).toNat.toUInt8 = -1
  · left
    refine ⟨by rw [hr], fun t h1 h2 hg => ?_⟩
    obtain ⟨b, hb, hbq⟩ := at' (t - p) (by omega)
    rw [show p + (t - p) = t by omega, hg] at hbq
    exact Lib.indexByte_none hr (t - p) (by rw [hb, eqb b hbq])
  · right
    obtain ⟨j, hj⟩ : ∃ j : Nat, Lib.indexByte (s.extract p e).data.toList (q : Int).toNat.toUInt8 = (j : Int) := ⟨(Lib.indexByte (s.extract p e).data.toList (q : Int).toNat.toUInt8).toNat, by omega⟩
    obtain ⟨h1, h2⟩ := Lib.indexByte_some hj
    have hlt : j < e - p := by
      have := (List.getElem?_eq_some_iff.1 h1).1
      rw [← size_list] at this
      omega
    refine ⟨p + j, by rw [hj]; congr 1; omega, by omega, by omega, ?_, fun t g1 g2 hg => ?_⟩
    · obtain ⟨b, hb, hbq⟩ := at' j hlt
      rw [h1] at hb
      rw [← hbq, ← Option.some.inj hb, hqb]
    · obtain ⟨b, hb, hbq⟩ := at' (t - p) (by omega)
      rw [show p + (t - p) = t by omega, hg] at hbq
      exact h2 (t - p) (by omega) (by rw [hb, eqb b hbq])
theorem line_nonl (s : ByteArray) (n t : Nat) (hn : n < nE s) (h1 : bF s n ≤ t) (h2 : t < bT s n) : gb s t ≠ 10 := by
  intro hg
  have hle := bT_le s n hn
  obtain ⟨b, hb, hbq⟩ := list_gb s t (by omega)
  have hb10 : b = 10 := UInt8.toNat_inj.1 (by rw [hbq, hg]; rfl)
  have hd : (s.data.toList.drop (bF s n))[t - bF s n]? = some 10 := by rw [List.getElem?_drop, show bF s n + (t - bF s n) = t by omega, hb, hb10]
  rcases bT_index s n hn with ⟨h3, _, _⟩ | ⟨i, h3, _, h5, _, _⟩
  · exact Lib.indexByte_none h3 _ hd
  · exact (Lib.indexByte_some h3).2 (t - bF s n) (by omega) hd
/-! ### quotes -/
set_option maxHeartbeats 2000000 in
theorem quo_loop (s : ByteArray) (hs : s.size < 1000000) (a q E : Nat) (hq : q < 256) (hE : E ≤ s.size) : ∀ (d p : Nat), p + d = E →
    ∃ z : Int × Int × Bool, (∀ f, d + 1 ≤ f → object_quotes.l0 f s (a : Int) (q : Int) (p : Int) (E : Int) = some z) ∧
      (z = (0, 0, false) ∨ ∃ o c : Nat, z = ((o : Int), (c : Int), true) ∧ p ≤ o ∧ o < c ∧ c < E ∧ a ≤ c ∧ gb s o = q ∧ gb s c = q ∧ ∀ t, o < t → t < c → gb s t ≠ q) := by
  intro d
  induction d using Nat.strongRecOn with
  | ind d ih =>
    intro p e
    rcases idx_eq s p E q (by omega) hE hq with ⟨h1, _⟩ | ⟨o, h1, hpo, hoE, hg, hno⟩
    · refine ⟨(0, 0, false), fun f hf => ?_, .inl rfl⟩
      cases f with
      | zero => omega
      | succ f => rw [object_quotes.l0, if_pos (by omega), if_pos (by omega), if_pos (by omega), Int.toNat_natCast, Int.toNat_natCast, h1, Option.bind_some, if_pos (by omega)]
    · have w1 : Aside0 (wrap64 ((p : Int) + ((o : Int) - (p : Int))) = (o : Int)) := ⟨by rw [wrapZ _ (by omega) (by omega)]; omega⟩
      have w2 : Aside0 (wrap64 ((o : Int) + 1) = ((o + 1 : Nat) : Int)) := ⟨by rw [wrapZ _ (by omega) (by omega)]; omega⟩
      rcases idx_eq s (o + 1) E q (by omega) hE hq with ⟨h2, _⟩ | ⟨c, h2, hoc, hcE, hg2, hno2⟩
      · refine ⟨(0, 0, false), fun f hf => ?_, .inl rfl⟩
        cases f with
        | zero => omega
        | succ f => rw [object_quotes.l0, if_pos (by omega), if_pos (by omega), if_pos (by omega), Int.toNat_natCast, Int.toNat_natCast, h1, Option.bind_some, if_neg (by omega)]; simp only [w1.out, w2.out]; rw [if_pos (by omega), if_pos (by omega), Int.toNat_natCast, h2, Option.bind_some, if_pos (by omega)]
      · have w3 : Aside0 (wrap64 (((o + 1 : Nat) : Int) + ((c : Int) - ((o + 1 : Nat) : Int))) = (c : Int)) := ⟨by rw [wrapZ _ (by omega) (by omega)]; omega⟩
        have w4 : Aside0 (wrap64 ((c : Int) + 1) = ((c + 1 : Nat) : Int)) := ⟨by rw [wrapZ _ (by omega) (by omega)]; omega⟩
        by_cases hit : a ≤ c
        · refine ⟨((o : Int), (c : Int), true), fun f hf => ?_, .inr ⟨o, c, rfl, hpo, hoc, hcE, hit, hg, hg2, fun t t1 t2 => hno2 t t1 t2⟩⟩
          cases f with
          | zero => omega
          | succ f => rw [object_quotes.l0, if_pos (by omega), if_pos (by omega), if_pos (by omega), Int.toNat_natCast, Int.toNat_natCast, h1, Option.bind_some, if_neg (by omega)]; simp only [w1.out, w2.out]; rw [if_pos (by omega), if_pos (by omega), Int.toNat_natCast, h2, Option.bind_some, if_neg (by omega)]; simp only [w3.out]; rw [if_pos (by omega)]
        · obtain ⟨z, hz, hh⟩ := ih (E - (c + 1)) (by omega) (c + 1) (by omega)
          refine ⟨z, fun f hf => ?_, ?_⟩
          · cases f with
            | zero => omega
            | succ f =>
              rw [object_quotes.l0, if_pos (by omega), if_pos (by omega), if_pos (by omega), Int.toNat_natCast, Int.toNat_natCast, h1, Option.bind_some, if_neg (by omega)]; simp only [w1.out, w2.out]; rw [if_pos (by omega), if_pos (by omega), Int.toNat_natCast, h2, Option.bind_some, if_neg (by omega)]
              simp only [w3.out]
              rw [if_neg (by omega)]
              simp only [w4.out]
              exact hz f (by omega)
          · rcases hh with h | ⟨o', c', r1, r2, r3⟩
            · exact .inl h
            · exact .inr ⟨o', c', r1, by omega, r3⟩
theorem quotes_eq (s : ByteArray) (hs : s.size < 1000000) (a q : Nat) (hq : q < 256) :
    ∃ z : Int × Int × Bool, (∀ k, object_quotes.f (s.size + k + 4) s (a : Int) (q : Int) = some z) ∧
      (z = (0, 0, false) ∨ ∃ o c : Nat, z = ((o : Int), (c : Int), true) ∧ o < c ∧ c < s.size ∧ a ≤ c ∧ gb s o = q ∧ gb s c = q ∧ ∀ t, o < t → t < c → gb s t ≠ q ∧ gb s t ≠ 10) := by
  have hn := ofZ_lt s (a : Int)
  have hle := bT_le s (ofZ s (a : Int)) hn
  have hb : boundsZ s ((ofZ s (a : Int) : Nat) : Int) = ((bF s (ofZ s (a : Int)) : Int), (bT s (ofZ s (a : Int)) : Int), 0) := by
    unfold boundsZ
    rw [if_pos (by omega), Int.toNat_natCast]
  obtain ⟨z, hz, hh⟩ := quo_loop s hs a q (bT s (ofZ s (a : Int))) hq hle.2 (bT s (ofZ s (a : Int)) - bF s (ofZ s (a : Int))) (bF s (ofZ s (a : Int))) (by omega)
  refine ⟨z, fun k => ?_, ?_⟩
  · unfold object_quotes.f
    rw [of_eq, Option.bind_some, bounds_eq s (by omega) _ k, Option.bind_some, hb]
    exact hz _ (by omega)
  · rcases hh with h | ⟨o, c, r1, r2, r3, r4, r5, r6, r7, r8⟩
    · exact .inl h
    · exact .inr ⟨o, c, r1, r3, by omega, r5, r6, r7, fun t t1 t2 => ⟨r8 t t1 t2, line_nonl s _ t hn (by omega) (by omega)⟩⟩
theorem alive_eq (k : Nat) : bureaulaw13_alive.f (k + 60) = some true := by
  have h : bureaulaw13_alive.f 60 = some true := by decide +kernel
  induction k with
  | zero => exact h
  | succ k ih =>
    have := bureaulaw13_alive.mono (k + 60) true ih
    rwa [show k + 1 + 60 = k + 60 + 1 by omega]
theorem find_quote (s : ByteArray) (hs : s.size < 1000000) (at_ : Int) (z : Int × Int × Bool) (q : Nat) (hk : q = 34 ∨ q = 39) (ha : alignZ s at_ ≠ s.size)
    (hz : ∀ k, object_quotes.f (s.size + k + 4) s ((alignZ s at_ : Nat) : Int) (q : Int) = some z) (h0 : -1000000 < z.1 ∧ z.1 < 1000000) (h1 : -1000000 < z.2.1 ∧ z.2.1 < 1000000) (around : Bool) (k : Nat) :
    object_Find.f (s.size + k + 20) s at_ around (q : Int) = some (fin3 around z) := by
  have hne : ¬ ((alignZ s at_ : Nat) : Int) = (s.size : Int) := by omega
  rw [show s.size + k + 20 = (s.size + k + 10) + 10 by omega, find_head s hs at_ around _ _, if_neg hne]
  have z2 := hz (k + 13)
  rw [show s.size + (k + 13) + 4 = s.size + k + 17 by omega] at z2
  have g2 := j3_eq (s.size + k + 16) around z h0 h1
  rcases hk with rfl | rfl
  · rw [if_neg (by decide), if_neg (by decide), if_neg (by decide), show (((34 : Nat) : Int) == 98) = false from rfl, show s.size + k + 10 + 10 = (s.size + k + 17) + 1 + 1 + 1 by omega, object_Find.j0, if_neg (by decide), if_neg (by decide), show (((34 : Nat) : Int) == 93) = false from rfl, object_Find.j1, if_neg (by decide), if_neg (by decide), if_neg (by decide), show (((34 : Nat) : Int) == 66) = false from rfl, object_Find.j2, if_neg (by decide), if_pos (by decide)]
    have z2' : object_quotes.f (s.size + k + 17) s ((alignZ s at_ : Nat) : Int) (((34 : Nat) : Int) % 256) = some z := z2
    rw [z2', Option.bind_some]
    exact g2
  · rw [if_neg (by decide), if_neg (by decide), if_neg (by decide), show (((39 : Nat) : Int) == 98) = false from rfl, show s.size + k + 10 + 10 = (s.size + k + 17) + 1 + 1 + 1 by omega, object_Find.j0, if_neg (by decide), if_neg (by decide), show (((39 : Nat) : Int) == 93) = false from rfl, object_Find.j1, if_neg (by decide), if_neg (by decide), if_neg (by decide), show (((39 : Nat) : Int) == 66) = false from rfl, object_Find.j2, if_neg (by decide), if_neg (by decide), if_pos (by decide)]
    have z2' : object_quotes.f (s.size + k + 17) s ((alignZ s at_ : Nat) : Int) (((39 : Nat) : Int) % 256) = some z := z2
    rw [z2', Option.bind_some]
    exact g2
theorem no_loop (s : ByteArray) (hs : s.size < 1000000) (q x y : Nat) (hy : y < s.size) (hno : ∀ t, x ≤ t → t < y → gb s t ≠ q ∧ gb s t ≠ 10) : ∀ (d i f : Nat), i + d = y → x ≤ i → d + 1 ≤ f →
    bureaulaw13_ObjectQuotes.l0 f s (q : Int) (y : Int) (i : Int) = some true
  | _, _, 0, _, _, hf => by omega
  | 0, i, f + 1, e, _, _ => by rw [bureaulaw13_ObjectQuotes.l0, if_neg (by omega)]
  | d + 1, i, f + 1, e, hx, hf => by
    have hw : wrap64 ((i : Int) + 1) = ((i + 1 : Nat) : Int) := by rw [wrapZ _ (by omega) (by omega)]; omega
    have hn := hno i hx (by omega)
    rw [bureaulaw13_ObjectQuotes.l0, if_pos (by omega), if_pos (by omega), if_pos (by omega), bt_gb s i (by omega), if_neg (by omega), if_neg (by omega), hw]
    exact no_loop s hs q x y hy hno d (i + 1) f (by omega) (by omega) (by omega)
theorem quote_law (s : ByteArray) (hs : s.size ≤ 2048) (at_ : Int) (q : Nat) (hk : q = 34 ∨ q = 39) : bureaulaw13_ObjectQuotes.j0 (2 * s.size + 61) s at_ (q : Int) = some true := by
  have hw : wrap32 (q : Int) = (q : Int) := by unfold wrap32; omega
  rw [show 2 * s.size + 61 = (2 * s.size + 60) + 1 by omega, bureaulaw13_ObjectQuotes.j0, hw]
  by_cases ha : alignZ s at_ = s.size
  · have F : ∀ around key, object_Find.f (2 * s.size + 60) s at_ around key = some (0, 0, false) := fun around key => by
      rw [show 2 * s.size + 60 = (2 * s.size + 50) + 10 by omega, find_head s (by omega) at_ around key _, if_pos (by omega)]
    rw [F, F]
    rfl
  · obtain ⟨z, hz, hq⟩ := quotes_eq s (by omega) (alignZ s at_) q (by omega)
    rcases hq with rfl | ⟨o, c, rfl, hoc, hcs, hac, hgo, hgc, hno⟩
    · have F := fun around => find_quote s (by omega) at_ _ q hk ha hz (by simp) (by simp) around (s.size + 40)
      rw [show s.size + (s.size + 40) + 20 = 2 * s.size + 60 by omega] at F
      rw [F false, F true]
      rfl
    · have F := fun around => find_quote s (by omega) at_ _ q hk ha hz (by simp only; omega) (by simp only; omega) around (s.size + 40)
      rw [show s.size + (s.size + 40) + 20 = 2 * s.size + 60 by omega] at F
      have hA := r02align_eq s (by omega) at_ (s.size + 38)
      rw [show s.size + (s.size + 38) + 22 = 2 * s.size + 60 by omega] at hA
      rw [F false, F true, Option.bind_some, Option.bind_some]
      simp only [fin3, if_true, Bool.false_eq_true, if_false]
      rw [if_neg (by omega), if_neg (by omega), if_neg (by omega), wrapZ _ (by omega) (by omega), if_pos (by omega), wrapZ _ (by omega) (by omega), if_pos rfl, if_pos (by omega), if_pos (by omega), bt_gb s o (by omega), if_pos (by omega), if_pos (by omega), if_pos (by omega), bt_gb s c (by omega), if_pos (by omega), hA, Option.bind_some,
        decide_eq_false (by omega), show 2 * s.size + 60 = (2 * s.size + 59) + 1 by omega, bureaulaw13_ObjectQuotes.j1, if_neg (by simp)]
      have := no_loop s (by omega) q (o + 1) c hcs (fun t t1 t2 => hno t (by omega) t2) (c - (o + 1)) (o + 1) (2 * s.size + 59) (by omega) (by omega) (by omega)
      exact this
theorem ObjectQuotes : bureaulaw13_ObjectQuotes.Pure := by
  intro s at_ single _ _
  refine ⟨2 * s.size + 1 + 60, ?_⟩
  unfold bureaulaw13_ObjectQuotes.f
  rw [alive_eq (2 * s.size + 1), Option.bind_some, if_pos rfl]
  by_cases hs : (s.size : Int) > 2048
  · rw [if_pos hs]
  rw [if_neg hs, show 2 * s.size + 1 + 60 = 2 * s.size + 61 by omega]
  cases single
  · rw [if_neg (by simp)]
    exact quote_law s (by omega) at_ 34 (.inl rfl)
  · rw [if_pos rfl]
    exact quote_law s (by omega) at_ 39 (.inr rfl)

end Go.Proofs.YtcinobfflfkmjaaDoor.Pure
