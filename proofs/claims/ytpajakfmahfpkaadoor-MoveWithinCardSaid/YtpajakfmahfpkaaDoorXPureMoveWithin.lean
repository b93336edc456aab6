/- A motion leads to where a sign begins, or to the end; an exclusive one somewhere else: for every text, place and motion. -/
import Derived.Test.YtpajakfmahfpkaaDoorXMoveWithinx2
import Derived.Test.YtpajakfmahfpkaaDoorExt12Q
import Derived.OpenShut
set_option linter.unusedVariables false
set_option linter.unusedSimpArgs false
namespace Go.Proofs.YtpajakfmahfpkaaDoor.Pure
open Go.RowKit Go.Proofs.YtpajakfmahfpkaaDoor.XMoveWithin Go.Proofs.YtpajakfmahfpkaaDoorW.PrintWords Go.Proofs.YtpajakfmahfpkaaDoorW.PrintMore Go.Proofs.YtpajakfmahfpkaaDoor.Ext

theorem rd_nat (xs : List Int) (i : Nat) (h : i < xs.length) : rd xs (i : Int) = xs[i] := by
  unfold rd
  rw [Int.toNat_natCast, List.getD_eq_getElem?_getD, List.getElem?_eq_getElem h]
  rfl
def whole (x : Nat × Nat × Nat) : Bool := !(x.2.1 == 65533 && x.2.2 == 1)
/-! The numbers' bytes. -/
def enc (r : Nat) : List Nat :=
  if r < 128 then [r] else if r < 2048 then [192 + r / 64, 128 + r % 64] else if r < 65536 then [224 + r / 4096, 128 + r / 64 % 64, 128 + r % 64] else [240 + r / 262144, 128 + r / 4096 % 64, 128 + r / 64 % 64, 128 + r % 64]
def mayN (r : Nat) : Bool := r ≤ 1114111 && (r < 55296 || 57344 ≤ r)
theorem enc_lt {r : Nat} (h : r ≤ 1114111) : ∀ x ∈ enc r, x < 256 := by
  unfold enc
  intro x hx
  split at hx
  · simp only [List.mem_cons, List.not_mem_nil, or_false] at hx
    omega
  split at hx
  · simp only [List.mem_cons, List.not_mem_nil, or_false] at hx
    omega
  split at hx
  · simp only [List.mem_cons, List.not_mem_nil, or_false] at hx
    omega
  · simp only [List.mem_cons, List.not_mem_nil, or_false] at hx
    omega
/-! What the document's 'number' reads, and which so many bytes are a sign. -/
def numN (n b0 b1 b2 b3 : Nat) : Nat :=
  if n = 1 then b0 else if n = 2 then b0 % 32 * 64 + b1 % 64 else if n = 3 then (b0 % 16 * 64 + b1 % 64) * 64 + b2 % 64 else ((b0 % 8 * 64 + b1 % 64) * 64 + b2 % 64) * 64 + b3 % 64
theorem num1 (b0 b1 b2 b3 : Nat) : numN 1 b0 b1 b2 b3 = b0 := rfl
theorem num2 (b0 b1 b2 b3 : Nat) : numN 2 b0 b1 b2 b3 = b0 % 32 * 64 + b1 % 64 := rfl
theorem num3 (b0 b1 b2 b3 : Nat) : numN 3 b0 b1 b2 b3 = (b0 % 16 * 64 + b1 % 64) * 64 + b2 % 64 := rfl
theorem num4 (b0 b1 b2 b3 : Nat) : numN 4 b0 b1 b2 b3 = ((b0 % 8 * 64 + b1 % 64) * 64 + b2 % 64) * 64 + b3 % 64 := rfl
def okN (n b0 b1 b2 b3 : Nat) : Bool := mayN (numN n b0 b1 b2 b3) && enc (numN n b0 b1 b2 b3) == [b0, b1, b2, b3].take n
theorem ok1 {b0 : Nat} (b1 b2 b3 : Nat) (h0 : b0 < 256) : okN 1 b0 b1 b2 b3 = decide (b0 < 128) := by
  unfold okN mayN enc numN
  rw [if_pos rfl, Bool.eq_iff_iff]
  simp only [Bool.and_eq_true, Bool.or_eq_true, decide_eq_true_eq, beq_iff_eq, List.take_succ_cons, List.take_zero]
  constructor
  · rintro ⟨_, h⟩
    split at h
    · assumption
    · exfalso
      split at h
      · simp only [List.cons.injEq] at h
        exact absurd h.2 (by simp)
      split at h
      · simp only [List.cons.injEq] at h
        exact absurd h.2 (by simp)
      · simp only [List.cons.injEq] at h
        exact absurd h.2 (by simp)
  · intro h
    exact ⟨by omega, by rw [if_pos h]⟩
theorem ok2 {b0 b1 : Nat} (b2 b3 : Nat) (h0 : b0 < 256) (h1 : b1 < 256) : okN 2 b0 b1 b2 b3 = decide (b0 / 32 = 6 ∧ b1 / 64 = 2 ∧ 128 ≤ b0 % 32 * 64 + b1 % 64) := by
  unfold okN mayN enc numN
  rw [if_neg (by omega), if_pos rfl, Bool.eq_iff_iff]
  simp only [Bool.and_eq_true, Bool.or_eq_true, decide_eq_true_eq, beq_iff_eq, List.take_succ_cons, List.take_zero]
  generalize hr : b0 % 32 * 64 + b1 % 64 = r
  constructor
  · rintro ⟨_, h⟩
    split at h
    · cases h
    split at h
    · simp only [List.cons.injEq, and_true] at h
      omega
    split at h
    · cases h
    · cases h
  · intro h
    refine ⟨by omega, ?_⟩
    rw [if_neg (by omega), if_pos (by omega)]
    simp only [List.cons.injEq, and_true]
    omega
theorem ok3 {b0 b1 b2 : Nat} (b3 : Nat) (h0 : b0 < 256) (h1 : b1 < 256) (h2 : b2 < 256) : okN 3 b0 b1 b2 b3 =
    decide (b0 / 16 = 14 ∧ b1 / 64 = 2 ∧ b2 / 64 = 2 ∧ 2048 ≤ b0 % 16 * 4096 + b1 % 64 * 64 + b2 % 64 ∧ (b0 % 16 * 4096 + b1 % 64 * 64 + b2 % 64 < 55296 ∨ 57344 ≤ b0 % 16 * 4096 + b1 % 64 * 64 + b2 % 64)) := by
  unfold okN mayN enc numN
  rw [if_neg (by omega), if_neg (by omega), if_pos rfl, Bool.eq_iff_iff]
  simp only [Bool.and_eq_true, Bool.or_eq_true, decide_eq_true_eq, beq_iff_eq, List.take_succ_cons, List.take_zero]
  rw [show (b0 % 16 * 64 + b1 % 64) * 64 + b2 % 64 = b0 % 16 * 4096 + b1 % 64 * 64 + b2 % 64 by omega]
  generalize hr : b0 % 16 * 4096 + b1 % 64 * 64 + b2 % 64 = r
  constructor
  · rintro ⟨_, h⟩
    split at h
    · cases h
    split at h
    · cases h
    split at h
    · simp only [List.cons.injEq, and_true] at h
      omega
    · cases h
  · intro h
    refine ⟨by omega, ?_⟩
    rw [if_neg (by omega), if_neg (by omega), if_pos (by omega)]
    simp only [List.cons.injEq, and_true]
    omega
theorem ok4 {b0 b1 b2 b3 : Nat} (h0 : b0 < 256) (h1 : b1 < 256) (h2 : b2 < 256) (h3 : b3 < 256) : okN 4 b0 b1 b2 b3 =
    decide (b0 / 8 = 30 ∧ b1 / 64 = 2 ∧ b2 / 64 = 2 ∧ b3 / 64 = 2 ∧ 65536 ≤ b0 % 8 * 262144 + b1 % 64 * 4096 + b2 % 64 * 64 + b3 % 64 ∧ b0 % 8 * 262144 + b1 % 64 * 4096 + b2 % 64 * 64 + b3 % 64 ≤ 1114111) := by
  unfold okN mayN enc numN
  rw [if_neg (by omega), if_neg (by omega), if_neg (by omega), Bool.eq_iff_iff]
  simp only [Bool.and_eq_true, Bool.or_eq_true, decide_eq_true_eq, beq_iff_eq, List.take_succ_cons, List.take_zero]
  rw [show ((b0 % 8 * 64 + b1 % 64) * 64 + b2 % 64) * 64 + b3 % 64 = b0 % 8 * 262144 + b1 % 64 * 4096 + b2 % 64 * 64 + b3 % 64 by omega]
  generalize hr : b0 % 8 * 262144 + b1 % 64 * 4096 + b2 % 64 * 64 + b3 % 64 = r
  constructor
  · rintro ⟨_, h⟩
    split at h
    · cases h
    split at h
    · cases h
    split at h
    · cases h
    · simp only [List.cons.injEq, and_true] at h
      omega
  · intro h
    refine ⟨by omega, ?_⟩
    rw [if_neg (by omega), if_neg (by omega), if_neg (by omega)]
    simp only [List.cons.injEq, and_true]
    omega
/-- The model's decoding, by which so many bytes are a sign. -/
def firstOk (m b0 b1 b2 b3 : Nat) : Nat × Nat × Bool :=
  if okN 1 b0 b1 b2 b3 = true then (numN 1 b0 b1 b2 b3, 1, true)
  else if 2 ≤ m ∧ okN 2 b0 b1 b2 b3 = true then (numN 2 b0 b1 b2 b3, 2, true)
  else if 3 ≤ m ∧ okN 3 b0 b1 b2 b3 = true then (numN 3 b0 b1 b2 b3, 3, true)
  else if 4 ≤ m ∧ okN 4 b0 b1 b2 b3 = true then (numN 4 b0 b1 b2 b3, 4, true)
  else (65533, 1, false)
theorem first_decode {m b0 b1 b2 b3 : Nat} (h0 : b0 < 256) (h1 : b1 < 256) (h2 : b2 < 256) (h3 : b3 < 256) :
    firstOk m b0 b1 b2 b3 = ((Lib.decodeN m b0 b1 b2 b3).1, (Lib.decodeN m b0 b1 b2 b3).2, whole (0, Lib.decodeN m b0 b1 b2 b3)) := by
  unfold firstOk
  rw [ok1 b1 b2 b3 h0, ok2 b2 b3 h0 h1, ok3 b3 h0 h1 h2, ok4 h0 h1 h2 h3]
  simp only [decide_eq_true_eq]
  have n1 : numN 1 b0 b1 b2 b3 = b0 := rfl
  have n2 : numN 2 b0 b1 b2 b3 = b0 % 32 * 64 + b1 % 64 := rfl
  have n3 : numN 3 b0 b1 b2 b3 = b0 % 16 * 4096 + b1 % 64 * 64 + b2 % 64 := by unfold numN; rw [if_neg (by omega), if_neg (by omega), if_pos rfl]; omega
  have n4 : numN 4 b0 b1 b2 b3 = b0 % 8 * 262144 + b1 % 64 * 4096 + b2 % 64 * 64 + b3 % 64 := by unfold numN; rw [if_neg (by omega), if_neg (by omega), if_neg (by omega)]; omega
  rw [n1, n2, n3, n4]
  unfold Lib.decodeN
  by_cases c1 : b0 < 128
  · rw [if_pos c1, if_pos c1]
    have : (b0 == 65533) = false := by rw [beq_eq_false_iff_ne]; omega
    simp [whole, this]
  rw [if_neg c1, if_neg c1]
  by_cases c2 : b0 / 32 = 6 ∧ (1 < m ∧ b1 / 64 = 2)
  · rw [if_pos c2]
    by_cases d2 : b0 % 32 * 64 + b1 % 64 ≥ 128
    · rw [if_pos d2, if_pos (by omega)]
      simp [whole]
    · rw [if_neg d2, if_neg (by omega), if_neg (by omega), if_neg (by omega)]
      rfl
  rw [if_neg c2, if_neg (by omega)]
  by_cases c3 : b0 / 16 = 14 ∧ (1 < m ∧ b1 / 64 = 2) ∧ (2 < m ∧ b2 / 64 = 2)
  · rw [if_pos c3]
    by_cases d3 : b0 % 16 * 4096 + b1 % 64 * 64 + b2 % 64 ≥ 2048 ∧ (b0 % 16 * 4096 + b1 % 64 * 64 + b2 % 64 < 55296 ∨ (57344 ≤ b0 % 16 * 4096 + b1 % 64 * 64 + b2 % 64 ∧ b0 % 16 * 4096 + b1 % 64 * 64 + b2 % 64 ≤ 1114111))
    · rw [if_pos d3, if_pos (by omega)]
      simp [whole]
    · rw [if_neg d3, if_neg (by omega), if_neg (by omega)]
      rfl
  rw [if_neg c3, if_neg (by omega)]
  by_cases c4 : b0 / 8 = 30 ∧ (1 < m ∧ b1 / 64 = 2) ∧ (2 < m ∧ b2 / 64 = 2) ∧ (3 < m ∧ b3 / 64 = 2)
  · rw [if_pos c4]
    by_cases d4 : b0 % 8 * 262144 + b1 % 64 * 4096 + b2 % 64 * 64 + b3 % 64 ≥ 65536 ∧ (b0 % 8 * 262144 + b1 % 64 * 4096 + b2 % 64 * 64 + b3 % 64 < 55296 ∨ (57344 ≤ b0 % 8 * 262144 + b1 % 64 * 4096 + b2 % 64 * 64 + b3 % 64 ∧ b0 % 8 * 262144 + b1 % 64 * 4096 + b2 % 64 * 64 + b3 % 64 ≤ 1114111))
    · rw [if_pos d4, if_pos (by omega)]
      simp [whole]
    · rw [if_neg d4, if_neg (by omega)]
      rfl
  rw [if_neg c4, if_neg (by omega)]
  rfl
theorem may_eq (r : Nat) : bureauref02_May.f (r : Int) = some (mayN r) := by
  unfold bureauref02_May.f mayN
  rw [if_pos (Int.natCast_nonneg r)]
  by_cases h1 : r ≤ 1114111
  · rw [if_pos (by omega)]
    by_cases h2 : r < 55296
    · rw [if_pos (by omega)]
      simp [h1, h2]
    · rw [if_neg (by omega)]
      congr 1
      rw [Bool.eq_iff_iff]
      simp only [decide_eq_true_eq, Bool.and_eq_true, Bool.or_eq_true]
      omega
  · rw [if_neg (by omega)]
    simp [h1]
theorem lowK (K : Int) (k x : Nat) (hK : K = (k : Int)) (h : k + x < 256) : UInt8.ofNat (wrap64 (K + (x : Int)) % 256).toNat = UInt8.ofNat (k + x) := by
  congr 1
  unfold wrap64
  omega
theorem lowA (x : Nat) (h : x < 256) : UInt8.ofNat ((x : Int) % 256).toNat = UInt8.ofNat x := by
  congr 1
  omega
theorem l2 {a b a' b' : UInt8} (h1 : a = a') (h2 : b = b') : [a, b] = [a', b'] := by rw [h1, h2]
theorem l3 {a b c a' b' c' : UInt8} (h1 : a = a') (h2 : b = b') (h3 : c = c') : [a, b, c] = [a', b', c'] := by rw [h1, h2, h3]
theorem l4 {a b c d a' b' c' d' : UInt8} (h1 : a = a') (h2 : b = b') (h3 : c = c') (h4 : d = d') : [a, b, c, d] = [a', b', c', d'] := by rw [h1, h2, h3, h4]
theorem bytes_eq {r : Nat} (h : r ≤ 1114111) : bureauref02_Bytes.f (r : Int) = some ⟨((enc r).map UInt8.ofNat).toArray⟩ := by
  have e64 : Int.tdiv (r : Int) 64 = ((r / 64 : Nat) : Int) := rfl
  have e4096 : Int.tdiv (r : Int) 4096 = ((r / 4096 : Nat) : Int) := rfl
  have e262144 : Int.tdiv (r : Int) 262144 = ((r / 262144 : Nat) : Int) := rfl
  have m64 : Int.tmod (r : Int) 64 = ((r % 64 : Nat) : Int) := rfl
  have w1 := wrapN (r / 64) (by omega)
  have w2 := wrapN (r / 4096) (by omega)
  have w3 := wrapN (r / 262144) (by omega)
  have m1 : Int.tmod ((r / 64 : Nat) : Int) 64 = ((r / 64 % 64 : Nat) : Int) := rfl
  have m2 : Int.tmod ((r / 4096 : Nat) : Int) 64 = ((r / 4096 % 64 : Nat) : Int) := rfl
  unfold bureauref02_Bytes.f enc
  rw [e64, e4096, e262144, m64, w1, w2, w3, m1, m2]
  clear e64 e4096 e262144 m64 w1 w2 w3 m1 m2
  by_cases h1 : r < 128
  · rw [if_pos (by omega), if_pos h1]
    simp only [strOfNums, List.map_cons, List.map_nil, lowA r (by omega)]
  rw [if_neg (by omega), if_neg h1]
  by_cases h2 : r < 2048
  · rw [if_pos (by omega), if_pos h2]
    simp only [strOfNums, List.map_cons, List.map_nil]
    exact congrArg (fun l : List UInt8 => some (⟨l.toArray⟩ : ByteArray)) (l2 (lowK 192 192 (r / 64) rfl (by omega)) (lowK 128 128 (r % 64) rfl (by omega)))
  rw [if_neg (by omega), if_neg h2]
  by_cases h3 : r < 65536
  · rw [if_pos (by omega), if_pos h3]
    simp only [strOfNums, List.map_cons, List.map_nil]
    exact congrArg (fun l : List UInt8 => some (⟨l.toArray⟩ : ByteArray)) (l3 (lowK 224 224 (r / 4096) rfl (by omega)) (lowK 128 128 (r / 64 % 64) rfl (by omega)) (lowK 128 128 (r % 64) rfl (by omega)))
  · rw [if_neg (by omega), if_neg h3]
    simp only [strOfNums, List.map_cons, List.map_nil]
    exact congrArg (fun l : List UInt8 => some (⟨l.toArray⟩ : ByteArray)) (l4 (lowK 240 240 (r / 262144) rfl (by omega)) (lowK 128 128 (r / 4096 % 64) rfl (by omega)) (lowK 128 128 (r / 64 % 64) rfl (by omega)) (lowK 128 128 (r % 64) rfl (by omega)))
theorem num_step (k : Nat) (x : ByteArray) (a j : Nat) (hj : j < x.size) (ha : a < 1000000) (hs : x.size < 100) :
    bureauref02_number.l0 (k + 1) x (a : Int) (j : Int) = bureauref02_number.l0 k x ((a * 64 + gb x j % 64 : Nat) : Int) ((j + 1 : Nat) : Int) := by
  have hb := gb_lt x j
  rw [bureauref02_number.l0, if_pos (by omega), if_pos (by omega), bt_gb x j hj, wrapN (gb x j) (by omega)]
  have e : Int.tmod ((gb x j : Nat) : Int) 64 = ((gb x j % 64 : Nat) : Int) := rfl
  rw [e]
  congr 1
  · unfold wrap64
    omega
  · unfold wrap64
    omega
theorem num_end (k : Nat) (x : ByteArray) (a : Int) : bureauref02_number.l0 (k + 1) x a (x.size : Int) = some a := by
  rw [bureauref02_number.l0, if_neg (by omega)]
theorem number_eq (k : Nat) (x : ByteArray) (n : Nat) (hn : x.size = n) (h1 : 1 ≤ n) (h4 : n ≤ 4) :
    bureauref02_number.f (k + 6) x = some ((numN n (gb x 0) (gb x 1) (gb x 2) (gb x 3) : Nat) : Int) := by
  have h0 := gb_lt x 0
  have e0 : wrap64 (bt x 0) = ((gb x 0 : Nat) : Int) := by rw [show (0 : Int) = ((0 : Nat) : Int) from rfl, bt_gb x 0 (by omega), wrapN _ (by omega)]
  unfold bureauref02_number.f
  rw [if_pos (by omega), e0]
  have e32 : Int.tmod ((gb x 0 : Nat) : Int) 32 = ((gb x 0 % 32 : Nat) : Int) := rfl
  have e16 : Int.tmod ((gb x 0 : Nat) : Int) 16 = ((gb x 0 % 16 : Nat) : Int) := rfl
  have e8 : Int.tmod ((gb x 0 : Nat) : Int) 8 = ((gb x 0 % 8 : Nat) : Int) := rfl
  rw [e32, e16, e8]
  have e1 : (1 : Int) = ((1 : Nat) : Int) := rfl
  rcases (by omega : n = 1 ∨ n = 2 ∨ n = 3 ∨ n = 4) with hc | hc | hc | hc
  · rw [if_neg (by omega), if_neg (by omega), if_neg (by omega), bureauref02_number.j0]
    have := num_end (k + 4) x ((gb x 0 : Nat) : Int)
    rw [hn, hc] at this
    rw [e1, this, hc]
    rfl
  · rw [if_pos (by omega), bureauref02_number.j0, e1, num_step _ x _ 1 (by omega) (by omega) (by omega)]
    have := num_end (k + 3) x ((gb x 0 % 32 * 64 + gb x 1 % 64 : Nat) : Int)
    rw [hn, hc] at this
    rw [this, hc]
    rfl
  · rw [if_neg (by omega), if_pos (by omega), bureauref02_number.j0, e1, num_step _ x _ 1 (by omega) (by omega) (by omega), num_step _ x _ 2 (by omega) (by omega) (by omega)]
    have := num_end (k + 2) x (((gb x 0 % 16 * 64 + gb x 1 % 64) * 64 + gb x 2 % 64 : Nat) : Int)
    rw [hn, hc] at this
    rw [this, hc]
    rfl
  · rw [if_neg (by omega), if_neg (by omega), if_pos (by omega), bureauref02_number.j0, e1, num_step _ x _ 1 (by omega) (by omega) (by omega), num_step _ x _ 2 (by omega) (by omega) (by omega), num_step _ x _ 3 (by omega) (by omega) (by omega)]
    have := num_end (k + 1) x ((((gb x 0 % 8 * 64 + gb x 1 % 64) * 64 + gb x 2 % 64) * 64 + gb x 3 % 64 : Nat) : Int)
    rw [hn, hc] at this
    rw [this, hc]
    rfl
/-! 'one': the sign at a place. -/
theorem list_eq_gb {s : ByteArray} {i n r : Nat} (hn : i + n ≤ s.size) (h1 : 1 ≤ n) (h4 : n ≤ 4) (hr : r ≤ 1114111) :
    ((⟨((enc r).map UInt8.ofNat).toArray⟩ : ByteArray).toList = (s.extract i (i + n)).toList) ↔ enc r = [gb s i, gb s (i + 1), gb s (i + 2), gb s (i + 3)].take n := by
  rw [ByteArray.toList_eq, ByteArray.toList_eq, list_bytes (s.extract i (i + n)), size_ext s i n hn]
  have hm : (List.range n).map (fun j => (s.extract i (i + n)).get! j) = ([gb s i, gb s (i + 1), gb s (i + 2), gb s (i + 3)].take n).map UInt8.ofNat := by
    rw [List.map_congr_left (g := fun j => s.get! (i + j)) (fun j hj => get_ext s i n j hn (List.mem_range.1 hj))]
    have g0 (j : Nat) : UInt8.ofNat (gb s j) = s.get! j := by unfold gb; exact UInt8.ofNat_toNat
    rcases (by omega : n = 1 ∨ n = 2 ∨ n = 3 ∨ n = 4) with rfl | rfl | rfl | rfl <;> simp [List.range_succ, g0]
  rw [hm]
  have inj : ∀ (x y : List Nat), (∀ a ∈ x, a < 256) → (∀ a ∈ y, a < 256) → x.map UInt8.ofNat = y.map UInt8.ofNat → x = y := by
    intro x
    induction x with
    | nil => intro y _ _ h; cases y with | nil => rfl | cons a y => cases h
    | cons a x ih =>
      intro y hx hy h
      cases y with
      | nil => cases h
      | cons b y =>
        simp only [List.map_cons, List.cons.injEq] at h
        have hab := congrArg UInt8.toNat h.1
        rw [UInt8.toNat_ofNat', UInt8.toNat_ofNat'] at hab
        have ha := hx a (by simp)
        have hb := hy b (by simp)
        rw [ih y (fun a ha => hx a (by simp [ha])) (fun a ha => hy a (by simp [ha])) h.2]
        congr 1
        omega
  constructor
  · intro h
    refine inj _ _ (enc_lt hr) (fun a ha => ?_) h
    have := List.mem_of_mem_take ha
    simp only [List.mem_cons, List.not_mem_nil, or_false] at this
    have b0 := gb_lt s i
    have b1 := gb_lt s (i + 1)
    have b2 := gb_lt s (i + 2)
    have b3 := gb_lt s (i + 3)
    omega
  · intro h
    rw [h]
theorem one_step (k : Nat) (s : ByteArray) (i n : Nat) (hs : s.size < 1000000000) (h1 : 1 ≤ n) (h4 : n ≤ 4) (hn : i + n ≤ s.size) :
    bureauref02_one.l0 (k + 12) s (i : Int) (n : Int) =
      if okN n (gb s i) (gb s (i + 1)) (gb s (i + 2)) (gb s (i + 3)) = true then some ((i : Int), (n : Int), ((numN n (gb s i) (gb s (i + 1)) (gb s (i + 2)) (gb s (i + 3)) : Nat) : Int), true) else bureauref02_one.l0 (k + 10) s (i : Int) ((n + 1 : Nat) : Int) := by
  have hw : wrap64 ((s.size : Int) - (i : Int)) = (s.size : Int) - (i : Int) := wrapZ _ (by omega) (by omega)
  have hw2 : wrap64 ((i : Int) + (n : Int)) = ((i + n : Nat) : Int) := by rw [wrapZ _ (by omega) (by omega)]; omega
  have hw3 : wrap64 ((n : Int) + 1) = ((n + 1 : Nat) : Int) := by rw [wrapZ _ (by omega) (by omega)]; omega
  have c4 : (n : Int) ≤ 4 := by omega
  have cd : decide ((n : Int) ≤ (s.size : Int) - (i : Int)) = true := decide_eq_true (by omega)
  have ci : (0 : Int) ≤ (i : Int) := by omega
  have cn : (i : Int) ≤ ((i + n : Nat) : Int) := by omega
  have cs : ((i + n : Nat) : Int) ≤ (s.size : Int) := by omega
  rw [bureauref02_one.l0, if_pos c4, hw, cd, bureauref02_one.j1, if_pos rfl, if_pos ci, hw2, if_pos cn, if_pos cs, hw3, Int.toNat_natCast, Int.toNat_natCast]
  clear hw hw2 hw3 c4 cd ci cn cs
  have hx := size_ext s i n hn
  have hlt0 := gb_lt (s.extract i (i + n)) 0
  rw [number_eq (k + 4) (s.extract i (i + n)) n hx h1 h4, Option.bind_some]
  have hg (j : Nat) (hj : j < n) : gb (s.extract i (i + n)) j = gb s (i + j) := by unfold gb; rw [get_ext s i n j hn hj]
  have hg0 : gb (s.extract i (i + n)) 0 = gb s i := hg 0 (by omega)
  have hnum : numN n (gb (s.extract i (i + n)) 0) (gb (s.extract i (i + n)) 1) (gb (s.extract i (i + n)) 2) (gb (s.extract i (i + n)) 3) = numN n (gb s i) (gb s (i + 1)) (gb s (i + 2)) (gb s (i + 3)) := by
    rcases (by omega : n = 1 ∨ n = 2 ∨ n = 3 ∨ n = 4) with rfl | rfl | rfl | rfl
    · rw [num1, num1, hg0]
    · rw [num2, num2, hg0, hg 1 (by omega)]
    · rw [num3, num3, hg0, hg 1 (by omega), hg 2 (by omega)]
    · rw [num4, num4, hg0, hg 1 (by omega), hg 2 (by omega), hg 3 (by omega)]
  rw [hnum]
  generalize hr : numN n (gb s i) (gb s (i + 1)) (gb s (i + 2)) (gb s (i + 3)) = r
  rw [may_eq, Option.bind_some]
  unfold okN
  rw [hr]
  cases hm : mayN r with
  | false => simp
  | true =>
    have hr2 : r ≤ 1114111 := by simp [mayN] at hm; omega
    rw [if_pos rfl, bytes_eq hr2, Option.bind_some]
    have hl := list_eq_gb (r := r) hn h1 h4 hr2
    by_cases he : enc r = [gb s i, gb s (i + 1), gb s (i + 2), gb s (i + 3)].take n
    · rw [if_pos (hl.2 he), if_pos (by simp [he])]
    · rw [if_neg (fun h => he (hl.1 h)), if_neg (by simp [he])]
theorem one_last (k : Nat) (s : ByteArray) (i n : Nat) (hs : s.size < 1000000000) (hi : i < s.size) (hn : 4 < n ∨ s.size < i + n) :
    bureauref02_one.l0 (k + 2) s (i : Int) (n : Int) = some ((i : Int), 1, 65533, false) := by
  have hw : wrap64 ((s.size : Int) - (i : Int)) = (s.size : Int) - (i : Int) := wrapZ _ (by omega) (by omega)
  rw [bureauref02_one.l0]
  by_cases h4 : n ≤ 4
  · rw [if_pos (by omega), hw, decide_eq_false (by omega), bureauref02_one.j1, if_neg (by decide)]
  · rw [if_neg (by omega), bureauref02_one.j1, if_neg (by decide)]
theorem one_eq (k : Nat) (s : ByteArray) (i : Nat) (hs : s.size < 1000000000) (hi : i < s.size) :
    bureauref02_one.f (k + 20) s (i : Int) = some ((i : Int), (((Utf8.decode s i).2 : Nat) : Int), (((Utf8.decode s i).1 : Nat) : Int), whole (0, Utf8.decode s i)) := by
  have b0 := gb_lt s i
  have b1 := gb_lt s (i + 1)
  have b2 := gb_lt s (i + 2)
  have b3 := gb_lt s (i + 3)
  have hd : Utf8.decode s i = Lib.decodeN (s.size - i) (gb s i) (gb s (i + 1)) (gb s (i + 2)) (gb s (i + 3)) := Lib.decode_at s i
  have hf := first_decode (m := s.size - i) b0 b1 b2 b3
  rw [← hd] at hf
  have h1 := congrArg (fun x : Nat × Nat × Bool => x.1) hf
  have h2 := congrArg (fun x : Nat × Nat × Bool => x.2.1) hf
  have h3 := congrArg (fun x : Nat × Nat × Bool => x.2.2) hf
  simp only at h1 h2 h3
  rw [← h1, ← h2, ← h3]
  clear h1 h2 h3 hf hd
  unfold bureauref02_one.f firstOk
  rw [show (1 : Int) = ((1 : Nat) : Int) from rfl, one_step (k + 8) s i 1 hs (by omega) (by omega) (by omega)]
  split
  · rfl
  by_cases m2 : i + 2 ≤ s.size
  · rw [one_step (k + 6) s i 2 hs (by omega) (by omega) m2]
    split
    · rw [if_pos ⟨by omega, by assumption⟩]
    rw [if_neg (fun h => by rename_i h' ; exact h' h.2)]
    by_cases m3 : i + 3 ≤ s.size
    · rw [one_step (k + 4) s i 3 hs (by omega) (by omega) m3]
      split
      · rw [if_pos ⟨by omega, by assumption⟩]
      rw [if_neg (fun h => by rename_i h' ; exact h' h.2)]
      by_cases m4 : i + 4 ≤ s.size
      · rw [one_step (k + 2) s i 4 hs (by omega) (by omega) m4]
        split
        · rw [if_pos ⟨by omega, by assumption⟩]
        rw [if_neg (fun h => by rename_i h' ; exact h' h.2), one_last (k + 10) s i 5 hs hi (by omega)]
        rfl
      · rw [one_last (k + 12) s i 4 hs hi (by omega), if_neg (by omega)]
        rfl
    · rw [one_last (k + 14) s i 3 hs hi (by omega), if_neg (by omega), if_neg (by omega)]
      rfl
  · rw [one_last (k + 16) s i 2 hs hi (by omega), if_neg (by omega), if_neg (by omega), if_neg (by omega)]
    rfl
/-- A sign, as the document has it. -/
def sig (x : Nat × Nat × Nat) : S68 := ⟨(x.1 : Int), (x.2.2 : Int), (x.2.1 : Int), whole x⟩
theorem whole_at (i j : Nat) (d : Nat × Nat) : whole (i, d) = whole (j, d) := rfl
theorem signs_loop (s : ByteArray) (hs : s.size < 1000000) : ∀ (b k i : Nat) (acc : List S68), s.size ≤ i + b → i ≤ s.size → acc.length ≤ i →
    bureauref02_Signs.l0 (b + k + 22) s acc (i : Int) = some (acc ++ (scan s b i).map sig) := by
  intro b
  induction b with
  | zero =>
    intro k i acc h hi ha
    rw [show (0 + k + 22 : Nat) = (k + 21) + 1 by omega, bureauref02_Signs.l0, if_neg (by omega)]
    simp [scan]
  | succ b ih =>
    intro k i acc h hi ha
    rw [show (b + 1 + k + 22 : Nat) = (b + k + 22) + 1 by omega, bureauref02_Signs.l0]
    by_cases hc : i < s.size
    · have hw := width_pos s i hc
      have hf := width_fits s i hc
      have h4 := width_le4 s i
      rw [if_pos (by omega), show b + k + 22 = (b + k + 2) + 20 by omega, one_eq (b + k + 2) s i (by omega) hc, Option.bind_some]
      have hlen : acc.length < 4398046511104 := by omega
      rw [if_pos hlen]
      have hw64 : wrap64 ((i : Int) + (((Utf8.decode s i).2 : Nat) : Int)) = ((i + (Utf8.decode s i).2 : Nat) : Int) := by rw [wrapZ _ (by omega) (by omega)]; omega
      simp only []
      rw [hw64, show b + k + 2 + 20 = b + k + 22 by omega, ih k _ _ (by omega) hf (by simp; omega), scan, if_pos hc, List.append_assoc]
      rfl
    · rw [if_neg (by omega), scan, if_neg hc]
      simp
theorem signs_eq (s : ByteArray) (hs : s.size < 1000000) (k : Nat) : bureauref02_Signs.f (s.size + k + 22) s = some ((scan s s.size 0).map sig) := by
  unfold bureauref02_Signs.f
  have := signs_loop s hs s.size k 0 [] (by omega) (by omega) (by simp)
  rw [show (0 : Int) = ((0 : Nat) : Int) from rfl, this]
  rfl
theorem rd_T68_nat (xs : List S68) (i : Nat) (h : i < xs.length) : rd_T68 xs (i : Int) = xs[i] := by
  unfold rd_T68
  rw [Int.toNat_natCast, List.getD_eq_getElem?_getD, List.getElem?_eq_getElem h]
  rfl
theorem which_loop {s : ByteArray} {n j : Nat} (h : Signs s n) (hs : s.size < 1000000) {a : Int} (ha : At s n a j) (xs : List S68) (hx : xs = (List.range n).map (fun t => sig (st s t, Utf8.decode s (st s t)))) :
    ∀ (c k i : Nat), j ≤ i + c → i ≤ j → bureauref02_which.l0 (c + k + 1) xs a (i : Int) = some (j : Int) := by
  have hlen : xs.length = n := by rw [hx]; simp
  have hn := h.le
  obtain ⟨hj, h1, h2, h3⟩ := ha
  have hat (i : Nat) (hi : i < n) : rd_T68 xs (i : Int) = sig (st s i, Utf8.decode s (st s i)) := by
    rw [rd_T68_nat xs i (by omega)]
    subst hx
    simp
  have hsum (i : Nat) (hi : i < n) : wrap64 ((sig (st s i, Utf8.decode s (st s i))).f0 + (sig (st s i, Utf8.decode s (st s i))).f1) = ((st s (i + 1) : Nat) : Int) := by
    have := h.le_size (show i + 1 ≤ n by omega)
    simp only [sig, st] at this ⊢
    rw [wrapZ _ (by omega) (by omega)]
    omega
  have stop (k : Nat) : bureauref02_which.l0 (k + 1) xs a (j : Int) = some (j : Int) := by
    rw [bureauref02_which.l0]
    by_cases hc : j < n
    · rw [if_pos (by omega), if_pos (by omega), hat j hc, hsum j hc, if_pos]
      have := h.step hc
      by_cases h0 : a < 0
      · omega
      · by_cases hz : a < (s.size : Int)
        · have := h2 (by omega) hz
          omega
        · have := h3 (by omega)
          omega
    · rw [if_neg (by omega), hlen]
      congr 1
      omega
  intro c
  induction c with
  | zero =>
    intro k i hc hi
    obtain rfl : i = j := by omega
    exact stop _
  | succ c ih =>
    intro k i hc hi
    by_cases he : i = j
    · subst he
      exact stop _
    · rw [show c + 1 + k + 1 = (c + k + 1) + 1 by omega, bureauref02_which.l0, if_pos (by omega), if_pos (by omega), hat i (by omega), hsum i (by omega), if_neg]
      · have hw : wrap64 ((i : Int) + 1) = ((i + 1 : Nat) : Int) := by rw [wrapZ _ (by omega) (by omega)]; omega
        rw [hw]
        exact ih k (i + 1) (by omega) (by omega)
      · have hm := st_mono s (show i + 1 ≤ j by omega)
        have := h.le_size hj
        by_cases h0 : a < 0
        · have := h1 h0
          omega
        · by_cases hz : a < (s.size : Int)
          · have := h2 (by omega) hz
            omega
          · omega
theorem map_sig {s : ByteArray} {n : Nat} (h : Signs s n) : (scan s s.size 0).map sig = (List.range n).map (fun t => sig (st s t, Utf8.decode s (st s t))) := by
  rw [h.eq, List.map_map]
  rfl
theorem which_eq {s : ByteArray} {n j : Nat} (h : Signs s n) (hs : s.size < 1000000) {a : Int} (ha : At s n a j) (k : Nat) : bureauref02_which.f (s.size + k + 1) ((scan s s.size 0).map sig) a = some (j : Int) := by
  have hn := h.le
  have hj := ha.1
  unfold bureauref02_which.f
  rw [map_sig h]
  exact which_loop h hs ha _ rfl s.size k 0 (by omega) (by omega)
theorem begins_eq {s : ByteArray} {n i : Nat} (h : Signs s n) (hs : s.size < 1000000) : bureauref02_begins.f s ((scan s s.size 0).map sig) (i : Int) = some (if i < n then ((st s i : Nat) : Int) else (s.size : Int)) := by
  unfold bureauref02_begins.f
  have hlen : ((scan s s.size 0).map sig).length = n := by rw [map_sig h]; simp
  rw [if_pos (by omega), hlen]
  by_cases hc : i < n
  · rw [if_pos (by omega), if_pos (by omega), if_pos hc, rd_T68_nat _ i (by omega)]
    simp only [map_sig h, List.getElem_map, List.getElem_range]
    rfl
  · rw [if_neg (by omega), if_neg hc]
theorem r02align_eq (s : ByteArray) (hs : s.size < 1000000) (a : Int) (k : Nat) : bureauref02_Align.f (s.size + k + 22) s a = some (alignZ s a : Int) := by
  obtain ⟨n, h⟩ := signs_ex s
  obtain ⟨j, ha⟩ := At.ex h a
  have hj := ha.1
  unfold bureauref02_Align.f
  have hW : bureauref02_which.f (s.size + k + 22) ((scan s s.size 0).map sig) a = some (j : Int) := which_eq h hs ha (k + 21)
  rw [signs_eq s hs k, Option.bind_some, hW, Option.bind_some, begins_eq h hs, Option.bind_some, alignZ_eq h ha]
  by_cases hc : j < n
  · rw [if_pos hc]
  · rw [if_neg hc, show j = n by omega, h.last]
theorem alive_eq : bureaulaw12_alive.f = some true := by decide +kernel
def Aln (s : ByteArray) (x : Int) : Prop := ∃ n j, Signs s n ∧ j ≤ n ∧ x = ((Ext.st s j : Nat) : Int)
theorem Aln.range {s : ByteArray} {x : Int} (h : Aln s x) : 0 ≤ x ∧ x ≤ (s.size : Int) := by
  obtain ⟨n, j, h, hj, rfl⟩ := h
  have := h.le_size hj
  omega
theorem Aln.al {s : ByteArray} {x : Int} (h : Aln s x) : ((alignZ s x : Nat) : Int) = x := by
  obtain ⟨n, j, h, hj, rfl⟩ := h
  rw [alignZ_st h hj]
theorem Aln.resI {s : ByteArray} {n : Nat} (h : Signs s n) {l : List Nat} {N : Nat} {other : Int} (hl : ∀ t, l[N - 1]? = some t → t ≤ n) (ho : Aln s other) : Aln s (resI s l N other).1 := by
  rcases resI_cases s l N other with ⟨t, h1, h2⟩ | ⟨h1, h2⟩
  · rw [h2]; exact ⟨n, t, h, hl t h1, rfl⟩
  · rw [h2]; exact ho
theorem Aln.resB {s : ByteArray} {l : List Nat} {N : Nat} {other : Int} (hl : ∀ t, l[N - 1]? = some t → t < nE s) (ho : Aln s other) : Aln s (resB s l N other) := by
  obtain ⟨n, h⟩ := signs_ex s
  rcases resB_cases s l N other with ⟨t, h1, h2⟩ | ⟨h1, h2⟩
  · rw [h2]
    obtain ⟨a, c, P⟩ := Pl.line h (hl t h1)
    exact ⟨n, a, h, P.hj, by rw [P.ls.from_]⟩
  · rw [h2]; exact ho
theorem Aln.prev (s : ByteArray) (x : Int) : Aln s (prevZ s x) := by
  obtain ⟨n, h⟩ := signs_ex s
  obtain ⟨j, ha⟩ := At.ex h (((alignZ s x : Nat) : Int) - 1)
  exact ⟨n, j, h, ha.1, by unfold prevZ; rw [alignZ_eq h ha]⟩
theorem Aln.next {s : ByteArray} {n t : Nat} (h : Signs s n) (ht : t ≤ n) : Aln s (nextZ s ((Ext.st s t : Nat) : Int)) := by
  by_cases c : t < n
  · exact ⟨n, t + 1, h, c, nextZ_st h c⟩
  · obtain rfl : t = n := by omega
    exact ⟨t, t, h, ht, nextZ_end h⟩
theorem dn_aln {s : ByteArray} {x : Int} {n j q a c : Nat} (P : Pl s x n j q a c) {cnt : Int} {N : Nat} (hN : min (max cnt 1) 999 = (N : Int)) (rf : Rf) (jb : Nat) (hb : jb ≤ n) (other : Int) (ho : Aln s other) :
    Aln s (dnZ (toK s x cnt) rf ((Ext.st s jb : Nat) : Int) other).1 := by
  rw [P.dn hN rf jb hb]
  refine Aln.resI P.h (fun t ht => ?_) ho
  obtain ⟨_, h2, _⟩ := dnI_get ht
  omega
theorem up_aln {s : ByteArray} {x : Int} {n j q a c : Nat} (P : Pl s x n j q a c) {cnt : Int} {N : Nat} (hN : min (max cnt 1) 999 = (N : Int)) (rf : Rf) (jb : Nat) (hb : jb ≤ n) (other : Int) (ho : Aln s other) :
    Aln s (upZ (toK s x cnt) rf ((Ext.st s jb : Nat) : Int) other).1 := by
  rw [P.up hN rf jb hb]
  refine Aln.resI P.h (fun t ht => ?_) ho
  obtain ⟨_, h2, _⟩ := upI_get ht
  have := P.hj
  omega
theorem find_aln {s : ByteArray} {x : Int} {n j q a c : Nat} (P : Pl s x n j q a c) {cnt : Int} {N : Nat} (hN : min (max cnt 1) 999 = (N : Int)) (key arg : Int) : Aln s (findZ (toK s x cnt) key arg).1 := by
  have hle := P.ls.le
  have z : Aln s 0 := ⟨n, 0, P.h, Nat.zero_le _, rfl⟩
  have d := dn_aln P hN (.is arg) (a + c) (by omega) 0 z
  have u := up_aln P hN (.is arg) a (by omega) 0 z
  have hs : (toK s x cnt).s = s := rfl
  unfold findZ
  rw [hs, P.t, P.f]
  by_cases c1 : key = 102 ∨ key = 116
  · rw [if_pos c1]
    simp only
    split
    · exact Aln.prev _ _
    · exact d
  · rw [if_neg c1]
    simp only
    split
    · obtain ⟨m, t, hm, ht, e⟩ := u
      rw [e]
      exact Aln.next hm ht
    · exact u
theorem within_aln {s : ByteArray} {x : Int} {n j q a c : Nat} (P : Pl s x n j q a c) {cnt : Int} {N : Nat} (hN : min (max cnt 1) 999 = (N : Int)) (key arg : Int) (h : (withinTo (toK s x cnt) key arg).2 = true) : Aln s (withinTo (toK s x cnt) key arg).1 := by
  have hle := P.ls.le
  have hq := P.hq
  have z : Aln s 0 := ⟨n, 0, P.h, Nat.zero_le _, rfl⟩
  have zs : Aln s (s.size : Int) := ⟨n, n, P.h, Nat.le_refl _, size_st P.h⟩
  have za : Aln s ((Ext.st s a : Nat) : Int) := ⟨n, a, P.h, by omega, rfl⟩
  have zc : Aln s ((Ext.st s (a + c) : Nat) : Int) := ⟨n, a + c, P.h, by omega, rfl⟩
  have hs : (toK s x cnt).s = s := rfl
  have kn : (toK s x cnt).n = (N : Int) := hN
  unfold withinTo at h ⊢
  rw [hs, P.t, P.f, P.l, kn] at h ⊢
  by_cases k1 : key = 104
  · rw [if_pos k1]; exact up_aln P hN _ a (by omega) _ za
  rw [if_neg k1] at h ⊢
  by_cases k2 : key = 108
  · rw [if_pos k2]; exact dn_aln P hN _ (a + c) (by omega) _ zc
  rw [if_neg k2] at h ⊢
  by_cases k3 : key = 48
  · rw [if_pos k3]; exact za
  rw [if_neg k3] at h ⊢
  by_cases k4 : key = 94
  · rw [if_pos k4]
    obtain ⟨m, t, g1, g2, g3⟩ := first_line s q hq
    exact ⟨m, t, g1, g2, by simp only; rw [g3]⟩
  rw [if_neg k4] at h ⊢
  by_cases k5 : key = 36
  · rw [if_pos k5] at h ⊢
    simp only at h ⊢
    by_cases r : 0 ≤ (q : Int) + (N : Int) - 1 ∧ (q : Int) + (N : Int) - 1 < (nE s : Int)
    · have hb : boundsZ s ((q : Int) + (N : Int) - 1) = ((bF s ((q : Int) + (N : Int) - 1).toNat : Int), (bT s ((q : Int) + (N : Int) - 1).toNat : Int), 0) := by unfold boundsZ; rw [if_pos r]
      rw [hb]
      obtain ⟨a2, c2, P2⟩ := Pl.line P.h (show ((q : Int) + (N : Int) - 1).toNat < nE s by omega)
      have hle2 := P2.ls.le
      exact ⟨n, a2 + c2, P.h, by omega, by rw [P2.ls.to_]⟩
    · have hb : boundsZ s ((q : Int) + (N : Int) - 1) = (0, 0, 2) := by unfold boundsZ; rw [if_neg r]
      rw [hb] at h
      cases h
  rw [if_neg k5] at h ⊢
  by_cases k6 : key = 119
  · rw [if_pos k6, size_st P.h]; exact dn_aln P hN _ n (Nat.le_refl _) _ (by rw [← size_st P.h]; exact zs)
  rw [if_neg k6] at h ⊢
  by_cases k7 : key = 98
  · rw [if_pos k7, zero_st s]; exact up_aln P hN _ 0 (Nat.zero_le _) _ z
  rw [if_neg k7] at h ⊢
  by_cases k8 : key = 125
  · rw [if_pos k8]
    simp only
    rw [P.par1 hN]
    refine Aln.resB (fun t ht => ?_) zs
    obtain ⟨_, h2, _⟩ := pI_get ht
    omega
  rw [if_neg k8] at h ⊢
  by_cases k9 : key = 123
  · rw [if_pos k9]
    simp only
    rw [P.par2 hN]
    refine Aln.resB (fun t ht => ?_) z
    obtain ⟨h2, _⟩ := pR_get ht
    omega
  rw [if_neg k9] at h ⊢
  by_cases k10 : key = 70 ∨ key = 84
  · rw [if_pos k10]
    exact find_aln P hN key arg
  rw [if_neg k10] at h
  cases h
theorem line_idx (m : Int) (h0 : 0 ≤ m) : ∃ q : Nat, m = (q : Int) := ⟨m.toNat, by omega⟩
theorem lines_aln (s : ByteArray) (x key cnt : Int) (h : (linesZ (toK s x cnt) key cnt).2 = true) : Aln s (linesZ (toK s x cnt) key cnt).1 := by
  have hs : (toK s x cnt).s = s := rfl
  unfold linesZ at h ⊢
  rw [hs] at h ⊢
  generalize lineTo (toK s x cnt) key cnt = m at h ⊢
  by_cases c1 : m < 0
  · rw [if_pos c1] at h; cases h
  rw [if_neg c1] at h ⊢
  by_cases c2 : m > ((nE s : Nat) : Int) - 1
  · rw [if_pos c2] at h; cases h
  rw [if_neg c2] at h ⊢
  obtain ⟨q, rfl⟩ := line_idx m (by omega)
  split
  · obtain ⟨_, _, n, j, g1, g2, g3⟩ := place_line s q ((colZ s (toK s x cnt).a : Nat) : Int) (by omega)
    exact ⟨n, j, g1, g2, by simp only; rw [g3]⟩
  · obtain ⟨n, j, g1, g2, g3⟩ := first_line s q (by omega)
    exact ⟨n, j, g1, g2, by simp only; rw [g3]⟩
theorem to_aln (s : ByteArray) (x key arg cnt : Int) (h : (toZ s x key arg cnt).2.2 = true) : Aln s (toZ s x key arg cnt).1 ∧ 0 ≤ (toZ s x key arg cnt).2.1 ∧ (toZ s x key arg cnt).2.1 ≤ 2 ∧ ((toZ s x key arg cnt).2.1 = 0 → (toZ s x key arg cnt).1 ≠ ((alignZ s x : Nat) : Int)) := by
  obtain ⟨n, j, q, a, c, P⟩ := Pl.ex s x
  obtain ⟨N, hN⟩ : ∃ N : Nat, min (max cnt 1) 999 = (N : Int) := ⟨(min (max cnt 1) 999).toNat, by omega⟩
  have l := lines_aln s x key cnt
  have w := within_aln P hN key arg
  have f := find_aln P hN key arg
  have d := dn_aln P hN .fin n (Nat.le_refl _) _ (Aln.prev s (s.size : Int))
  rw [← size_st P.h] at d
  have al := P.al
  have ka := P.a cnt
  unfold toZ at h ⊢
  by_cases k1 : key = 106 ∨ key = 107 ∨ key = 71 ∨ key = 103
  · rw [if_pos k1] at h ⊢
    by_cases o : (linesZ (toK s x cnt) key cnt).2 = true
    · rw [if_pos o]
      exact ⟨l o, (by decide : (0 : Int) ≤ 2), (by decide : (2 : Int) ≤ 2), fun h => by cases h⟩
    · rw [if_neg o] at h; cases h
  rw [if_neg k1] at h ⊢
  by_cases k2 : key = 101
  · rw [if_pos k2] at h ⊢
    by_cases o : (dnZ (toK s x cnt) .fin (s.size : Int) (prevZ s (s.size : Int))).1 > ((alignZ s x : Nat) : Int)
    · rw [if_pos o]
      exact ⟨d, (by decide : (0 : Int) ≤ 1), (by decide : (1 : Int) ≤ 2), fun h => by cases h⟩
    · rw [if_neg o] at h; cases h
  rw [if_neg k2] at h ⊢
  by_cases k3 : key = 102 ∨ key = 116
  · rw [if_pos k3] at h ⊢
    by_cases o : (findZ (toK s x cnt) key arg).2 = true
    · rw [if_pos o]
      exact ⟨f, (by decide : (0 : Int) ≤ 1), (by decide : (1 : Int) ≤ 2), fun h => by cases h⟩
    · rw [if_neg o] at h; cases h
  rw [if_neg k3] at h ⊢
  by_cases o : (withinZ (toK s x cnt) key arg).2 = true
  · rw [if_pos o]
    unfold withinZ at o ⊢
    simp only at o ⊢
    rw [Bool.and_eq_true] at o
    refine ⟨w o.1, Int.le_refl _, (by decide : (0 : Int) ≤ 2), fun _ => ?_⟩
    have o2 := o.2
    rw [bne_iff_ne, ka] at o2
    rw [al]
    exact o2
  · rw [if_neg o] at h; cases h
theorem to_no (s : ByteArray) (x key arg cnt : Int) (h : ¬ (toZ s x key arg cnt).2.2 = true) : toZ s x key arg cnt = (0, 0, false) := by
  unfold toZ at h ⊢
  split
  · rename_i k1; rw [if_pos k1] at h
    split
    · rename_i o; rw [if_pos o] at h; exact absurd rfl h
    · rfl
  · rename_i k1; rw [if_neg k1] at h
    split
    · rename_i k2; rw [if_pos k2] at h
      split
      · rename_i o; rw [if_pos o] at h; exact absurd rfl h
      · rfl
    · rename_i k2; rw [if_neg k2] at h
      split
      · rename_i k3; rw [if_pos k3] at h
        split
        · rename_i o; rw [if_pos o] at h; exact absurd rfl h
        · rfl
      · rename_i k3; rw [if_neg k3] at h
        split
        · rename_i o; rw [if_pos o] at h; exact absurd rfl h
        · rfl
theorem MoveWithin : bureaulaw12_MoveWithin.Pure := by
  intro s x key arg cnt _ _ _ _ hcw
  have hr : -9223372036854775808 ≤ cnt ∧ cnt ≤ 9223372036854775807 := by simpa [Lit.wf, IntKind.min, IntKind.max, IntKind.signed, IntKind.bits] using hcw
  refine ⟨s.size + 22, ?_⟩
  unfold bureaulaw12_MoveWithin.f
  rw [alive_eq, Option.bind_some, if_pos rfl]
  by_cases hs : (s.size : Int) > 1024
  · rw [if_pos hs]
  rw [if_neg hs]
  have hA : ∀ y : Int, bureauref02_Align.f (s.size + 22) s y = some ((alignZ s y : Nat) : Int) := fun y => r02align_eq s (by omega) y 0
  have hT : move_To.f s x key arg cnt = some (toZ s x key arg cnt) := by
    unfold move_To.f
    rw [if_pos ⟨by omega, hr.1, hr.2⟩]
  rw [hT, Option.bind_some]
  by_cases ok : (toZ s x key arg cnt).2.2 = true
  · obtain ⟨h1, h2, h3, h4⟩ := to_aln s x key arg cnt ok
    have hr2 := h1.range
    have ha := h1.al
    generalize toZ s x key arg cnt = z at *
    obtain ⟨z1, z2, z3⟩ := z
    simp only at *
    rw [if_pos ok, if_pos hr2.1, if_pos hr2.2, hA, Option.bind_some, if_pos ha]
    by_cases c : z2 = 0
    · rw [if_pos c, hA, Option.bind_some, if_neg (h4 c), if_pos h2, decide_eq_true h3]
    · rw [if_neg c, if_pos h2, decide_eq_true h3]
  · rw [to_no s x key arg cnt ok]
    rfl

end Go.Proofs.YtpajakfmahfpkaaDoor.Pure
