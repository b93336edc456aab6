/- f and F lead to a sign that was looked for, with as many others of it in between as was said: for every text, place and motion. -/
import Derived.Test.YtpajakfmahfpkaaDoorXMoveFindsx3
import Derived.Test.YtpajakfmahfpkaaDoorExt12Q
import Derived.OpenShut
set_option linter.unusedVariables false
set_option linter.unusedSimpArgs false
namespace Go.Proofs.YtpajakfmahfpkaaDoor.Pure
open Go.RowKit Go.Proofs.YtpajakfmahfpkaaDoor.XMoveFinds Go.Proofs.YtpajakfmahfpkaaDoorW.PrintWords Go.Proofs.YtpajakfmahfpkaaDoorW.PrintMore Go.Proofs.YtpajakfmahfpkaaDoor.Ext

theorem rd_nat (xs : List Int) (i : Nat) (h : i < xs.length) : rd xs (i : Int) = xs[i] := by
  unfold rd
  rw [Int.toNat_natCast, List.getD_eq_getElem?_getD, List.getElem?_eq_getElem h]
  rfl
def whole (x : Nat × Nat × Nat) : Bool := !(x.2.1 == 65533 && x.2.2 == 1)
/-! The numbers' bytes. -/
def enc (r : Nat) : List Nat :=
  if r < 128 then [r] else if r < 2048 then [192 + r / 64, 128 + r % 64] else if r < 65536 then [224 + r / 4096, 128 + r / 64 % 64, 128 + r % 64] else [240 + r / 262144, 128 + r / 4096 % 64, 128 + r / 64 % 64, 128 + r % 64]
def mayN (r : Nat) : Bool := r ≤ 1114111 && (r < 55296 || 57344 ≤ r)
theorem enc_lt {r : Nat} (h : r ≤ 1114111) : ∀ x ∈ enc r, x < 256 := by
  unfold enc
  intro x hx
  split at hx
  · simp only [List.mem_cons, List.not_mem_nil, or_false] at hx
    omega
  split at hx
  · simp only [List.mem_cons, List.not_mem_nil, or_false] at hx
    omega
  split at hx
  · simp only [List.mem_cons, List.not_mem_nil, or_false] at hx
    omega
  · simp only [List.mem_cons, List.not_mem_nil, or_false] at hx
    omega
/-! What the document's 'number' reads, and which so many bytes are a sign. -/
def numN (n b0 b1 b2 b3 : Nat) : Nat :=
  if n = 1 then b0 else if n = 2 then b0 % 32 * 64 + b1 % 64 else if n = 3 then (b0 % 16 * 64 + b1 % 64) * 64 + b2 % 64 else ((b0 % 8 * 64 + b1 % 64) * 64 + b2 % 64) * 64 + b3 % 64
theorem num1 (b0 b1 b2 b3 : Nat) : numN 1 b0 b1 b2 b3 = b0 := rfl
theorem num2 (b0 b1 b2 b3 : Nat) : numN 2 b0 b1 b2 b3 = b0 % 32 * 64 + b1 % 64 := rfl
theorem num3 (b0 b1 b2 b3 : Nat) : numN 3 b0 b1 b2 b3 = (b0 % 16 * 64 + b1 % 64) * 64 + b2 % 64 := rfl
theorem num4 (b0 b1 b2 b3 : Nat) : numN 4 b0 b1 b2 b3 = ((b0 % 8 * 64 + b1 % 64) * 64 + b2 % 64) * 64 + b3 % 64 := rfl
def okN (n b0 b1 b2 b3 : Nat) : Bool := mayN (numN n b0 b1 b2 b3) && enc (numN n b0 b1 b2 b3) == [b0, b1, b2, b3].take n
theorem ok1 {b0 : Nat} (b1 b2 b3 : Nat) (h0 : b0 < 256) : okN 1 b0 b1 b2 b3 = decide (b0 < 128) := by
  unfold okN mayN enc numN
  rw [if_pos rfl, Bool.eq_iff_iff]
  simp only [Bool.and_eq_true, Bool.or_eq_true, decide_eq_true_eq, beq_iff_eq, List.take_succ_cons, List.take_zero]
  constructor
  · rintro ⟨_, h⟩
    split at h
    · assumption
    · exfalso
      split at h
      · simp only [List.cons.injEq] at h
        exact absurd h.2 (by simp)
      split at h
      · simp only [List.cons.injEq] at h
        exact absurd h.2 (by simp)
      · simp only [List.cons.injEq] at h
        exact absurd h.2 (by simp)
  · intro h
    exact ⟨by omega, by rw [if_pos h]⟩
theorem ok2 {b0 b1 : Nat} (b2 b3 : Nat) (h0 : b0 < 256) (h1 : b1 < 256) : okN 2 b0 b1 b2 b3 = decide (b0 / 32 = 6 ∧ b1 / 64 = 2 ∧ 128 ≤ b0 % 32 * 64 + b1 % 64) := by
  unfold okN mayN enc numN
  rw [if_neg (by omega), if_pos rfl, Bool.eq_iff_iff]
  simp only [Bool.and_eq_true, Bool.or_eq_true, decide_eq_true_eq, beq_iff_eq, List.take_succ_cons, List.take_zero]
  generalize hr : b0 % 32 * 64 + b1 % 64 = r
  constructor
  · rintro ⟨_, h⟩
    split at h
    · cases h
    split at h
    · simp only [List.cons.injEq, and_true] at h
      omega
    split at h
    · cases h
    · cases h
  · intro h
    refine ⟨by omega, ?_⟩
    rw [if_neg (by omega), if_pos (by omega)]
    simp only [List.cons.injEq, and_true]
    omega
theorem ok3 {b0 b1 b2 : Nat} (b3 : Nat) (h0 : b0 < 256) (h1 : b1 < 256) (h2 : b2 < 256) : okN 3 b0 b1 b2 b3 =
    decide (b0 / 16 = 14 ∧ b1 / 64 = 2 ∧ b2 / 64 = 2 ∧ 2048 ≤ b0 % 16 * 4096 + b1 % 64 * 64 + b2 % 64 ∧ (b0 % 16 * 4096 + b1 % 64 * 64 + b2 % 64 < 55296 ∨ 57344 ≤ b0 % 16 * 4096 + b1 % 64 * 64 + b2 % 64)) := by
  unfold okN mayN enc numN
  rw [if_neg (by omega), if_neg (by omega), if_pos rfl, Bool.eq_iff_iff]
  simp only [Bool.and_eq_true, Bool.or_eq_true, decide_eq_true_eq, beq_iff_eq, List.take_succ_cons, List.take_zero]
  rw [show (b0 % 16 * 64 + b1 % 64) * 64 + b2 % 64 = b0 % 16 * 4096 + b1 % 64 * 64 + b2 % 64 by omega]
  generalize hr : b0 % 16 * 4096 + b1 % 64 * 64 + b2 % 64 = r
  constructor
  · rintro ⟨_, h⟩
    split at h
    · cases h
    split at h
    · cases h
    split at h
    · simp only [List.cons.injEq, and_true] at h
      omega
    · cases h
  · intro h
    refine ⟨by omega, ?_⟩
    rw [if_neg (by omega), if_neg (by omega), if_pos (by omega)]
    simp only [List.cons.injEq, and_true]
    omega
theorem ok4 {b0 b1 b2 b3 : Nat} (h0 : b0 < 256) (h1 : b1 < 256) (h2 : b2 < 256) (h3 : b3 < 256) : okN 4 b0 b1 b2 b3 =
    decide (b0 / 8 = 30 ∧ b1 / 64 = 2 ∧ b2 / 64 = 2 ∧ b3 / 64 = 2 ∧ 65536 ≤ b0 % 8 * 262144 + b1 % 64 * 4096 + b2 % 64 * 64 + b3 % 64 ∧ b0 % 8 * 262144 + b1 % 64 * 4096 + b2 % 64 * 64 + b3 % 64 ≤ 1114111) := by
  unfold okN mayN enc numN
  rw [if_neg (by omega), if_neg (by omega), if_neg (by omega), Bool.eq_iff_iff]
  simp only [Bool.and_eq_true, Bool.or_eq_true, decide_eq_true_eq, beq_iff_eq, List.take_succ_cons, List.take_zero]
  rw [show ((b0 % 8 * 64 + b1 % 64) * 64 + b2 % 64) * 64 + b3 % 64 = b0 % 8 * 262144 + b1 % 64 * 4096 + b2 % 64 * 64 + b3 % 64 by omega]
  generalize hr : b0 % 8 * 262144 + b1 % 64 * 4096 + b2 % 64 * 64 + b3 % 64 = r
  constructor
  · rintro ⟨_, h⟩
    split at h
    · cases h
    split at h
    · cases h
    split at h
    · cases h
    · simp only [List.cons.injEq, and_true] at h
      omega
  · intro h
    refine ⟨by omega, ?_⟩
    rw [if_neg (by omega), if_neg (by omega), if_neg (by omega)]
    simp only [List.cons.injEq, and_true]
    omega
/-- The model's decoding, by which so many bytes are a sign. -/
def firstOk (m b0 b1 b2 b3 : Nat) : Nat × Nat × Bool :=
  if okN 1 b0 b1 b2 b3 = true then (numN 1 b0 b1 b2 b3, 1, true)
  else if 2 ≤ m ∧ okN 2 b0 b1 b2 b3 = true then (numN 2 b0 b1 b2 b3, 2, true)
  else if 3 ≤ m ∧ okN 3 b0 b1 b2 b3 = true then (numN 3 b0 b1 b2 b3, 3, true)
  else if 4 ≤ m ∧ okN 4 b0 b1 b2 b3 = true then (numN 4 b0 b1 b2 b3, 4, true)
  else (65533, 1, false)
theorem first_decode {m b0 b1 b2 b3 : Nat} (h0 : b0 < 256) (h1 : b1 < 256) (h2 : b2 < 256) (h3 : b3 < 256) :
    firstOk m b0 b1 b2 b3 = ((Lib.decodeN m b0 b1 b2 b3).1, (Lib.decodeN m b0 b1 b2 b3).2, whole (0, Lib.decodeN m b0 b1 b2 b3)) := by
  unfold firstOk
  rw [ok1 b1 b2 b3 h0, ok2 b2 b3 h0 h1, ok3 b3 h0 h1 h2, ok4 h0 h1 h2 h3]
  simp only [decide_eq_true_eq]
  have n1 : numN 1 b0 b1 b2 b3 = b0 := rfl
  have n2 : numN 2 b0 b1 b2 b3 = b0 % 32 * 64 + b1 % 64 := rfl
  have n3 : numN 3 b0 b1 b2 b3 = b0 % 16 * 4096 + b1 % 64 * 64 + b2 % 64 := by unfold numN; rw [if_neg (by omega), if_neg (by omega), if_pos rfl]; omega
  have n4 : numN 4 b0 b1 b2 b3 = b0 % 8 * 262144 + b1 % 64 * 4096 + b2 % 64 * 64 + b3 % 64 := by unfold numN; rw [if_neg (by omega), if_neg (by omega), if_neg (by omega)]; omega
  rw [n1, n2, n3, n4]
  unfold Lib.decodeN
  by_cases c1 : b0 < 128
  · rw [if_pos c1, if_pos c1]
    have : (b0 == 65533) = false := by rw [beq_eq_false_iff_ne]; omega
    simp [whole, this]
  rw [if_neg c1, if_neg c1]
  by_cases c2 : b0 / 32 = 6 ∧ (1 < m ∧ b1 / 64 = 2)
  · rw [if_pos c2]
    by_cases d2 : b0 % 32 * 64 + b1 % 64 ≥ 128
    · rw [if_pos d2, if_pos (by omega)]
      simp [whole]
    · rw [if_neg d2, if_neg (by omega), if_neg (by omega), if_neg (by omega)]
      rfl
  rw [if_neg c2, if_neg (by omega)]
  by_cases c3 : b0 / 16 = 14 ∧ (1 < m ∧ b1 / 64 = 2) ∧ (2 < m ∧ b2 / 64 = 2)
  · rw [if_pos c3]
    by_cases d3 : b0 % 16 * 4096 + b1 % 64 * 64 + b2 % 64 ≥ 2048 ∧ (b0 % 16 * 4096 + b1 % 64 * 64 + b2 % 64 < 55296 ∨ (57344 ≤ b0 % 16 * 4096 + b1 % 64 * 64 + b2 % 64 ∧ b0 % 16 * 4096 + b1 % 64 * 64 + b2 % 64 ≤ 1114111))
    · rw [if_pos d3, if_pos (by omega)]
      simp [whole]
    · rw [if_neg d3, if_neg (by omega), if_neg (by omega)]
      rfl
  rw [if_neg c3, if_neg (by omega)]
  by_cases c4 : b0 / 8 = 30 ∧ (1 < m ∧ b1 / 64 = 2) ∧ (2 < m ∧ b2 / 64 = 2) ∧ (3 < m ∧ b3 / 64 = 2)
  · rw [if_pos c4]
    by_cases d4 : b0 % 8 * 262144 + b1 % 64 * 4096 + b2 % 64 * 64 + b3 % 64 ≥ 65536 ∧ (b0 % 8 * 262144 + b1 % 64 * 4096 + b2 % 64 * 64 + b3 % 64 < 55296 ∨ (57344 ≤ b0 % 8 * 262144 + b1 % 64 * 4096 + b2 % 64 * 64 + b3 % 64 ∧ b0 % 8 * 262144 + b1 % 64 * 4096 + b2 % 64 * 64 + b3 % 64 ≤ 1114111))
    · rw [if_pos d4, if_pos (by omega)]
      simp [whole]
    · rw [if_neg d4, if_neg (by omega)]
      rfl
  rw [if_neg c4, if_neg (by omega)]
  rfl
theorem may_eq (r : Nat) : bureauref02_May.f (r : Int) = some (mayN r) := by
  unfold bureauref02_May.f mayN
  rw [if_pos (Int.natCast_nonneg r)]
  by_cases h1 : r ≤ 1114111
  · rw [if_pos (by omega)]
    by_cases h2 : r < 55296
    · rw [if_pos (by omega)]
      simp [h1, h2]
    · rw [if_neg (by omega)]
      congr 1
      rw [Bool.eq_iff_iff]
      simp only [decide_eq_true_eq, Bool.and_eq_true, Bool.or_eq_true]
      omega
  · rw [if_neg (by omega)]
    simp [h1]
theorem lowK (K : Int) (k x : Nat) (hK : K = (k : Int)) (h : k + x < 256) : UInt8.ofNat (wrap64 (K + (x : Int)) % 256).toNat = UInt8.ofNat (k + x) := by
  congr 1
  unfold wrap64
  omega
theorem lowA (x : Nat) (h : x < 256) : UInt8.ofNat ((x : Int) % 256).toNat = UInt8.ofNat x := by
  congr 1
  omega
theorem l2 {a b a' b' : UInt8} (h1 : a = a') (h2 : b = b') : [a, b] = [a', b'] := by rw [h1, h2]
theorem l3 {a b c a' b' c' : UInt8} (h1 : a = a') (h2 : b = b') (h3 : c = c') : [a, b, c] = [a', b', c'] := by rw [h1, h2, h3]
theorem l4 {a b c d a' b' c' d' : UInt8} (h1 : a = a') (h2 : b = b') (h3 : c = c') (h4 : d = d') : [a, b, c, d] = [a', b', c', d'] := by rw [h1, h2, h3, h4]
theorem bytes_eq {r : Nat} (h : r ≤ 1114111) : bureauref02_Bytes.f (r : Int) = some ⟨((enc r).map UInt8.ofNat).toArray⟩ := by
  have e64 : Int.tdiv (r : Int) 64 = ((r / 64 : Nat) : Int) := rfl
  have e4096 : Int.tdiv (r : Int) 4096 = ((r / 4096 : Nat) : Int) := rfl
  have e262144 : Int.tdiv (r : Int) 262144 = ((r / 262144 : Nat) : Int) := rfl
  have m64 : Int.tmod (r : Int) 64 = ((r % 64 : Nat) : Int) := rfl
  have w1 := wrapN (r / 64) (by omega)
  have w2 := wrapN (r / 4096) (by omega)
  have w3 := wrapN (r / 262144) (by omega)
  have m1 : Int.tmod ((r / 64 : Nat) : Int) 64 = ((r / 64 % 64 : Nat) : Int) := rfl
  have m2 : Int.tmod ((r / 4096 : Nat) : Int) 64 = ((r / 4096 % 64 : Nat) : Int) := rfl
  unfold bureauref02_Bytes.f enc
  rw [e64, e4096, e262144, m64, w1, w2, w3, m1, m2]
  clear e64 e4096 e262144 m64 w1 w2 w3 m1 m2
  by_cases h1 : r < 128
  · rw [if_pos (by omega), if_pos h1]
    simp only [strOfNums, List.map_cons, List.map_nil, lowA r (by omega)]
  rw [if_neg (by omega), if_neg h1]
  by_cases h2 : r < 2048
  · rw [if_pos (by omega), if_pos h2]
    simp only [strOfNums, List.map_cons, List.map_nil]
    exact congrArg (fun l : List UInt8 => some (⟨l.toArray⟩ : ByteArray)) (l2 (lowK 192 192 (r / 64) rfl (by omega)) (lowK 128 128 (r % 64) rfl (by omega)))
  rw [if_neg (by omega), if_neg h2]
  by_cases h3 : r < 65536
  · rw [if_pos (by omega), if_pos h3]
    simp only [strOfNums, List.map_cons, List.map_nil]
    exact congrArg (fun l : List UInt8 => some (⟨l.toArray⟩ : ByteArray)) (l3 (lowK 224 224 (r / 4096) rfl (by omega)) (lowK 128 128 (r / 64 % 64) rfl (by omega)) (lowK 128 128 (r % 64) rfl (by omega)))
  · rw [if_neg (by omega), if_neg h3]
    simp only [strOfNums, List.map_cons, List.map_nil]
    exact congrArg (fun l : List UInt8 => some (⟨l.toArray⟩ : ByteArray)) (l4 (lowK 240 240 (r / 262144) rfl (by omega)) (lowK 128 128 (r / 4096 % 64) rfl (by omega)) (lowK 128 128 (r / 64 % 64) rfl (by omega)) (lowK 128 128 (r % 64) rfl (by omega)))
theorem num_step (k : Nat) (x : ByteArray) (a j : Nat) (hj : j < x.size) (ha : a < 1000000) (hs : x.size < 100) :
    bureauref02_number.l0 (k + 1) x (a : Int) (j : Int) = bureauref02_number.l0 k x ((a * 64 + gb x j % 64 : Nat) : Int) ((j + 1 : Nat) : Int) := by
  have hb := gb_lt x j
  rw [bureauref02_number.l0, if_pos (by omega), if_pos (by omega), bt_gb x j hj, wrapN (gb x j) (by omega)]
  have e : Int.tmod ((gb x j : Nat) : Int) 64 = ((gb x j % 64 : Nat) : Int) := rfl
  rw [e]
  congr 1
  · unfold wrap64
    omega
  · unfold wrap64
    omega
theorem num_end (k : Nat) (x : ByteArray) (a : Int) : bureauref02_number.l0 (k + 1) x a (x.size : Int) = some a := by
  rw [bureauref02_number.l0, if_neg (by omega)]
theorem number_eq (k : Nat) (x : ByteArray) (n : Nat) (hn : x.size = n) (h1 : 1 ≤ n) (h4 : n ≤ 4) :
    bureauref02_number.f (k + 6) x = some ((numN n (gb x 0) (gb x 1) (gb x 2) (gb x 3) : Nat) : Int) := by
  have h0 := gb_lt x 0
  have e0 : wrap64 (bt x 0) = ((gb x 0 : Nat) : Int) := by rw [show (0 : Int) = ((0 : Nat) : Int) from rfl, bt_gb x 0 (by omega), wrapN _ (by omega)]
  unfold bureauref02_number.f
  rw [if_pos (by omega), e0]
  have e32 : Int.tmod ((gb x 0 : Nat) : Int) 32 = ((gb x 0 % 32 : Nat) : Int) := rfl
  have e16 : Int.tmod ((gb x 0 : Nat) : Int) 16 = ((gb x 0 % 16 : Nat) : Int) := rfl
  have e8 : Int.tmod ((gb x 0 : Nat) : Int) 8 = ((gb x 0 % 8 : Nat) : Int) := rfl
  rw [e32, e16, e8]
  have e1 : (1 : Int) = ((1 : Nat) : Int) := rfl
  rcases (by omega : n = 1 ∨ n = 2 ∨ n = 3 ∨ n = 4) with hc | hc | hc | hc
  · rw [if_neg (by omega), if_neg (by omega), if_neg (by omega), bureauref02_number.j0]
    have := num_end (k + 4) x ((gb x 0 : Nat) : Int)
    rw [hn, hc] at this
    rw [e1, this, hc]
    rfl
  · rw [if_pos (by omega), bureauref02_number.j0, e1, num_step _ x _ 1 (by omega) (by omega) (by omega)]
    have := num_end (k + 3) x ((gb x 0 % 32 * 64 + gb x 1 % 64 : Nat) : Int)
    rw [hn, hc] at this
    rw [this, hc]
    rfl
  · rw [if_neg (by omega), if_pos (by omega), bureauref02_number.j0, e1, num_step _ x _ 1 (by omega) (by omega) (by omega), num_step _ x _ 2 (by omega) (by omega) (by omega)]
    have := num_end (k + 2) x (((gb x 0 % 16 * 64 + gb x 1 % 64) * 64 + gb x 2 % 64 : Nat) : Int)
    rw [hn, hc] at this
    rw [this, hc]
    rfl
  · rw [if_neg (by omega), if_neg (by omega), if_pos (by omega), bureauref02_number.j0, e1, num_step _ x _ 1 (by omega) (by omega) (by omega), num_step _ x _ 2 (by omega) (by omega) (by omega), num_step _ x _ 3 (by omega) (by omega) (by omega)]
    have := num_end (k + 1) x ((((gb x 0 % 8 * 64 + gb x 1 % 64) * 64 + gb x 2 % 64) * 64 + gb x 3 % 64 : Nat) : Int)
    rw [hn, hc] at this
    rw [this, hc]
    rfl
/-! 'one': the sign at a place. -/
theorem list_eq_gb {s : ByteArray} {i n r : Nat} (hn : i + n ≤ s.size) (h1 : 1 ≤ n) (h4 : n ≤ 4) (hr : r ≤ 1114111) :
    ((⟨((enc r).map UInt8.ofNat).toArray⟩ : ByteArray).toList = (s.extract i (i + n)).toList) ↔ enc r = [gb s i, gb s (i + 1), gb s (i + 2), gb s (i + 3)].take n := by
  rw [ByteArray.toList_eq, ByteArray.toList_eq, list_bytes (s.extract i (i + n)), size_ext s i n hn]
  have hm : (List.range n).map (fun j => (s.extract i (i + n)).get! j) = ([gb s i, gb s (i + 1), gb s (i + 2), gb s (i + 3)].take n).map UInt8.ofNat := by
    rw [List.map_congr_left (g := fun j => s.get! (i + j)) (fun j hj => get_ext s i n j hn (List.mem_range.1 hj))]
    have g0 (j : Nat) : UInt8.ofNat (gb s j) = s.get! j := by unfold gb; exact UInt8.ofNat_toNat
    rcases (by omega : n = 1 ∨ n = 2 ∨ n = 3 ∨ n = 4) with rfl | rfl | rfl | rfl <;> simp [List.range_succ, g0]
  rw [hm]
  have inj : ∀ (x y : List Nat), (∀ a ∈ x, a < 256) → (∀ a ∈ y, a < 256) → x.map UInt8.ofNat = y.map UInt8.ofNat → x = y := by
    intro x
    induction x with
    | nil => intro y _ _ h; cases y with | nil => rfl | cons a y => cases h
    | cons a x ih =>
      intro y hx hy h
      cases y with
      | nil => cases h
      | cons b y =>
        simp only [List.map_cons, List.cons.injEq] at h
        have hab := congrArg UInt8.toNat h.1
        rw [UInt8.toNat_ofNat', UInt8.toNat_ofNat'] at hab
        have ha := hx a (by simp)
        have hb := hy b (by simp)
        rw [ih y (fun a ha => hx a (by simp [ha])) (fun a ha => hy a (by simp [ha])) h.2]
        congr 1
        omega
  constructor
  · intro h
    refine inj _ _ (enc_lt hr) (fun a ha => ?_) h
    have := List.mem_of_mem_take ha
    simp only [List.mem_cons, List.not_mem_nil, or_false] at this
    have b0 := gb_lt s i
    have b1 := gb_lt s (i + 1)
    have b2 := gb_lt s (i + 2)
    have b3 := gb_lt s (i + 3)
    omega
  · intro h
    rw [h]
theorem one_step (k : Nat) (s : ByteArray) (i n : Nat) (hs : s.size < 1000000000) (h1 : 1 ≤ n) (h4 : n ≤ 4) (hn : i + n ≤ s.size) :
    bureauref02_one.l0 (k + 12) s (i : Int) (n : Int) =
      if okN n (gb s i) (gb s (i + 1)) (gb s (i + 2)) (gb s (i + 3)) = true then some ((i : Int), (n : Int), ((numN n (gb s i) (gb s (i + 1)) (gb s (i + 2)) (gb s (i + 3)) : Nat) : Int), true) else bureauref02_one.l0 (k + 10) s (i : Int) ((n + 1 : Nat) : Int) := by
  have hw : wrap64 ((s.size : Int) - (i : Int)) = (s.size : Int) - (i : Int) := wrapZ _ (by omega) (by omega)
  have hw2 : wrap64 ((i : Int) + (n : Int)) = ((i + n : Nat) : Int) := by rw [wrapZ _ (by omega) (by omega)]; omega
  have hw3 : wrap64 ((n : Int) + 1) = ((n + 1 : Nat) : Int) := by rw [wrapZ _ (by omega) (by omega)]; omega
  have c4 : (n : Int) ≤ 4 := by omega
  have cd : decide ((n : Int) ≤ (s.size : Int) - (i : Int)) = true := decide_eq_true (by omega)
  have ci : (0 : Int) ≤ (i : Int) := by omega
  have cn : (i : Int) ≤ ((i + n : Nat) : Int) := by omega
  have cs : ((i + n : Nat) : Int) ≤ (s.size : Int) := by omega
  rw [bureauref02_one.l0, if_pos c4, hw, cd, bureauref02_one.j1, if_pos rfl, if_pos ci, hw2, if_pos cn, if_pos cs, hw3, Int.toNat_natCast, Int.toNat_natCast]
  clear hw hw2 hw3 c4 cd ci cn cs
  have hx := size_ext s i n hn
  have hlt0 := gb_lt (s.extract i (i + n)) 0
  rw [number_eq (k + 4) (s.extract i (i + n)) n hx h1 h4, Option.bind_some]
  have hg (j : Nat) (hj : j < n) : gb (s.extract i (i + n)) j = gb s (i + j) := by unfold gb; rw [get_ext s i n j hn hj]
  have hg0 : gb (s.extract i (i + n)) 0 = gb s i := hg 0 (by omega)
  have hnum : numN n (gb (s.extract i (i + n)) 0) (gb (s.extract i (i + n)) 1) (gb (s.extract i (i + n)) 2) (gb (s.extract i (i + n)) 3) = numN n (gb s i) (gb s (i + 1)) (gb s (i + 2)) (gb s (i + 3)) := by
    rcases (by omega : n = 1 ∨ n = 2 ∨ n = 3 ∨ n = 4) with rfl | rfl | rfl | rfl
    · rw [num1, num1, hg0]
    · rw [num2, num2, hg0, hg 1 (by omega)]
    · rw [num3, num3, hg0, hg 1 (by omega), hg 2 (by omega)]
    · rw [num4, num4, hg0, hg 1 (by omega), hg 2 (by omega), hg 3 (by omega)]
  rw [hnum]
  generalize hr : numN n (gb s i) (gb s (i + 1)) (gb s (i + 2)) (gb s (i + 3)) = r
  rw [may_eq, Option.bind_some]
  unfold okN
  rw [hr]
  cases hm : mayN r with
  | false => simp
  | true =>
    have hr2 : r ≤ 1114111 := by simp [mayN] at hm; omega
    rw [if_pos rfl, bytes_eq hr2, Option.bind_some]
    have hl := list_eq_gb (r := r) hn h1 h4 hr2
    by_cases he : enc r = [gb s i, gb s (i + 1), gb s (i + 2), gb s (i + 3)].take n
    · rw [if_pos (hl.2 he), if_pos (by simp [he])]
    · rw [if_neg (fun h => he (hl.1 h)), if_neg (by simp [he])]
theorem one_last (k : Nat) (s : ByteArray) (i n : Nat) (hs : s.size < 1000000000) (hi : i < s.size) (hn : 4 < n ∨ s.size < i + n) :
    bureauref02_one.l0 (k + 2) s (i : Int) (n : Int) = some ((i : Int), 1, 65533, false) := by
  have hw : wrap64 ((s.size : Int) - (i : Int)) = (s.size : Int) - (i : Int) := wrapZ _ (by omega) (by omega)
  rw [bureauref02_one.l0]
  by_cases h4 : n ≤ 4
  · rw [if_pos (by omega), hw, decide_eq_false (by omega), bureauref02_one.j1, if_neg (by decide)]
  · rw [if_neg (by omega), bureauref02_one.j1, if_neg (by decide)]
theorem one_eq (k : Nat) (s : ByteArray) (i : Nat) (hs : s.size < 1000000000) (hi : i < s.size) :
    bureauref02_one.f (k + 20) s (i : Int) = some ((i : Int), (((Utf8.decode s i).2 : Nat) : Int), (((Utf8.decode s i).1 : Nat) : Int), whole (0, Utf8.decode s i)) := by
  have b0 := gb_lt s i
  have b1 := gb_lt s (i + 1)
  have b2 := gb_lt s (i + 2)
  have b3 := gb_lt s (i + 3)
  have hd : Utf8.decode s i = Lib.decodeN (s.size - i) (gb s i) (gb s (i + 1)) (gb s (i + 2)) (gb s (i + 3)) := Lib.decode_at s i
  have hf := first_decode (m := s.size - i) b0 b1 b2 b3
  rw [← hd] at hf
  have h1 := congrArg (fun x : Nat × Nat × Bool => x.1) hf
  have h2 := congrArg (fun x : Nat × Nat × Bool => x.2.1) hf
  have h3 := congrArg (fun x : Nat × Nat × Bool => x.2.2) hf
  simp only at h1 h2 h3
  rw [← h1, ← h2, ← h3]
  clear h1 h2 h3 hf hd
  unfold bureauref02_one.f firstOk
  rw [show (1 : Int) = ((1 : Nat) : Int) from rfl, one_step (k + 8) s i 1 hs (by omega) (by omega) (by omega)]
  split
  · rfl
  by_cases m2 : i + 2 ≤ s.size
  · rw [one_step (k + 6) s i 2 hs (by omega) (by omega) m2]
    split
    · rw [if_pos ⟨by omega, by assumption⟩]
    rw [if_neg (fun h => by rename_i h' ; exact h' h.2)]
    by_cases m3 : i + 3 ≤ s.size
    · rw [one_step (k + 4) s i 3 hs (by omega) (by omega) m3]
      split
      · rw [if_pos ⟨by omega, by assumption⟩]
      rw [if_neg (fun h => by rename_i h' ; exact h' h.2)]
      by_cases m4 : i + 4 ≤ s.size
      · rw [one_step (k + 2) s i 4 hs (by omega) (by omega) m4]
        split
        · rw [if_pos ⟨by omega, by assumption⟩]
        rw [if_neg (fun h => by rename_i h' ; exact h' h.2), one_last (k + 10) s i 5 hs hi (by omega)]
        rfl
      · rw [one_last (k + 12) s i 4 hs hi (by omega), if_neg (by omega)]
        rfl
    · rw [one_last (k + 14) s i 3 hs hi (by omega), if_neg (by omega), if_neg (by omega)]
      rfl
  · rw [one_last (k + 16) s i 2 hs hi (by omega), if_neg (by omega), if_neg (by omega), if_neg (by omega)]
    rfl
/-- A sign, as the document has it. -/
def sig (x : Nat × Nat × Nat) : S68 := ⟨(x.1 : Int), (x.2.2 : Int), (x.2.1 : Int), whole x⟩
theorem whole_at (i j : Nat) (d : Nat × Nat) : whole (i, d) = whole (j, d) := rfl
theorem signs_loop (s : ByteArray) (hs : s.size < 1000000) : ∀ (b k i : Nat) (acc : List S68), s.size ≤ i + b → i ≤ s.size → acc.length ≤ i →
    bureauref02_Signs.l0 (b + k + 22) s acc (i : Int) = some (acc ++ (scan s b i).map sig) := by
  intro b
  induction b with
  | zero =>
    intro k i acc h hi ha
    rw [show (0 + k + 22 : Nat) = (k + 21) + 1 by omega, bureauref02_Signs.l0, if_neg (by omega)]
    simp [scan]
  | succ b ih =>
    intro k i acc h hi ha
    rw [show (b + 1 + k + 22 : Nat) = (b + k + 22) + 1 by omega, bureauref02_Signs.l0]
    by_cases hc : i < s.size
    · have hw := width_pos s i hc
      have hf := width_fits s i hc
      have h4 := width_le4 s i
      rw [if_pos (by omega), show b + k + 22 = (b + k + 2) + 20 by omega, one_eq (b + k + 2) s i (by omega) hc, Option.bind_some]
      have hlen : acc.length < 4398046511104 := by omega
      rw [if_pos hlen]
      have hw64 : wrap64 ((i : Int) + (((Utf8.decode s i).2 : Nat) : Int)) = ((i + (Utf8.decode s i).2 : Nat) : Int) := by rw [wrapZ _ (by omega) (by omega)]; omega
      simp only []
      rw [hw64, show b + k + 2 + 20 = b + k + 22 by omega, ih k _ _ (by omega) hf (by simp; omega), scan, if_pos hc, List.append_assoc]
      rfl
    · rw [if_neg (by omega), scan, if_neg hc]
      simp
theorem signs_eq (s : ByteArray) (hs : s.size < 1000000) (k : Nat) : bureauref02_Signs.f (s.size + k + 22) s = some ((scan s s.size 0).map sig) := by
  unfold bureauref02_Signs.f
  have := signs_loop s hs s.size k 0 [] (by omega) (by omega) (by simp)
  rw [show (0 : Int) = ((0 : Nat) : Int) from rfl, this]
  rfl
theorem rd_T68_nat (xs : List S68) (i : Nat) (h : i < xs.length) : rd_T68 xs (i : Int) = xs[i] := by
  unfold rd_T68
  rw [Int.toNat_natCast, List.getD_eq_getElem?_getD, List.getElem?_eq_getElem h]
  rfl
theorem which_loop {s : ByteArray} {n j : Nat} (h : Signs s n) (hs : s.size < 1000000) {a : Int} (ha : At s n a j) (xs : List S68) (hx : xs = (List.range n).map (fun t => sig (st s t, Utf8.decode s (st s t)))) :
    ∀ (c k i : Nat), j ≤ i + c → i ≤ j → bureauref02_which.l0 (c + k + 1) xs a (i : Int) = some (j : Int) := by
  have hlen : xs.length = n := by rw [hx]; simp
  have hn := h.le
  obtain ⟨hj, h1, h2, h3⟩ := ha
  have hat (i : Nat) (hi : i < n) : rd_T68 xs (i : Int) = sig (st s i, Utf8.decode s (st s i)) := by
    rw [rd_T68_nat xs i (by omega)]
    subst hx
    simp
  have hsum (i : Nat) (hi : i < n) : wrap64 ((sig (st s i, Utf8.decode s (st s i))).f0 + (sig (st s i, Utf8.decode s (st s i))).f1) = ((st s (i + 1) : Nat) : Int) := by
    have := h.le_size (show i + 1 ≤ n by omega)
    simp only [sig, st] at this ⊢
    rw [wrapZ _ (by omega) (by omega)]
    omega
  have stop (k : Nat) : bureauref02_which.l0 (k + 1) xs a (j : Int) = some (j : Int) := by
    rw [bureauref02_which.l0]
    by_cases hc : j < n
    · rw [if_pos (by omega), if_pos (by omega), hat j hc, hsum j hc, if_pos]
      have := h.step hc
      by_cases h0 : a < 0
      · omega
      · by_cases hz : a < (s.size : Int)
        · have := h2 (by omega) hz
          omega
        · have := h3 (by omega)
          omega
    · rw [if_neg (by omega), hlen]
      congr 1
      omega
  intro c
  induction c with
  | zero =>
    intro k i hc hi
    obtain rfl : i = j := by omega
    exact stop _
  | succ c ih =>
    intro k i hc hi
    by_cases he : i = j
    · subst he
      exact stop _
    · rw [show c + 1 + k + 1 = (c + k + 1) + 1 by omega, bureauref02_which.l0, if_pos (by omega), if_pos (by omega), hat i (by omega), hsum i (by omega), if_neg]
      · have hw : wrap64 ((i : Int) + 1) = ((i + 1 : Nat) : Int) := by rw [wrapZ _ (by omega) (by omega)]; omega
        rw [hw]
        exact ih k (i + 1) (by omega) (by omega)
      · have hm := st_mono s (show i + 1 ≤ j by omega)
        have := h.le_size hj
        by_cases h0 : a < 0
        · have := h1 h0
          omega
        · by_cases hz : a < (s.size : Int)
          · have := h2 (by omega) hz
            omega
          · omega
theorem map_sig {s : ByteArray} {n : Nat} (h : Signs s n) : (scan s s.size 0).map sig = (List.range n).map (fun t => sig (st s t, Utf8.decode s (st s t))) := by
  rw [h.eq, List.map_map]
  rfl
theorem which_eq {s : ByteArray} {n j : Nat} (h : Signs s n) (hs : s.size < 1000000) {a : Int} (ha : At s n a j) (k : Nat) : bureauref02_which.f (s.size + k + 1) ((scan s s.size 0).map sig) a = some (j : Int) := by
  have hn := h.le
  have hj := ha.1
  unfold bureauref02_which.f
  rw [map_sig h]
  exact which_loop h hs ha _ rfl s.size k 0 (by omega) (by omega)
theorem begins_eq {s : ByteArray} {n i : Nat} (h : Signs s n) (hs : s.size < 1000000) : bureauref02_begins.f s ((scan s s.size 0).map sig) (i : Int) = some (if i < n then ((st s i : Nat) : Int) else (s.size : Int)) := by
  unfold bureauref02_begins.f
  have hlen : ((scan s s.size 0).map sig).length = n := by rw [map_sig h]; simp
  rw [if_pos (by omega), hlen]
  by_cases hc : i < n
  · rw [if_pos (by omega), if_pos (by omega), if_pos hc, rd_T68_nat _ i (by omega)]
    simp only [map_sig h, List.getElem_map, List.getElem_range]
    rfl
  · rw [if_neg (by omega), if_neg hc]
theorem r02align_eq (s : ByteArray) (hs : s.size < 1000000) (a : Int) (k : Nat) : bureauref02_Align.f (s.size + k + 22) s a = some (alignZ s a : Int) := by
  obtain ⟨n, h⟩ := signs_ex s
  obtain ⟨j, ha⟩ := At.ex h a
  have hj := ha.1
  unfold bureauref02_Align.f
  have hW : bureauref02_which.f (s.size + k + 22) ((scan s s.size 0).map sig) a = some (j : Int) := which_eq h hs ha (k + 21)
  rw [signs_eq s hs k, Option.bind_some, hW, Option.bind_some, begins_eq h hs, Option.bind_some, alignZ_eq h ha]
  by_cases hc : j < n
  · rw [if_pos hc]
  · rw [if_neg hc, show j = n by omega, h.last]
theorem rof_loop (s : ByteArray) (hs : s.size < 1000000) (a : Int) : ∀ (c i k n : Nat), i + c = s.size → n ≤ i →
    bureauref06_Of.l0 (c * 2 + k + 2) s a (n : Int) (i : Int) = some ((n + ((s.data.toList.drop i).take ((min a (s.size : Int)).toNat - i)).count 10 : Nat) : Int) := by
  intro c
  induction c with
  | zero =>
    intro i k n hi hn
    rw [show 0 * 2 + k + 2 = (k + 1) + 1 by omega, bureauref06_Of.l0, if_neg (by omega), bureauref06_Of.j1, if_neg (by decide), show (min a (s.size : Int)).toNat - i = 0 by omega, List.take_zero, List.count_nil]
    rfl
  | succ c ih =>
    intro i k n hi hn
    have hlt : i < s.data.toList.length := by rw [← size_list]; omega
    have hw : wrap64 ((i : Int) + 1) = ((i + 1 : Nat) : Int) := by rw [wrapZ _ (by omega) (by omega)]; omega
    have hwn : wrap64 ((n : Int) + 1) = ((n + 1 : Nat) : Int) := by rw [wrapZ _ (by omega) (by omega)]; omega
    have hgb := gb_list s i _ (List.getElem?_eq_getElem hlt)
    rw [show (c + 1) * 2 + k + 2 = (c * 2 + k + 2 + 1) + 1 by omega, bureauref06_Of.l0, if_pos (by omega)]
    by_cases ha : (i : Int) < a
    · have e1 : (min a (s.size : Int)).toNat - i = ((min a (s.size : Int)).toNat - (i + 1)) + 1 := by omega
      rw [decide_eq_true ha, bureauref06_Of.j1, if_pos rfl, if_pos (by omega), if_pos (by omega), bt_gb s i (by omega), hgb, hw, hwn, e1, List.drop_eq_getElem_cons hlt, List.take_succ_cons]
      by_cases h10 : s.data.toList[i] = 10
      · rw [h10, if_pos (by decide), ih (i + 1) k (n + 1) (by omega) (by omega), List.count_cons_self]
        congr 2
        omega
      · have hne : ¬ ((s.data.toList[i].toNat : Nat) : Int) = 10 := by
          intro h
          apply h10
          apply UInt8.toNat_inj.1
          show s.data.toList[i].toNat = 10
          omega
        rw [if_neg hne, ih (i + 1) k n (by omega) (by omega), List.count_cons_of_ne h10]
    · rw [decide_eq_false ha, bureauref06_Of.j1, if_neg (by decide), show (min a (s.size : Int)).toNat - i = 0 by omega, List.take_zero, List.count_nil]
      rfl
theorem rof_eq (s : ByteArray) (hs : s.size < 1000000) (a : Int) (k : Nat) : bureauref06_Of.f (s.size * 2 + k + 2) s a = some (ofZ s a : Int) := by
  unfold bureauref06_Of.f
  have := rof_loop s hs a s.size 0 k 0 (by omega) (by omega)
  rw [show (0 : Int) = ((0 : Nat) : Int) from rfl, this]
  unfold ofZ
  rw [List.drop_zero, Nat.sub_zero, Nat.zero_add, show (min a (s.size : Int)).toNat = (min (max a 0) (s.size : Int)).toNat by omega]
/-! ### the reference's signs, by number -/
theorem r02at_st {s : ByteArray} {n j : Nat} (h : Signs s n) (hs : s.size < 1000000) (hj : j < n) (k : Nat) : bureauref02_At.f (s.size + k + 22) s ((Ext.st s j : Nat) : Int) = some ((((Utf8.decode s (Ext.st s j)).1 : Nat) : Int), (((Utf8.decode s (Ext.st s j)).2 : Nat) : Int)) := by
  have hA := at_st h (show j ≤ n by omega)
  have hlen : ((scan s s.size 0).map sig).length = n := by rw [map_sig h]; simp
  have hW : bureauref02_which.f (s.size + k + 22) ((scan s s.size 0).map sig) ((Ext.st s j : Nat) : Int) = some (j : Int) := which_eq h hs hA (k + 21)
  unfold bureauref02_At.f
  rw [signs_eq s hs k, Option.bind_some, hW, Option.bind_some, hlen, if_neg (by omega), if_pos (by omega), if_pos (by omega), rd_T68_nat _ j (by omega)]
  simp only [map_sig h, List.getElem_map, List.getElem_range]
  rfl
theorem rnext_st {s : ByteArray} {n j : Nat} (h : Signs s n) (hs : s.size < 1000000) (hj : j < n) (k : Nat) : bureauref02_Next.f (s.size + k + 22) s ((Ext.st s j : Nat) : Int) = some ((Ext.st s (j + 1) : Nat) : Int) := by
  have hn := h.le
  unfold bureauref02_Next.f
  have hw : wrap64 ((j : Int) + 1) = ((j + 1 : Nat) : Int) := by rw [wrapZ _ (by omega) (by omega)]; omega
  have hW : bureauref02_which.f (s.size + k + 22) ((scan s s.size 0).map sig) ((Ext.st s j : Nat) : Int) = some (j : Int) := which_eq h hs (at_st h (by omega)) (k + 21)
  rw [signs_eq s hs k, Option.bind_some, hW, Option.bind_some, hw, begins_eq h hs, Option.bind_some]
  by_cases hc : j + 1 < n
  · rw [if_pos hc]
  · rw [if_neg hc, show j + 1 = n by omega, h.last]
theorem alive_eq : bureaulaw12_alive.f = some true := by decide +kernel
theorem dn_len {s : ByteArray} {p : Int → Bool} : ∀ {d i m t : Nat}, (dnI s p i d)[m]? = some t → (dnI s p i (t - i)).length = m := by
  intro d
  induction d with
  | zero => intro i m t h; simp [dnI] at h
  | succ d ih =>
    intro i m t h
    by_cases c : p ((Ext.st s i : Nat) : Int) = true
    · rw [dnI_hit d c] at h
      cases m with
      | zero =>
        simp only [List.getElem?_cons_zero, Option.some.injEq] at h
        subst h
        rw [Nat.sub_self]
        rfl
      | succ m =>
        rw [List.getElem?_cons_succ] at h
        have h1 := (dnI_get h).1
        rw [show t - i = (t - (i + 1)) + 1 by omega, dnI_hit _ c, List.length_cons, ih h]
    · rw [dnI_miss d c] at h
      have h1 := (dnI_get h).1
      rw [show t - i = (t - (i + 1)) + 1 by omega, dnI_miss _ c, ih h]
theorem up_len {s : ByteArray} {p : Int → Bool} {i : Nat} : ∀ {d m t : Nat}, (upI s p i d)[m]? = some t → (dnI s p (t + 1) (i + d - (t + 1))).length = m := by
  intro d
  induction d with
  | zero => intro m t h; simp [upI, dnI] at h
  | succ d ih =>
    intro m t h
    have split : ∀ t, i ≤ t → t < i + d → (dnI s p (t + 1) (i + (d + 1) - (t + 1))).length = (dnI s p (t + 1) (i + d - (t + 1))).length + (if p ((Ext.st s (i + d) : Nat) : Int) = true then 1 else 0) := by
      intro t h1 h2
      have hU := @upI_hit s p (t + 1) (i + d - (t + 1))
      have hM := @upI_miss s p (t + 1) (i + d - (t + 1))
      rw [show t + 1 + (i + d - (t + 1)) = i + d by omega, show i + d - (t + 1) + 1 = i + (d + 1) - (t + 1) by omega] at hU hM
      by_cases c : p ((Ext.st s (i + d) : Nat) : Int) = true
      · have := congrArg List.length (hU c)
        unfold upI at this
        rw [List.length_reverse, List.length_cons, List.length_reverse] at this
        rw [if_pos c, this]
      · have := congrArg List.length (hM c)
        unfold upI at this
        rw [List.length_reverse, List.length_reverse] at this
        rw [if_neg c]
        exact this
    by_cases c : p ((Ext.st s (i + d) : Nat) : Int) = true
    · rw [upI_hit c] at h
      cases m with
      | zero =>
        simp only [List.getElem?_cons_zero, Option.some.injEq] at h
        subst h
        rw [show i + (d + 1) - (i + d + 1) = 0 by omega]
        rfl
      | succ m =>
        rw [List.getElem?_cons_succ] at h
        obtain ⟨h1, h2, _⟩ := upI_get h
        rw [split t h1 h2, ih h, if_pos c]
    · rw [upI_miss c] at h
      obtain ⟨h1, h2, _⟩ := upI_get h
      rw [split t h1 h2, ih h, if_neg c, Nat.add_zero]
theorem wrapR (s : ByteArray) (j : Nat) : wrap64 (((Utf8.decode s (Ext.st s j)).1 : Nat) : Int) = (((Utf8.decode s (Ext.st s j)).1 : Nat) : Int) := by
  have := dec_le s (Ext.st s j)
  exact wrapN _ (by omega)
theorem is_st {s : ByteArray} {n j : Nat} (h : Signs s n) (hj : j < n) (g : Int) : rfZ s (.is g) ((Ext.st s j : Nat) : Int) = ((((Utf8.decode s (Ext.st s j)).1 : Nat) : Int) == g) := by
  show (runeZ s ((Ext.st s j : Nat) : Int) == g) = _
  rw [runeZ_st h hj]
/-- What is counted in between. -/
theorem between {s : ByteArray} {n : Nat} (h : Signs s n) (hs : s.size < 100000) (x7 x8 key g cnt : Int) (hg : wrap64 g = g) (hi : Nat) (hn : hi ≤ n) (hm : mx x7 x8 = ((Ext.st s hi : Nat) : Int)) : ∀ (d i m k : Nat), d = hi - i → i ≤ n → m + d < 1000000 →
    bureaulaw12_MoveFinds.l0 (s.size + 23 + d + k) s x7 x8 (m : Int) ((Ext.st s i : Nat) : Int) key g cnt = some (((m + (dnI s (rfZ s (.is g)) i d).length : Nat) : Int) == mn (mx cnt 1) 999) := by
  intro d
  induction d with
  | zero =>
    intro i m k hd hin hmd
    have := st_mono s (show hi ≤ i by omega)
    rw [show s.size + 23 + 0 + k = (s.size + k + 22) + 1 by omega, bureaulaw12_MoveFinds.l0, hm, if_neg (by omega)]
    rfl
  | succ d ih =>
    intro i m k hd hin hmd
    have hlt := st_lt h (show i < hi by omega) hn
    have hlt2 : ((Ext.st s i : Nat) : Int) < ((Ext.st s hi : Nat) : Int) := by omega
    have hs2 : s.size < 1000000 := by omega
    have hin2 : i < n := by omega
    have e1 : s.size + 23 + (d + 1) + k = (s.size + (d + 1 + k) + 22) + 1 := by omega
    have e2 : s.size + (d + 1 + k) + 22 = s.size + 23 + d + k := by omega
    have e3 : d = hi - (i + 1) := by omega
    have e4 : i + 1 ≤ n := hin2
    have e5 : m + 1 + d < 1000000 := by omega
    have e6 : m + d < 1000000 := by omega
    have e7 : ∀ L : Nat, m + 1 + L = m + (L + 1) := fun L => by omega
    have hw : wrap64 ((m : Int) + 1) = ((m + 1 : Nat) : Int) := by rw [wrapZ _ (by omega) (by omega)]; omega
    have hA := r02at_st h hs2 hin2 (d + 1 + k)
    have hN := rnext_st h hs2 hin2 (d + 1 + k)
    rw [e1, bureaulaw12_MoveFinds.l0, hm, if_pos hlt2, hA, Option.bind_some, hN, hg, hw]
    have e := is_st h hin2 g
    by_cases c : (((Utf8.decode s (Ext.st s i)).1 : Nat) : Int) = g
    · have c2 : rfZ s (.is g) ((Ext.st s i : Nat) : Int) = true := by rw [e]; exact beq_iff_eq.2 c
      rw [if_pos c, Option.bind_some, e2, ih (i + 1) (m + 1) k e3 e4 e5, dnI_hit d c2, List.length_cons, e7]
    · have c2 : ¬ rfZ s (.is g) ((Ext.st s i : Nat) : Int) = true := by rw [e]; exact fun h => c (beq_iff_eq.1 h)
      rw [if_neg c, Option.bind_some, e2, ih (i + 1) m k e3 e4 e6, dnI_miss d c2]
theorem find_f {s : ByteArray} {x : Int} {n j q a c : Nat} (P : Pl s x n j q a c) {cnt : Int} {N : Nat} (hN : min (max cnt 1) 999 = (N : Int)) (g : Int) :
    findZ (toK s x cnt) 102 g = resI s (dnI s (rfZ s (.is g)) (j + 1) (a + c - (j + 1))) N 0 := by
  unfold findZ
  rw [if_pos (c := (102 : Int) = 102 ∨ (102 : Int) = 116) (Or.inl rfl), if_neg (fun h => absurd h.2 (by decide)), P.t, P.dn hN (.is g) (a + c) P.ls.le]
theorem find_F {s : ByteArray} {x : Int} {n j q a c : Nat} (P : Pl s x n j q a c) {cnt : Int} {N : Nat} (hN : min (max cnt 1) 999 = (N : Int)) (g : Int) :
    findZ (toK s x cnt) 70 g = resI s (upI s (rfZ s (.is g)) a (j - a)) N 0 := by
  have hle := P.ls.le
  unfold findZ
  rw [if_neg (c := (70 : Int) = 102 ∨ (70 : Int) = 116) (by decide), if_neg (fun h => absurd h.2 (by decide)), P.f, P.up hN (.is g) a (by omega)]
theorem toZ_f {s : ByteArray} {x : Int} {n j q a c : Nat} (P : Pl s x n j q a c) {cnt : Int} {N : Nat} (hN : min (max cnt 1) 999 = (N : Int)) (g : Int) :
    (¬ (toZ s x 102 g cnt).2.2 = true) ∨ ∃ t, toZ s x 102 g cnt = (((Ext.st s t : Nat) : Int), 1, true) ∧ j < t ∧ t < a + c ∧ rfZ s (.is g) ((Ext.st s t : Nat) : Int) = true ∧ (dnI s (rfZ s (.is g)) (j + 1) (t - (j + 1))).length = N - 1 := by
  have e : toZ s x 102 g cnt = if (findZ (toK s x cnt) 102 g).2 = true then ((findZ (toK s x cnt) 102 g).1, 1, true) else (0, 0, false) := by
    unfold toZ
    rw [if_neg (c := (102 : Int) = 106 ∨ (102 : Int) = 107 ∨ (102 : Int) = 71 ∨ (102 : Int) = 103) (by decide), if_neg (c := (102 : Int) = 101) (by decide), if_pos (c := (102 : Int) = 102 ∨ (102 : Int) = 116) (Or.inl rfl)]
  rw [e, find_f P hN]
  rcases resI_cases s (dnI s (rfZ s (.is g)) (j + 1) (a + c - (j + 1))) N 0 with ⟨t, h1, h2⟩ | ⟨h1, h2⟩
  · obtain ⟨g1, g2, g3, _⟩ := dnI_get h1
    refine .inr ⟨t, ?_, by omega, by omega, g3, dn_len h1⟩
    rw [h2, if_pos rfl]
  · left
    rw [h2, if_neg (by simp)]
    simp
theorem toZ_F {s : ByteArray} {x : Int} {n j q a c : Nat} (P : Pl s x n j q a c) {cnt : Int} {N : Nat} (hN : min (max cnt 1) 999 = (N : Int)) (g : Int) :
    (¬ (toZ s x 70 g cnt).2.2 = true) ∨ ∃ t, toZ s x 70 g cnt = (((Ext.st s t : Nat) : Int), 0, true) ∧ a ≤ t ∧ t < j ∧ rfZ s (.is g) ((Ext.st s t : Nat) : Int) = true ∧ (dnI s (rfZ s (.is g)) (t + 1) (j - (t + 1))).length = N - 1 := by
  have hle := P.ls.le
  have haj := P.haj
  have hj := P.hj
  have e : toZ s x 70 g cnt = if ((findZ (toK s x cnt) 70 g).2 && (findZ (toK s x cnt) 70 g).1 != ((Ext.st s j : Nat) : Int)) = true then ((findZ (toK s x cnt) 70 g).1, 0, true) else (0, 0, false) := by
    have e0 : withinTo (toK s x cnt) 70 g = findZ (toK s x cnt) 70 g := rfl
    unfold toZ withinZ
    rw [if_neg (c := (70 : Int) = 106 ∨ (70 : Int) = 107 ∨ (70 : Int) = 71 ∨ (70 : Int) = 103) (by decide), if_neg (c := (70 : Int) = 101) (by decide), if_neg (c := (70 : Int) = 102 ∨ (70 : Int) = 116) (by decide), e0, P.a]
  rw [e, find_F P hN]
  rcases resI_cases s (upI s (rfZ s (.is g)) a (j - a)) N 0 with ⟨t, h1, h2⟩ | ⟨h1, h2⟩
  · obtain ⟨g1, g2, g3, _⟩ := upI_get h1
    have hl := up_len h1
    rw [show a + (j - a) - (t + 1) = j - (t + 1) by omega] at hl
    have hlt := st_lt P.h (show t < j by omega) hj
    have hne : ((Ext.st s t : Nat) : Int) ≠ ((Ext.st s j : Nat) : Int) := by omega
    refine .inr ⟨t, ?_, g1, by omega, g3, hl⟩
    rw [h2, if_pos (by simpa using hne)]
  · left
    rw [h2, if_neg (by simp)]
    simp
theorem core {s : ByteArray} {x key g cnt : Int} (hs : ¬ (s.size : Int) > 1024) (hg : wrap64 g = g) (hr : -9223372036854775808 ≤ cnt ∧ cnt ≤ 9223372036854775807) (hkey : key = 102 ∨ key = 70) :
    bureaulaw12_MoveFinds.j1 (2 * s.size + 60) s x key g cnt = some true := by
  obtain ⟨n, j, q, a, c, P⟩ := Pl.ex s x
  obtain ⟨N, hN, hN1⟩ : ∃ N : Nat, min (max cnt 1) 999 = (N : Int) ∧ 1 ≤ N := ⟨(min (max cnt 1) 999).toNat, by omega, by omega⟩
  have h := P.h
  have hle := P.ls.le
  have hj := P.hj
  have hnle := h.le
  have hA : bureauref02_Align.f (2 * s.size + 59) s x = some ((Ext.st s j : Nat) : Int) := by
    have := r02align_eq s (by omega) x (s.size + 37)
    rw [show s.size + (s.size + 37) + 22 = 2 * s.size + 59 by omega] at this
    rw [this, P.al]
  have hO : ∀ t, a ≤ t → t ≤ a + c → bureauref06_Of.f (2 * s.size + 59) s ((Ext.st s t : Nat) : Int) = some (q : Int) := fun t h1 h2 => by
    have := rof_eq s (by omega) ((Ext.st s t : Nat) : Int) 57
    rw [show s.size * 2 + 57 + 2 = 2 * s.size + 59 by omega] at this
    rw [this, (P.move h1 h2).of]
  have hT : move_To.f s x key g cnt = some (toZ s x key g cnt) := by
    unfold move_To.f
    rw [if_pos ⟨by omega, hr.1, hr.2⟩]
  have hAt : ∀ t, t < n → bureauref02_At.f (2 * s.size + 59) s ((Ext.st s t : Nat) : Int) = some ((((Utf8.decode s (Ext.st s t)).1 : Nat) : Int), (((Utf8.decode s (Ext.st s t)).2 : Nat) : Int)) := fun t ht => by
    have := r02at_st h (by omega) ht (s.size + 37)
    rwa [show s.size + (s.size + 37) + 22 = 2 * s.size + 59 by omega] at this
  have hNx : ∀ t, t < n → bureauref02_Next.f (2 * s.size + 58) s ((Ext.st s t : Nat) : Int) = some ((Ext.st s (t + 1) : Nat) : Int) := fun t ht => by
    have := rnext_st h (by omega) ht (s.size + 36)
    rwa [show s.size + (s.size + 36) + 22 = 2 * s.size + 58 by omega] at this
  have fin : ∀ lo hi : Nat, lo < hi → hi ≤ n → ∀ (x7 x8 : Int), mx x7 x8 = ((Ext.st s hi : Nat) : Int) → mn x7 x8 = ((Ext.st s lo : Nat) : Int) → (dnI s (rfZ s (.is g)) (lo + 1) (hi - (lo + 1))).length = N - 1 → bureaulaw12_MoveFinds.j2 (2 * s.size + 59) s x7 x8 false key g cnt = some true := fun lo hi h1 h2 x7 x8 hm hmn hl => by
    have hB := between h (by omega) x7 x8 key g cnt hg hi h2 hm (hi - (lo + 1)) (lo + 1) 1 (s.size + 35 - (hi - (lo + 1))) rfl (by omega) (by omega)
    rw [show s.size + 23 + (hi - (lo + 1)) + (s.size + 35 - (hi - (lo + 1))) = 2 * s.size + 58 by omega, hl] at hB
    rw [show 2 * s.size + 59 = (2 * s.size + 58) + 1 from rfl, bureaulaw12_MoveFinds.j2, if_neg (by decide), hmn, hNx lo (by omega), Option.bind_some]
    refine hB.trans ?_
    have : mn (mx cnt 1) 999 = ((1 + (N - 1) : Nat) : Int) := by
      have e : mn (mx cnt 1) 999 = min (max cnt 1) 999 := by unfold mn mx; omega
      rw [e, hN]; omega
    rw [this]
    simp
  rw [show 2 * s.size + 60 = (2 * s.size + 59) + 1 from rfl, bureaulaw12_MoveFinds.j1, hA, Option.bind_some, hT, Option.bind_some, hg]
  have hwd : ∀ t, t < n → ¬ (((Utf8.decode s (Ext.st s t)).2 : Nat) : Int) = 0 := fun t ht => by
    have h1 := h.step ht
    have h2 : Ext.st s (t + 1) = Ext.st s t + (Utf8.decode s (Ext.st s t)).2 := rfl
    omega
  obtain ⟨z, hz⟩ : ∃ z, bureauref02_At.f (2 * s.size + 59) s (toZ s x key g cnt).1 = some z := by
    have hW : ∀ y : Int, ∃ z, bureauref02_At.f (2 * s.size + 59) s y = some z := fun y => by
      obtain ⟨i, hi⟩ := At.ex h y
      have hlen : ((scan s s.size 0).map sig).length = n := by rw [map_sig h]; simp
      have hW : bureauref02_which.f (s.size + (s.size + 37) + 22) ((scan s s.size 0).map sig) y = some (i : Int) := which_eq h (by omega) hi (s.size + 37 + 21)
      rw [show 2 * s.size + 59 = s.size + (s.size + 37) + 22 by omega]
      unfold bureauref02_At.f
      rw [signs_eq s (by omega) (s.size + 37), Option.bind_some, hW, Option.bind_some, hlen]
      by_cases ci : i < n
      · rw [if_neg (by omega), if_pos (by omega), if_pos (by omega)]
        exact ⟨_, rfl⟩
      · rw [if_pos (by omega)]
        exact ⟨_, rfl⟩
    exact hW _
  rcases hkey with rfl | rfl
  · rcases toZ_f P hN g with hno | ⟨t, e, h1, h2, h3, h4⟩
    · rw [hz, Option.bind_some, if_neg hno]
    · rw [is_st h (by omega)] at h3
      have hlt := st_lt h h1 (show t ≤ n by omega)
      rw [e]
      simp only
      rw [hAt t (by omega), Option.bind_some, if_pos trivial]
      simp only
      have haj := P.haj
      rw [if_neg (hwd t (by omega)), if_pos (by simpa using h3), hO t (by omega) (by omega), Option.bind_some, hO j P.haj P.hjc, Option.bind_some, if_pos rfl, if_pos (by omega)]
      exact fin j t h1 (by omega) _ _ (by unfold mx; omega) (by unfold mn; omega) h4
  · rcases toZ_F P hN g with hno | ⟨t, e, h1, h2, h3, h4⟩
    · rw [hz, Option.bind_some, if_neg hno]
    · rw [is_st h (by omega)] at h3
      have hlt := st_lt h h2 hj
      rw [e]
      simp only
      rw [hAt t (by omega), Option.bind_some, if_pos trivial]
      simp only
      have hjc := P.hjc
      rw [if_neg (hwd t (by omega)), if_pos (by simpa using h3), hO t (by omega) (by omega), Option.bind_some, hO j P.haj P.hjc, Option.bind_some, if_pos rfl, if_neg (by omega)]
      exact fin t j h2 hj _ _ (by unfold mx; omega) (by unfold mn; omega) h4
theorem MoveFinds : bureaulaw12_MoveFinds.Pure := by
  intro s x key g cnt _ _ _ hgw hcw
  have hr : -9223372036854775808 ≤ cnt ∧ cnt ≤ 9223372036854775807 := by simpa [Lit.wf, IntKind.min, IntKind.max, IntKind.signed, IntKind.bits] using hcw
  have hgr : -2147483648 ≤ g ∧ g ≤ 2147483647 := by simpa [Lit.wf, IntKind.min, IntKind.max, IntKind.signed, IntKind.bits] using hgw
  have hg : wrap64 g = g := wrapZ _ (by omega) (by omega)
  refine ⟨2 * s.size + 61, ?_⟩
  unfold bureaulaw12_MoveFinds.f
  rw [alive_eq, Option.bind_some, if_pos rfl]
  by_cases hs : (s.size : Int) > 1024
  · rw [if_pos hs]
  rw [if_neg hs, show 2 * s.size + 61 = (2 * s.size + 60) + 1 from rfl]
  by_cases k1 : key = 102
  · rw [if_pos k1, bureaulaw12_MoveFinds.j0, if_neg (by decide)]
    exact core hs hg hr (.inl k1)
  · rw [if_neg k1, bureaulaw12_MoveFinds.j0]
    by_cases k2 : key = 70
    · rw [if_neg (by simp [k2])]
      exact core hs hg hr (.inr k2)
    · rw [if_pos (by simpa using k2)]
      exact core hs hg hr (.inl rfl)

end Go.Proofs.YtpajakfmahfpkaaDoor.Pure
