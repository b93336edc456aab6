/- The column of any place, the place of any column, and a line's first sign, are the document's: for every text and all numbers. -/
import Derived.Test.YthkhjcpijecokaaDoorXLinePlacesx4
import Derived.Test.YthkhjcpijecokaaDoorExt06K
import Derived.OpenShut
set_option linter.unusedVariables false
set_option linter.unusedSimpArgs false
namespace Go.Proofs.YthkhjcpijecokaaDoor.Pure
open Go.RowKit Go.Proofs.YthkhjcpijecokaaDoor.XLinePlaces Go.Proofs.YthkhjcpijecokaaDoorW.PrintWords Go.Proofs.YthkhjcpijecokaaDoorW.PrintMore Go.Proofs.YthkhjcpijecokaaDoor.Ext

theorem alive_eq : bureaulaw06_alive.f = some true := by decide +kernel
theorem rd_nat (xs : List Int) (i : Nat) (h : i < xs.length) : rd xs (i : Int) = xs[i] := by
  unfold rd
  rw [Int.toNat_natCast, List.getD_eq_getElem?_getD, List.getElem?_eq_getElem h]
  rfl
def whole (x : Nat × Nat × Nat) : Bool := !(x.2.1 == 65533 && x.2.2 == 1)
/-! The numbers' bytes. -/
def enc (r : Nat) : List Nat :=
  if r < 128 then [r] else if r < 2048 then [192 + r / 64, 128 + r % 64] else if r < 65536 then [224 + r / 4096, 128 + r / 64 % 64, 128 + r % 64] else [240 + r / 262144, 128 + r / 4096 % 64, 128 + r / 64 % 64, 128 + r % 64]
def mayN (r : Nat) : Bool := r ≤ 1114111 && (r < 55296 || 57344 ≤ r)
theorem enc_lt {r : Nat} (h : r ≤ 1114111) : ∀ x ∈ enc r, x < 256 := by
  unfold enc
  intro x hx
  split at hx
  · simp only [List.mem_cons, List.not_mem_nil, or_false] at hx
    omega
  split at hx
  · simp only [List.mem_cons, List.not_mem_nil, or_false] at hx
    omega
  split at hx
  · simp only [List.mem_cons, List.not_mem_nil, or_false] at hx
    omega
  · simp only [List.mem_cons, List.not_mem_nil, or_false] at hx
    omega
/-! What the document's 'number' reads, and which so many bytes are a sign. -/
def numN (n b0 b1 b2 b3 : Nat) : Nat :=
  if n = 1 then b0 else if n = 2 then b0 % 32 * 64 + b1 % 64 else if n = 3 then (b0 % 16 * 64 + b1 % 64) * 64 + b2 % 64 else ((b0 % 8 * 64 + b1 % 64) * 64 + b2 % 64) * 64 + b3 % 64
theorem num1 (b0 b1 b2 b3 : Nat) : numN 1 b0 b1 b2 b3 = b0 := rfl
theorem num2 (b0 b1 b2 b3 : Nat) : numN 2 b0 b1 b2 b3 = b0 % 32 * 64 + b1 % 64 := rfl
theorem num3 (b0 b1 b2 b3 : Nat) : numN 3 b0 b1 b2 b3 = (b0 % 16 * 64 + b1 % 64) * 64 + b2 % 64 := rfl
theorem num4 (b0 b1 b2 b3 : Nat) : numN 4 b0 b1 b2 b3 = ((b0 % 8 * 64 + b1 % 64) * 64 + b2 % 64) * 64 + b3 % 64 := rfl
def okN (n b0 b1 b2 b3 : Nat) : Bool := mayN (numN n b0 b1 b2 b3) && enc (numN n b0 b1 b2 b3) == [b0, b1, b2, b3].take n
theorem ok1 {b0 : Nat} (b1 b2 b3 : Nat) (h0 : b0 < 256) : okN 1 b0 b1 b2 b3 = decide (b0 < 128) := by
  unfold okN mayN enc numN
  rw [if_pos rfl, Bool.eq_iff_iff]
  simp only [Bool.and_eq_true, Bool.or_eq_true, decide_eq_true_eq, beq_iff_eq, List.take_succ_cons, List.take_zero]
  constructor
  · rintro ⟨_, h⟩
    split at h
    · assumption
    · exfalso
      split at h
      · simp only [List.cons.injEq] at h
        exact absurd h.2 (by simp)
      split at h
      · simp only [List.cons.injEq] at h
        exact absurd h.2 (by simp)
      · simp only [List.cons.injEq] at h
        exact absurd h.2 (by simp)
  · intro h
    exact ⟨by omega, by rw [if_pos h]⟩
theorem ok2 {b0 b1 : Nat} (b2 b3 : Nat) (h0 : b0 < 256) (h1 : b1 < 256) : okN 2 b0 b1 b2 b3 = decide (b0 / 32 = 6 ∧ b1 / 64 = 2 ∧ 128 ≤ b0 % 32 * 64 + b1 % 64) := by
  unfold okN mayN enc numN
  rw [if_neg (by omega), if_pos rfl, Bool.eq_iff_iff]
  simp only [Bool.and_eq_true, Bool.or_eq_true, decide_eq_true_eq, beq_iff_eq, List.take_succ_cons, List.take_zero]
  generalize hr : b0 % 32 * 64 + b1 % 64 = r
  constructor
  · rintro ⟨_, h⟩
    split at h
    · cases h
    split at h
    · simp only [List.cons.injEq, and_true] at h
      omega
    split at h
    · cases h
    · cases h
  · intro h
    refine ⟨by omega, ?_⟩
    rw [if_neg (by omega), if_pos (by omega)]
    simp only [List.cons.injEq, and_true]
    omega
theorem ok3 {b0 b1 b2 : Nat} (b3 : Nat) (h0 : b0 < 256) (h1 : b1 < 256) (h2 : b2 < 256) : okN 3 b0 b1 b2 b3 =
    decide (b0 / 16 = 14 ∧ b1 / 64 = 2 ∧ b2 / 64 = 2 ∧ 2048 ≤ b0 % 16 * 4096 + b1 % 64 * 64 + b2 % 64 ∧ (b0 % 16 * 4096 + b1 % 64 * 64 + b2 % 64 < 55296 ∨ 57344 ≤ b0 % 16 * 4096 + b1 % 64 * 64 + b2 % 64)) := by
  unfold okN mayN enc numN
  rw [if_neg (by omega), if_neg (by omega), if_pos rfl, Bool.eq_iff_iff]
  simp only [Bool.and_eq_true, Bool.or_eq_true, decide_eq_true_eq, beq_iff_eq, List.take_succ_cons, List.take_zero]
  rw [show (b0 % 16 * 64 + b1 % 64) * 64 + b2 % 64 = b0 % 16 * 4096 + b1 % 64 * 64 + b2 % 64 by omega]
  generalize hr : b0 % 16 * 4096 + b1 % 64 * 64 + b2 % 64 = r
  constructor
  · rintro ⟨_, h⟩
    split at h
    · cases h
    split at h
    · cases h
    split at h
    · simp only [List.cons.injEq, and_true] at h
      omega
    · cases h
  · intro h
    refine ⟨by omega, ?_⟩
    rw [if_neg (by omega), if_neg (by omega), if_pos (by omega)]
    simp only [List.cons.injEq, and_true]
    omega
theorem ok4 {b0 b1 b2 b3 : Nat} (h0 : b0 < 256) (h1 : b1 < 256) (h2 : b2 < 256) (h3 : b3 < 256) : okN 4 b0 b1 b2 b3 =
    decide (b0 / 8 = 30 ∧ b1 / 64 = 2 ∧ b2 / 64 = 2 ∧ b3 / 64 = 2 ∧ 65536 ≤ b0 % 8 * 262144 + b1 % 64 * 4096 + b2 % 64 * 64 + b3 % 64 ∧ b0 % 8 * 262144 + b1 % 64 * 4096 + b2 % 64 * 64 + b3 % 64 ≤ 1114111) := by
  unfold okN mayN enc numN
  rw [if_neg (by omega), if_neg (by omega), if_neg (by omega), Bool.eq_iff_iff]
  simp only [Bool.and_eq_true, Bool.or_eq_true, decide_eq_true_eq, beq_iff_eq, List.take_succ_cons, List.take_zero]
  rw [show ((b0 % 8 * 64 + b1 % 64) * 64 + b2 % 64) * 64 + b3 % 64 = b0 % 8 * 262144 + b1 % 64 * 4096 + b2 % 64 * 64 + b3 % 64 by omega]
  generalize hr : b0 % 8 * 262144 + b1 % 64 * 4096 + b2 % 64 * 64 + b3 % 64 = r
  constructor
  · rintro ⟨_, h⟩
    split at h
    · cases h
    split at h
    · cases h
    split at h
    · cases h
    · simp only [List.cons.injEq, and_true] at h
      omega
  · intro h
    refine ⟨by omega, ?_⟩
    rw [if_neg (by omega), if_neg (by omega), if_neg (by omega)]
    simp only [List.cons.injEq, and_true]
    omega
/-- The model's decoding, by which so many bytes are a sign. -/
def firstOk (m b0 b1 b2 b3 : Nat) : Nat × Nat × Bool :=
  if okN 1 b0 b1 b2 b3 = true then (numN 1 b0 b1 b2 b3, 1, true)
  else if 2 ≤ m ∧ okN 2 b0 b1 b2 b3 = true then (numN 2 b0 b1 b2 b3, 2, true)
  else if 3 ≤ m ∧ okN 3 b0 b1 b2 b3 = true then (numN 3 b0 b1 b2 b3, 3, true)
  else if 4 ≤ m ∧ okN 4 b0 b1 b2 b3 = true then (numN 4 b0 b1 b2 b3, 4, true)
  else (65533, 1, false)
theorem first_decode {m b0 b1 b2 b3 : Nat} (h0 : b0 < 256) (h1 : b1 < 256) (h2 : b2 < 256) (h3 : b3 < 256) :
    firstOk m b0 b1 b2 b3 = ((Lib.decodeN m b0 b1 b2 b3).1, (Lib.decodeN m b0 b1 b2 b3).2, whole (0, Lib.decodeN m b0 b1 b2 b3)) := by
  unfold firstOk
  rw [ok1 b1 b2 b3 h0, ok2 b2 b3 h0 h1, ok3 b3 h0 h1 h2, ok4 h0 h1 h2 h3]
  simp only [decide_eq_true_eq]
  have n1 : numN 1 b0 b1 b2 b3 = b0 := rfl
  have n2 : numN 2 b0 b1 b2 b3 = b0 % 32 * 64 + b1 % 64 := rfl
  have n3 : numN 3 b0 b1 b2 b3 = b0 % 16 * 4096 + b1 % 64 * 64 + b2 % 64 := by unfold numN; rw [if_neg (by omega), if_neg (by omega), if_pos rfl]; omega
  have n4 : numN 4 b0 b1 b2 b3 = b0 % 8 * 262144 + b1 % 64 * 4096 + b2 % 64 * 64 + b3 % 64 := by unfold numN; rw [if_neg (by omega), if_neg (by omega), if_neg (by omega)]; omega
  rw [n1, n2, n3, n4]
  unfold Lib.decodeN
  by_cases c1 : b0 < 128
  · rw [if_pos c1, if_pos c1]
    have : (b0 == 65533) = false := by rw [beq_eq_false_iff_ne]; omega
    simp [whole, this]
  rw [if_neg c1, if_neg c1]
  by_cases c2 : b0 / 32 = 6 ∧ (1 < m ∧ b1 / 64 = 2)
  · rw [if_pos c2]
    by_cases d2 : b0 % 32 * 64 + b1 % 64 ≥ 128
    · rw [if_pos d2, if_pos (by omega)]
      simp [whole]
    · rw [if_neg d2, if_neg (by omega), if_neg (by omega), if_neg (by omega)]
      rfl
  rw [if_neg c2, if_neg (by omega)]
  by_cases c3 : b0 / 16 = 14 ∧ (1 < m ∧ b1 / 64 = 2) ∧ (2 < m ∧ b2 / 64 = 2)
  · rw [if_pos c3]
    by_cases d3 : b0 % 16 * 4096 + b1 % 64 * 64 + b2 % 64 ≥ 2048 ∧ (b0 % 16 * 4096 + b1 % 64 * 64 + b2 % 64 < 55296 ∨ (57344 ≤ b0 % 16 * 4096 + b1 % 64 * 64 + b2 % 64 ∧ b0 % 16 * 4096 + b1 % 64 * 64 + b2 % 64 ≤ 1114111))
    · rw [if_pos d3, if_pos (by omega)]
      simp [whole]
    · rw [if_neg d3, if_neg (by omega), if_neg (by omega)]
      rfl
  rw [if_neg c3, if_neg (by omega)]
  by_cases c4 : b0 / 8 = 30 ∧ (1 < m ∧ b1 / 64 = 2) ∧ (2 < m ∧ b2 / 64 = 2) ∧ (3 < m ∧ b3 / 64 = 2)
  · rw [if_pos c4]
    by_cases d4 : b0 % 8 * 262144 + b1 % 64 * 4096 + b2 % 64 * 64 + b3 % 64 ≥ 65536 ∧ (b0 % 8 * 262144 + b1 % 64 * 4096 + b2 % 64 * 64 + b3 % 64 < 55296 ∨ (57344 ≤ b0 % 8 * 262144 + b1 % 64 * 4096 + b2 % 64 * 64 + b3 % 64 ∧ b0 % 8 * 262144 + b1 % 64 * 4096 + b2 % 64 * 64 + b3 % 64 ≤ 1114111))
    · rw [if_pos d4, if_pos (by omega)]
      simp [whole]
    · rw [if_neg d4, if_neg (by omega)]
      rfl
  rw [if_neg c4, if_neg (by omega)]
  rfl
theorem may_eq (r : Nat) : bureauref02_May.f (r : Int) = some (mayN r) := by
  unfold bureauref02_May.f mayN
  rw [if_pos (Int.natCast_nonneg r)]
  by_cases h1 : r ≤ 1114111
  · rw [if_pos (by omega)]
    by_cases h2 : r < 55296
    · rw [if_pos (by omega)]
      simp [h1, h2]
    · rw [if_neg (by omega)]
      congr 1
      rw [Bool.eq_iff_iff]
      simp only [decide_eq_true_eq, Bool.and_eq_true, Bool.or_eq_true]
      omega
  · rw [if_neg (by omega)]
    simp [h1]
theorem lowK (K : Int) (k x : Nat) (hK : K = (k : Int)) (h : k + x < 256) : UInt8.ofNat (wrap64 (K + (x : Int)) % 256).toNat = UInt8.ofNat (k + x) := by
  congr 1
  unfold wrap64
  omega
theorem lowA (x : Nat) (h : x < 256) : UInt8.ofNat ((x : Int) % 256).toNat = UInt8.ofNat x := by
  congr 1
  omega
theorem l2 {a b a' b' : UInt8} (h1 : a = a') (h2 : b = b') : [a, b] = [a', b'] := by rw [h1, h2]
theorem l3 {a b c a' b' c' : UInt8} (h1 : a = a') (h2 : b = b') (h3 : c = c') : [a, b, c] = [a', b', c'] := by rw [h1, h2, h3]
theorem l4 {a b c d a' b' c' d' : UInt8} (h1 : a = a') (h2 : b = b') (h3 : c = c') (h4 : d = d') : [a, b, c, d] = [a', b', c', d'] := by rw [h1, h2, h3, h4]
theorem bytes_eq {r : Nat} (h : r ≤ 1114111) : bureauref02_Bytes.f (r : Int) = some ⟨((enc r).map UInt8.ofNat).toArray⟩ := by
  have e64 : Int.tdiv (r : Int) 64 = ((r / 64 : Nat) : Int) := rfl
  have e4096 : Int.tdiv (r : Int) 4096 = ((r / 4096 : Nat) : Int) := rfl
  have e262144 : Int.tdiv (r : Int) 262144 = ((r / 262144 : Nat) : Int) := rfl
  have m64 : Int.tmod (r : Int) 64 = ((r % 64 : Nat) : Int) := rfl
  have w1 := wrapN (r / 64) (by omega)
  have w2 := wrapN (r / 4096) (by omega)
  have w3 := wrapN (r / 262144) (by omega)
  have m1 : Int.tmod ((r / 64 : Nat) : Int) 64 = ((r / 64 % 64 : Nat) : Int) := rfl
  have m2 : Int.tmod ((r / 4096 : Nat) : Int) 64 = ((r / 4096 % 64 : Nat) : Int) := rfl
  unfold bureauref02_Bytes.f enc
  rw [e64, e4096, e262144, m64, w1, w2, w3, m1, m2]
  clear e64 e4096 e262144 m64 w1 w2 w3 m1 m2
  by_cases h1 : r < 128
  · rw [if_pos (by omega), if_pos h1]
    simp only [strOfNums, List.map_cons, List.map_nil, lowA r (by omega)]
  rw [if_neg (by omega), if_neg h1]
  by_cases h2 : r < 2048
  · rw [if_pos (by omega), if_pos h2]
    simp only [strOfNums, List.map_cons, List.map_nil]
    exact congrArg (fun l : List UInt8 => some (⟨l.toArray⟩ : ByteArray)) (l2 (lowK 192 192 (r / 64) rfl (by omega)) (lowK 128 128 (r % 64) rfl (by omega)))
  rw [if_neg (by omega), if_neg h2]
  by_cases h3 : r < 65536
  · rw [if_pos (by omega), if_pos h3]
    simp only [strOfNums, List.map_cons, List.map_nil]
    exact congrArg (fun l : List UInt8 => some (⟨l.toArray⟩ : ByteArray)) (l3 (lowK 224 224 (r / 4096) rfl (by omega)) (lowK 128 128 (r / 64 % 64) rfl (by omega)) (lowK 128 128 (r % 64) rfl (by omega)))
  · rw [if_neg (by omega), if_neg h3]
    simp only [strOfNums, List.map_cons, List.map_nil]
    exact congrArg (fun l : List UInt8 => some (⟨l.toArray⟩ : ByteArray)) (l4 (lowK 240 240 (r / 262144) rfl (by omega)) (lowK 128 128 (r / 4096 % 64) rfl (by omega)) (lowK 128 128 (r / 64 % 64) rfl (by omega)) (lowK 128 128 (r % 64) rfl (by omega)))
theorem num_step (k : Nat) (x : ByteArray) (a j : Nat) (hj : j < x.size) (ha : a < 1000000) (hs : x.size < 100) :
    bureauref02_number.l0 (k + 1) x (a : Int) (j : Int) = bureauref02_number.l0 k x ((a * 64 + gb x j % 64 : Nat) : Int) ((j + 1 : Nat) : Int) := by
  have hb := gb_lt x j
  rw [bureauref02_number.l0, if_pos (by omega), if_pos (by omega), bt_gb x j hj, wrapN (gb x j) (by omega)]
  have e : Int.tmod ((gb x j : Nat) : Int) 64 = ((gb x j % 64 : Nat) : Int) := rfl
  rw [e]
  congr 1
  · unfold wrap64
    omega
  · unfold wrap64
    omega
theorem num_end (k : Nat) (x : ByteArray) (a : Int) : bureauref02_number.l0 (k + 1) x a (x.size : Int) = some a := by
  rw [bureauref02_number.l0, if_neg (by omega)]
theorem number_eq (k : Nat) (x : ByteArray) (n : Nat) (hn : x.size = n) (h1 : 1 ≤ n) (h4 : n ≤ 4) :
    bureauref02_number.f (k + 6) x = some ((numN n (gb x 0) (gb x 1) (gb x 2) (gb x 3) : Nat) : Int) := by
  have h0 := gb_lt x 0
  have e0 : wrap64 (bt x 0) = ((gb x 0 : Nat) : Int) := by rw [show (0 : Int) = ((0 : Nat) : Int) from rfl, bt_gb x 0 (by omega), wrapN _ (by omega)]
  unfold bureauref02_number.f
  rw [if_pos (by omega), e0]
  have e32 : Int.tmod ((gb x 0 : Nat) : Int) 32 = ((gb x 0 % 32 : Nat) : Int) := rfl
  have e16 : Int.tmod ((gb x 0 : Nat) : Int) 16 = ((gb x 0 % 16 : Nat) : Int) := rfl
  have e8 : Int.tmod ((gb x 0 : Nat) : Int) 8 = ((gb x 0 % 8 : Nat) : Int) := rfl
  rw [e32, e16, e8]
  have e1 : (1 : Int) = ((1 : Nat) : Int) := rfl
  rcases (by omega : n = 1 ∨ n = 2 ∨ n = 3 ∨ n = 4) with hc | hc | hc | hc
  · rw [if_neg (by omega), if_neg (by omega), if_neg (by omega), bureauref02_number.j0]
    have := num_end (k + 4) x ((gb x 0 : Nat) : Int)
    rw [hn, hc] at this
    rw [e1, this, hc]
    rfl
  · rw [if_pos (by omega), bureauref02_number.j0, e1, num_step _ x _ 1 (by omega) (by omega) (by omega)]
    have := num_end (k + 3) x ((gb x 0 % 32 * 64 + gb x 1 % 64 : Nat) : Int)
    rw [hn, hc] at this
    rw [this, hc]
    rfl
  · rw [if_neg (by omega), if_pos (by omega), bureauref02_number.j0, e1, num_step _ x _ 1 (by omega) (by omega) (by omega), num_step _ x _ 2 (by omega) (by omega) (by omega)]
    have := num_end (k + 2) x (((gb x 0 % 16 * 64 + gb x 1 % 64) * 64 + gb x 2 % 64 : Nat) : Int)
    rw [hn, hc] at this
    rw [this, hc]
    rfl
  · rw [if_neg (by omega), if_neg (by omega), if_pos (by omega), bureauref02_number.j0, e1, num_step _ x _ 1 (by omega) (by omega) (by omega), num_step _ x _ 2 (by omega) (by omega) (by omega), num_step _ x _ 3 (by omega) (by omega) (by omega)]
    have := num_end (k + 1) x ((((gb x 0 % 8 * 64 + gb x 1 % 64) * 64 + gb x 2 % 64) * 64 + gb x 3 % 64 : Nat) : Int)
    rw [hn, hc] at this
    rw [this, hc]
    rfl
/-! 'one': the sign at a place. -/
theorem list_eq_gb {s : ByteArray} {i n r : Nat} (hn : i + n ≤ s.size) (h1 : 1 ≤ n) (h4 : n ≤ 4) (hr : r ≤ 1114111) :
    ((⟨((enc r).map UInt8.ofNat).toArray⟩ : ByteArray).toList = (s.extract i (i + n)).toList) ↔ enc r = [gb s i, gb s (i + 1), gb s (i + 2), gb s (i + 3)].take n := by
  rw [ByteArray.toList_eq, ByteArray.toList_eq, list_bytes (s.extract i (i + n)), size_ext s i n hn]
  have hm : (List.range n).map (fun j => (s.extract i (i + n)).get! j) = ([gb s i, gb s (i + 1), gb s (i + 2), gb s (i + 3)].take n).map UInt8.ofNat := by
    rw [List.map_congr_left (g := fun j => s.get! (i + j)) (fun j hj => get_ext s i n j hn (List.mem_range.1 hj))]
    have g0 (j : Nat) : UInt8.ofNat (gb s j) = s.get! j := by unfold gb; exact UInt8.ofNat_toNat
    rcases (by omega : n = 1 ∨ n = 2 ∨ n = 3 ∨ n = 4) with rfl | rfl | rfl | rfl <;> simp [List.range_succ, g0]
  rw [hm]
  have inj : ∀ (x y : List Nat), (∀ a ∈ x, a < 256) → (∀ a ∈ y, a < 256) → x.map UInt8.ofNat = y.map UInt8.ofNat → x = y := by
    intro x
    induction x with
    | nil => intro y _ _ h; cases y with | nil => rfl | cons a y => cases h
    | cons a x ih =>
      intro y hx hy h
      cases y with
      | nil => cases h
      | cons b y =>
        simp only [List.map_cons, List.cons.injEq] at h
        have hab := congrArg UInt8.toNat h.1
        rw [UInt8.toNat_ofNat', UInt8.toNat_ofNat'] at hab
        have ha := hx a (by simp)
        have hb := hy b (by simp)
        rw [ih y (fun a ha => hx a (by simp [ha])) (fun a ha => hy a (by simp [ha])) h.2]
        congr 1
        omega
  constructor
  · intro h
    refine inj _ _ (enc_lt hr) (fun a ha => ?_) h
    have := List.mem_of_mem_take ha
    simp only [List.mem_cons, List.not_mem_nil, or_false] at this
    have b0 := gb_lt s i
    have b1 := gb_lt s (i + 1)
    have b2 := gb_lt s (i + 2)
    have b3 := gb_lt s (i + 3)
    omega
  · intro h
    rw [h]
theorem one_step (k : Nat) (s : ByteArray) (i n : Nat) (hs : s.size < 1000000000) (h1 : 1 ≤ n) (h4 : n ≤ 4) (hn : i + n ≤ s.size) :
    bureauref02_one.l0 (k + 12) s (i : Int) (n : Int) =
      if okN n (gb s i) (gb s (i + 1)) (gb s (i + 2)) (gb s (i + 3)) = true then some ((i : Int), (n : Int), ((numN n (gb s i) (gb s (i + 1)) (gb s (i + 2)) (gb s (i + 3)) : Nat) : Int), true) else bureauref02_one.l0 (k + 10) s (i : Int) ((n + 1 : Nat) : Int) := by
  have hw : wrap64 ((s.size : Int) - (i : Int)) = (s.size : Int) - (i : Int) := wrapZ _ (by omega) (by omega)
  have hw2 : wrap64 ((i : Int) + (n : Int)) = ((i + n : Nat) : Int) := by rw [wrapZ _ (by omega) (by omega)]; omega
  have hw3 : wrap64 ((n : Int) + 1) = ((n + 1 : Nat) : Int) := by rw [wrapZ _ (by omega) (by omega)]; omega
  have c4 : (n : Int) ≤ 4 := by omega
  have cd : decide ((n : Int) ≤ (s.size : Int) - (i : Int)) = true := decide_eq_true (by omega)
  have ci : (0 : Int) ≤ (i : Int) := by omega
  have cn : (i : Int) ≤ ((i + n : Nat) : Int) := by omega
  have cs : ((i + n : Nat) : Int) ≤ (s.size : Int) := by omega
  rw [bureauref02_one.l0, if_pos c4, hw, cd, bureauref02_one.j1, if_pos rfl, if_pos ci, hw2, if_pos cn, if_pos cs, hw3, Int.toNat_natCast, Int.toNat_natCast]
  clear hw hw2 hw3 c4 cd ci cn cs
  have hx := size_ext s i n hn
  have hlt0 := gb_lt (s.extract i (i + n)) 0
  rw [number_eq (k + 4) (s.extract i (i + n)) n hx h1 h4, Option.bind_some]
  have hg (j : Nat) (hj : j < n) : gb (s.extract i (i + n)) j = gb s (i + j) := by unfold gb; rw [get_ext s i n j hn hj]
  have hg0 : gb (s.extract i (i + n)) 0 = gb s i := hg 0 (by omega)
  have hnum : numN n (gb (s.extract i (i + n)) 0) (gb (s.extract i (i + n)) 1) (gb (s.extract i (i + n)) 2) (gb (s.extract i (i + n)) 3) = numN n (gb s i) (gb s (i + 1)) (gb s (i + 2)) (gb s (i + 3)) := by
    rcases (by omega : n = 1 ∨ n = 2 ∨ n = 3 ∨ n = 4) with rfl | rfl | rfl | rfl
    · rw [num1, num1, hg0]
    · rw [num2, num2, hg0, hg 1 (by omega)]
    · rw [num3, num3, hg0, hg 1 (by omega), hg 2 (by omega)]
    · rw [num4, num4, hg0, hg 1 (by omega), hg 2 (by omega), hg 3 (by omega)]
  rw [hnum]
  generalize hr : numN n (gb s i) (gb s (i + 1)) (gb s (i + 2)) (gb s (i + 3)) = r
  rw [may_eq, Option.bind_some]
  unfold okN
  rw [hr]
  cases hm : mayN r with
  | false => simp
  | true =>
    have hr2 : r ≤ 1114111 := by simp [mayN] at hm; omega
    rw [if_pos rfl, bytes_eq hr2, Option.bind_some]
    have hl := list_eq_gb (r := r) hn h1 h4 hr2
    by_cases he : enc r = [gb s i, gb s (i + 1), gb s (i + 2), gb s (i + 3)].take n
    · rw [if_pos (hl.2 he), if_pos (by simp [he])]
    · rw [if_neg (fun h => he (hl.1 h)), if_neg (by simp [he])]
theorem one_last (k : Nat) (s : ByteArray) (i n : Nat) (hs : s.size < 1000000000) (hi : i < s.size) (hn : 4 < n ∨ s.size < i + n) :
    bureauref02_one.l0 (k + 2) s (i : Int) (n : Int) = some ((i : Int), 1, 65533, false) := by
  have hw : wrap64 ((s.size : Int) - (i : Int)) = (s.size : Int) - (i : Int) := wrapZ _ (by omega) (by omega)
  rw [bureauref02_one.l0]
  by_cases h4 : n ≤ 4
  · rw [if_pos (by omega), hw, decide_eq_false (by omega), bureauref02_one.j1, if_neg (by decide)]
  · rw [if_neg (by omega), bureauref02_one.j1, if_neg (by decide)]
theorem one_eq (k : Nat) (s : ByteArray) (i : Nat) (hs : s.size < 1000000000) (hi : i < s.size) :
    bureauref02_one.f (k + 20) s (i : Int) = some ((i : Int), (((Utf8.decode s i).2 : Nat) : Int), (((Utf8.decode s i).1 : Nat) : Int), whole (0, Utf8.decode s i)) := by
  have b0 := gb_lt s i
  have b1 := gb_lt s (i + 1)
  have b2 := gb_lt s (i + 2)
  have b3 := gb_lt s (i + 3)
  have hd : Utf8.decode s i = Lib.decodeN (s.size - i) (gb s i) (gb s (i + 1)) (gb s (i + 2)) (gb s (i + 3)) := Lib.decode_at s i
  have hf := first_decode (m := s.size - i) b0 b1 b2 b3
  rw [← hd] at hf
  have h1 := congrArg (fun x : Nat × Nat × Bool => x.1) hf
  have h2 := congrArg (fun x : Nat × Nat × Bool => x.2.1) hf
  have h3 := congrArg (fun x : Nat × Nat × Bool => x.2.2) hf
  simp only at h1 h2 h3
  rw [← h1, ← h2, ← h3]
  clear h1 h2 h3 hf hd
  unfold bureauref02_one.f firstOk
  rw [show (1 : Int) = ((1 : Nat) : Int) from rfl, one_step (k + 8) s i 1 hs (by omega) (by omega) (by omega)]
  split
  · rfl
  by_cases m2 : i + 2 ≤ s.size
  · rw [one_step (k + 6) s i 2 hs (by omega) (by omega) m2]
    split
    · rw [if_pos ⟨by omega, by assumption⟩]
    rw [if_neg (fun h => by rename_i h' ; exact h' h.2)]
    by_cases m3 : i + 3 ≤ s.size
    · rw [one_step (k + 4) s i 3 hs (by omega) (by omega) m3]
      split
      · rw [if_pos ⟨by omega, by assumption⟩]
      rw [if_neg (fun h => by rename_i h' ; exact h' h.2)]
      by_cases m4 : i + 4 ≤ s.size
      · rw [one_step (k + 2) s i 4 hs (by omega) (by omega) m4]
        split
        · rw [if_pos ⟨by omega, by assumption⟩]
        rw [if_neg (fun h => by rename_i h' ; exact h' h.2), one_last (k + 10) s i 5 hs hi (by omega)]
        rfl
      · rw [one_last (k + 12) s i 4 hs hi (by omega), if_neg (by omega)]
        rfl
    · rw [one_last (k + 14) s i 3 hs hi (by omega), if_neg (by omega), if_neg (by omega)]
      rfl
  · rw [one_last (k + 16) s i 2 hs hi (by omega), if_neg (by omega), if_neg (by omega), if_neg (by omega)]
    rfl
/-- A sign, as the document has it. -/
def sig (x : Nat × Nat × Nat) : S54 := ⟨(x.1 : Int), (x.2.2 : Int), (x.2.1 : Int), whole x⟩
theorem whole_at (i j : Nat) (d : Nat × Nat) : whole (i, d) = whole (j, d) := rfl
theorem signs_loop (s : ByteArray) (hs : s.size < 1000000) : ∀ (b k i : Nat) (acc : List S54), s.size ≤ i + b → i ≤ s.size → acc.length ≤ i →
    bureauref02_Signs.l0 (b + k + 22) s acc (i : Int) = some (acc ++ (scan s b i).map sig) := by
  intro b
  induction b with
  | zero =>
    intro k i acc h hi ha
    rw [show (0 + k + 22 : Nat) = (k + 21) + 1 by omega, bureauref02_Signs.l0, if_neg (by omega)]
    simp [scan]
  | succ b ih =>
    intro k i acc h hi ha
    rw [show (b + 1 + k + 22 : Nat) = (b + k + 22) + 1 by omega, bureauref02_Signs.l0]
    by_cases hc : i < s.size
    · have hw := width_pos s i hc
      have hf := width_fits s i hc
      have h4 := width_le4 s i
      rw [if_pos (by omega), show b + k + 22 = (b + k + 2) + 20 by omega, one_eq (b + k + 2) s i (by omega) hc, Option.bind_some]
      have hlen : acc.length < 4398046511104 := by omega
      rw [if_pos hlen]
      have hw64 : wrap64 ((i : Int) + (((Utf8.decode s i).2 : Nat) : Int)) = ((i + (Utf8.decode s i).2 : Nat) : Int) := by rw [wrapZ _ (by omega) (by omega)]; omega
      simp only []
      rw [hw64, show b + k + 2 + 20 = b + k + 22 by omega, ih k _ _ (by omega) hf (by simp; omega), scan, if_pos hc, List.append_assoc]
      rfl
    · rw [if_neg (by omega), scan, if_neg hc]
      simp
theorem signs_eq (s : ByteArray) (hs : s.size < 1000000) (k : Nat) : bureauref02_Signs.f (s.size + k + 22) s = some ((scan s s.size 0).map sig) := by
  unfold bureauref02_Signs.f
  have := signs_loop s hs s.size k 0 [] (by omega) (by omega) (by simp)
  rw [show (0 : Int) = ((0 : Nat) : Int) from rfl, this]
  rfl
theorem rd_T54_nat (xs : List S54) (i : Nat) (h : i < xs.length) : rd_T54 xs (i : Int) = xs[i] := by
  unfold rd_T54
  rw [Int.toNat_natCast, List.getD_eq_getElem?_getD, List.getElem?_eq_getElem h]
  rfl
theorem starts_loop (xs : List S54) (hx : xs.length < 1000000) : ∀ (n k i : Nat) (acc : List Int), xs.length ≤ i + n → i ≤ xs.length → acc.length = i →
    bureauref02_Starts.l0 (n + k + 1) xs acc (i : Int) = some (acc ++ (xs.drop i).map (fun x => x.f0)) := by
  intro n
  induction n with
  | zero =>
    intro k i acc h hi ha
    rw [show (0 + k + 1 : Nat) = k + 1 by omega, bureauref02_Starts.l0, if_neg (by omega), List.drop_of_length_le (by omega)]
    simp
  | succ n ih =>
    intro k i acc h hi ha
    rw [show (n + 1 + k + 1 : Nat) = (n + k + 1) + 1 by omega, bureauref02_Starts.l0]
    by_cases hc : i < xs.length
    · rw [if_pos (by omega), if_pos (by omega), if_pos (by omega), rd_T54_nat xs i hc]
      have hw : wrap64 ((i : Int) + 1) = ((i + 1 : Nat) : Int) := by rw [wrapZ _ (by omega) (by omega)]; omega
      rw [hw, ih k _ _ (by omega) (by omega) (by simp; omega), List.drop_eq_getElem_cons hc, List.append_assoc]
      rfl
    · rw [if_neg (by omega), List.drop_of_length_le (by omega)]
      simp
theorem starts_eq (s : ByteArray) (hs : s.size < 1000000) (k : Nat) : bureauref02_Starts.f (s.size + k + 22) s = some ((scan s s.size 0).map fun x => (x.1 : Int)) := by
  unfold bureauref02_Starts.f
  have hl := scan_len s s.size 0
  rw [signs_eq s hs k, Option.bind_some]
  have := starts_loop ((scan s s.size 0).map sig) (by simp; omega) s.size (k + 21) 0 [] (by simp; omega) (by omega) rfl
  rw [show s.size + k + 22 = s.size + (k + 21) + 1 by omega, show (0 : Int) = ((0 : Nat) : Int) from rfl, this, List.drop_zero, List.map_map]
  rfl
theorem which_loop {s : ByteArray} {n j : Nat} (h : Signs s n) (hs : s.size < 1000000) {a : Int} (ha : At s n a j) (xs : List S54) (hx : xs = (List.range n).map (fun t => sig (st s t, Utf8.decode s (st s t)))) :
    ∀ (c k i : Nat), j ≤ i + c → i ≤ j → bureauref02_which.l0 (c + k + 1) xs a (i : Int) = some (j : Int) := by
  have hlen : xs.length = n := by rw [hx]; simp
  have hn := h.le
  obtain ⟨hj, h1, h2, h3⟩ := ha
  have hat (i : Nat) (hi : i < n) : rd_T54 xs (i : Int) = sig (st s i, Utf8.decode s (st s i)) := by
    rw [rd_T54_nat xs i (by omega)]
    subst hx
    simp
  have hsum (i : Nat) (hi : i < n) : wrap64 ((sig (st s i, Utf8.decode s (st s i))).f0 + (sig (st s i, Utf8.decode s (st s i))).f1) = ((st s (i + 1) : Nat) : Int) := by
    have := h.le_size (show i + 1 ≤ n by omega)
    simp only [sig, st] at this ⊢
    rw [wrapZ _ (by omega) (by omega)]
    omega
  have stop (k : Nat) : bureauref02_which.l0 (k + 1) xs a (j : Int) = some (j : Int) := by
    rw [bureauref02_which.l0]
    by_cases hc : j < n
    · rw [if_pos (by omega), if_pos (by omega), hat j hc, hsum j hc, if_pos]
      have := h.step hc
      by_cases h0 : a < 0
      · omega
      · by_cases hz : a < (s.size : Int)
        · have := h2 (by omega) hz
          omega
        · have := h3 (by omega)
          omega
    · rw [if_neg (by omega), hlen]
      congr 1
      omega
  intro c
  induction c with
  | zero =>
    intro k i hc hi
    obtain rfl : i = j := by omega
    exact stop _
  | succ c ih =>
    intro k i hc hi
    by_cases he : i = j
    · subst he
      exact stop _
    · rw [show c + 1 + k + 1 = (c + k + 1) + 1 by omega, bureauref02_which.l0, if_pos (by omega), if_pos (by omega), hat i (by omega), hsum i (by omega), if_neg]
      · have hw : wrap64 ((i : Int) + 1) = ((i + 1 : Nat) : Int) := by rw [wrapZ _ (by omega) (by omega)]; omega
        rw [hw]
        exact ih k (i + 1) (by omega) (by omega)
      · have hm := st_mono s (show i + 1 ≤ j by omega)
        have := h.le_size hj
        by_cases h0 : a < 0
        · have := h1 h0
          omega
        · by_cases hz : a < (s.size : Int)
          · have := h2 (by omega) hz
            omega
          · omega
theorem map_sig {s : ByteArray} {n : Nat} (h : Signs s n) : (scan s s.size 0).map sig = (List.range n).map (fun t => sig (st s t, Utf8.decode s (st s t))) := by
  rw [h.eq, List.map_map]
  rfl
theorem which_eq {s : ByteArray} {n j : Nat} (h : Signs s n) (hs : s.size < 1000000) {a : Int} (ha : At s n a j) (k : Nat) : bureauref02_which.f (s.size + k + 1) ((scan s s.size 0).map sig) a = some (j : Int) := by
  have hn := h.le
  have hj := ha.1
  unfold bureauref02_which.f
  rw [map_sig h]
  exact which_loop h hs ha _ rfl s.size k 0 (by omega) (by omega)
theorem begins_eq {s : ByteArray} {n i : Nat} (h : Signs s n) (hs : s.size < 1000000) : bureauref02_begins.f s ((scan s s.size 0).map sig) (i : Int) = some (if i < n then ((st s i : Nat) : Int) else (s.size : Int)) := by
  unfold bureauref02_begins.f
  have hlen : ((scan s s.size 0).map sig).length = n := by rw [map_sig h]; simp
  rw [if_pos (by omega), hlen]
  by_cases hc : i < n
  · rw [if_pos (by omega), if_pos (by omega), if_pos hc, rd_T54_nat _ i (by omega)]
    simp only [map_sig h, List.getElem_map, List.getElem_range]
    rfl
  · rw [if_neg (by omega), if_neg hc]
theorem r02align_eq (s : ByteArray) (hs : s.size < 1000000) (a : Int) (k : Nat) : bureauref02_Align.f (s.size + k + 22) s a = some (alignZ s a : Int) := by
  obtain ⟨n, h⟩ := signs_ex s
  obtain ⟨j, ha⟩ := At.ex h a
  have hj := ha.1
  unfold bureauref02_Align.f
  have hW : bureauref02_which.f (s.size + k + 22) ((scan s s.size 0).map sig) a = some (j : Int) := which_eq h hs ha (k + 21)
  rw [signs_eq s hs k, Option.bind_some, hW, Option.bind_some, begins_eq h hs, Option.bind_some, alignZ_eq h ha]
  by_cases hc : j < n
  · rw [if_pos hc]
  · rw [if_neg hc, show j = n by omega, h.last]
theorem decN_1 {n b0 b1 b2 b3 : Nat} (h : b0 < 128) : Lib.decodeN n b0 b1 b2 b3 = (b0, 1) := by
  unfold Lib.decodeN
  rw [if_pos h]
theorem decN_2 {n b0 b1 b2 b3 : Nat} (h : b0 / 32 = 6) (hn : 1 < n) (h1 : b1 / 64 = 2) (hv : 128 ≤ b0 % 32 * 64 + b1 % 64) : Lib.decodeN n b0 b1 b2 b3 = (b0 % 32 * 64 + b1 % 64, 2) := by
  have c1 : ¬ b0 < 128 := by omega
  have c2 : b0 / 32 = 6 ∧ (1 < n ∧ b1 / 64 = 2) := ⟨h, hn, h1⟩
  unfold Lib.decodeN
  rw [if_neg c1, if_pos c2, if_pos hv]
theorem decN_3 {n b0 b1 b2 b3 : Nat} (h : b0 / 16 = 14) (hn : 2 < n) (h1 : b1 / 64 = 2) (h2 : b2 / 64 = 2) (hv : 2048 ≤ b0 % 16 * 4096 + b1 % 64 * 64 + b2 % 64)
    (hs : b0 % 16 * 4096 + b1 % 64 * 64 + b2 % 64 < 55296 ∨ 57344 ≤ b0 % 16 * 4096 + b1 % 64 * 64 + b2 % 64) : Lib.decodeN n b0 b1 b2 b3 = (b0 % 16 * 4096 + b1 % 64 * 64 + b2 % 64, 3) := by
  have c1 : ¬ b0 < 128 := by omega
  have c2 : ¬ (b0 / 32 = 6 ∧ (1 < n ∧ b1 / 64 = 2)) := by omega
  have c3 : b0 / 16 = 14 ∧ (1 < n ∧ b1 / 64 = 2) ∧ (2 < n ∧ b2 / 64 = 2) := ⟨h, ⟨by omega, h1⟩, hn, h2⟩
  have c4 : b0 % 16 * 4096 + b1 % 64 * 64 + b2 % 64 ≥ 2048 ∧ (b0 % 16 * 4096 + b1 % 64 * 64 + b2 % 64 < 55296 ∨ (57344 ≤ b0 % 16 * 4096 + b1 % 64 * 64 + b2 % 64 ∧ b0 % 16 * 4096 + b1 % 64 * 64 + b2 % 64 ≤ 1114111)) := ⟨hv, by omega⟩
  unfold Lib.decodeN
  rw [if_neg c1, if_neg c2, if_pos c3, if_pos c4]
theorem decN_4 {n b0 b1 b2 b3 : Nat} (h : b0 / 8 = 30) (hn : 3 < n) (h1 : b1 / 64 = 2) (h2 : b2 / 64 = 2) (h3 : b3 / 64 = 2) (hv : 65536 ≤ b0 % 8 * 262144 + b1 % 64 * 4096 + b2 % 64 * 64 + b3 % 64)
    (hs : b0 % 8 * 262144 + b1 % 64 * 4096 + b2 % 64 * 64 + b3 % 64 ≤ 1114111) : Lib.decodeN n b0 b1 b2 b3 = (b0 % 8 * 262144 + b1 % 64 * 4096 + b2 % 64 * 64 + b3 % 64, 4) := by
  have c1 : ¬ b0 < 128 := by omega
  have c2 : ¬ (b0 / 32 = 6 ∧ (1 < n ∧ b1 / 64 = 2)) := by omega
  have c3 : ¬ (b0 / 16 = 14 ∧ (1 < n ∧ b1 / 64 = 2) ∧ (2 < n ∧ b2 / 64 = 2)) := by omega
  have c4 : b0 / 8 = 30 ∧ (1 < n ∧ b1 / 64 = 2) ∧ (2 < n ∧ b2 / 64 = 2) ∧ (3 < n ∧ b3 / 64 = 2) := ⟨h, ⟨by omega, h1⟩, ⟨by omega, h2⟩, hn, h3⟩
  have c5 : b0 % 8 * 262144 + b1 % 64 * 4096 + b2 % 64 * 64 + b3 % 64 ≥ 65536 ∧ (b0 % 8 * 262144 + b1 % 64 * 4096 + b2 % 64 * 64 + b3 % 64 < 55296 ∨ (57344 ≤ b0 % 8 * 262144 + b1 % 64 * 4096 + b2 % 64 * 64 + b3 % 64 ∧ b0 % 8 * 262144 + b1 % 64 * 4096 + b2 % 64 * 64 + b3 % 64 ≤ 1114111)) := ⟨hv, by omega⟩
  unfold Lib.decodeN
  rw [if_neg c1, if_neg c2, if_neg c3, if_pos c4, if_pos c5]
theorem decN_shape (n b0 b1 b2 b3 : Nat) :
    (b0 < 128 ∧ Lib.decodeN n b0 b1 b2 b3 = (b0, 1)) ∨
    (b0 / 32 = 6 ∧ 1 < n ∧ b1 / 64 = 2 ∧ 128 ≤ b0 % 32 * 64 + b1 % 64 ∧ Lib.decodeN n b0 b1 b2 b3 = (b0 % 32 * 64 + b1 % 64, 2)) ∨
    (b0 / 16 = 14 ∧ 2 < n ∧ b1 / 64 = 2 ∧ b2 / 64 = 2 ∧ 2048 ≤ b0 % 16 * 4096 + b1 % 64 * 64 + b2 % 64 ∧ (b0 % 16 * 4096 + b1 % 64 * 64 + b2 % 64 < 55296 ∨ 57344 ≤ b0 % 16 * 4096 + b1 % 64 * 64 + b2 % 64) ∧
      Lib.decodeN n b0 b1 b2 b3 = (b0 % 16 * 4096 + b1 % 64 * 64 + b2 % 64, 3)) ∨
    (b0 / 8 = 30 ∧ 3 < n ∧ b1 / 64 = 2 ∧ b2 / 64 = 2 ∧ b3 / 64 = 2 ∧ 65536 ≤ b0 % 8 * 262144 + b1 % 64 * 4096 + b2 % 64 * 64 + b3 % 64 ∧ b0 % 8 * 262144 + b1 % 64 * 4096 + b2 % 64 * 64 + b3 % 64 ≤ 1114111 ∧
      Lib.decodeN n b0 b1 b2 b3 = (b0 % 8 * 262144 + b1 % 64 * 4096 + b2 % 64 * 64 + b3 % 64, 4)) ∨
    Lib.decodeN n b0 b1 b2 b3 = (65533, 1) := by
  unfold Lib.decodeN
  repeat' split
  all_goals first
    | (left; exact ⟨by assumption, by rfl⟩)
    | (right; left; exact ⟨by omega, by omega, by omega, by omega, by rfl⟩)
    | (right; right; left; exact ⟨by omega, by omega, by omega, by omega, by omega, by omega, by rfl⟩)
    | (right; right; right; left; exact ⟨by omega, by omega, by omega, by omega, by omega, by omega, by omega, by rfl⟩)
    | (right; right; right; right; rfl)
/-- A sign that fits stays what it is when the text is cut behind it. -/
theorem decN_cut {m m' b0 b1 b2 b3 c1 c2 c3 : Nat} (hm : 1 ≤ m) (hmm : m ≤ m') (e1 : 1 < m → b1 = c1) (e2 : 2 < m → b2 = c2) (e3 : 3 < m → b3 = c3)
    (hw : (Lib.decodeN m' b0 c1 c2 c3).2 ≤ m) : Lib.decodeN m b0 b1 b2 b3 = Lib.decodeN m' b0 c1 c2 c3 := by
  rcases decN_shape m' b0 c1 c2 c3 with ⟨h0, h⟩ | ⟨h0, hn, h1, hv, h⟩ | ⟨h0, hn, h1, h2, hv, hs, h⟩ | ⟨h0, hn, h1, h2, h3, hv, hs, h⟩ | h
  · rw [h, decN_1 h0]
  · rw [h] at hw ⊢
    have hw : 2 ≤ m := hw
    have e1 := e1 (by omega)
    subst e1
    rw [decN_2 h0 (by omega) h1 hv]
  · rw [h] at hw ⊢
    have hw : 3 ≤ m := hw
    have e1 := e1 (by omega)
    have e2 := e2 (by omega)
    subst e1 e2
    rw [decN_3 h0 (by omega) h1 h2 hv hs]
  · rw [h] at hw ⊢
    have hw : 4 ≤ m := hw
    have e1 := e1 (by omega)
    have e2 := e2 (by omega)
    have e3 := e3 (by omega)
    subst e1 e2 e3
    rw [decN_4 h0 (by omega) h1 h2 h3 hv hs]
  · have key : ∀ x, Lib.decodeN m' b0 c1 c2 c3 = x → Lib.decodeN m b0 b1 b2 b3 = x → Lib.decodeN m b0 b1 b2 b3 = Lib.decodeN m' b0 c1 c2 c3 := fun x h1 h2 => by rw [h1, h2]
    rcases decN_shape m b0 b1 b2 b3 with ⟨g0, g⟩ | ⟨g0, gn, g1, gv, g⟩ | ⟨g0, gn, g1, g2, gv, gs, g⟩ | ⟨g0, gn, g1, g2, g3, gv, gs, g⟩ | g
    · exact key _ (decN_1 g0) g
    · have e1 := e1 (by omega)
      subst e1
      exact key _ (decN_2 g0 (by omega) g1 gv) g
    · have e1 := e1 (by omega)
      have e2 := e2 (by omega)
      subst e1 e2
      exact key _ (decN_3 g0 (by omega) g1 g2 gv gs) g
    · have e1 := e1 (by omega)
      have e2 := e2 (by omega)
      have e3 := e3 (by omega)
      subst e1 e2 e3
      exact key _ (decN_4 g0 (by omega) g1 g2 g3 gv gs) g
    · rw [g, h]
theorem dec_cut (s : ByteArray) (p q i : Nat) (h : q ≤ s.size) (hp : p ≤ q) (hi : i < q - p) (hw : p + i + (Utf8.decode s (p + i)).2 ≤ q) : Utf8.decode (s.extract p q) i = Utf8.decode s (p + i) := by
  have h1 : Utf8.decode (s.extract p q) i = Lib.decodeN ((s.extract p q).size - i) (gb (s.extract p q) i) (gb (s.extract p q) (i + 1)) (gb (s.extract p q) (i + 2)) (gb (s.extract p q) (i + 3)) := Lib.decode_at _ _
  have h2 : Utf8.decode s (p + i) = Lib.decodeN (s.size - (p + i)) (gb s (p + i)) (gb s (p + i + 1)) (gb s (p + i + 2)) (gb s (p + i + 3)) := Lib.decode_at _ _
  have hz := size_sub s p q h hp
  rw [h2] at hw
  rw [h1, h2, gb_sub s p q i h hp hi]
  exact decN_cut (by omega) (by omega) (fun hh => gb_sub s p q (i + 1) h hp (by omega)) (fun hh => gb_sub s p q (i + 2) h hp (by omega)) (fun hh => gb_sub s p q (i + 3) h hp (by omega)) (by omega)
/-- As many signs lie between two places where signs begin as their numbers say. -/
theorem sub_len {s : ByteArray} {n a m : Nat} (h : Signs s n) (ha : a ≤ m) (hm : m ≤ n) : (sub s (st s a) (st s m)).length = m - a := by
  have h1 := st_mono s ha
  have h2 := h.le_size hm
  obtain ⟨c, hc⟩ := signs_ex (s.extract (st s a) (st s m))
  have hz := size_sub s _ _ h2 h1
  have hst : ∀ t, a + t ≤ m → st s (a + t) = st s a + st (s.extract (st s a) (st s m)) t := by
    intro t
    induction t with
    | zero => intro _; rfl
    | succ t ih =>
      intro ht
      have e := ih (by omega)
      have hs := h.step (t := a + t) (by omega)
      have hmm := st_mono s (show a + t + 1 ≤ m by omega)
      have hlt : st (s.extract (st s a) (st s m)) t < st s m - st s a := by omega
      have hd := dec_cut s (st s a) (st s m) (st (s.extract (st s a) (st s m)) t) h2 h1 hlt (by rw [← e]; exact hmm)
      show st s (a + t) + (Utf8.decode s (st s (a + t))).2 = st s a + (st (s.extract (st s a) (st s m)) t + (Utf8.decode (s.extract (st s a) (st s m)) (st (s.extract (st s a) (st s m)) t)).2)
      rw [hd, e, Nat.add_assoc]
  have hcm : c = m - a := by
    rcases Nat.lt_trichotomy c (m - a) with hh | hh | hh
    · exfalso
      have e := hst c (by omega)
      rw [hc.last, hz] at e
      have h3 := h.step (t := a + c) (by omega)
      have h4 := st_mono s (show a + c + 1 ≤ m by omega)
      omega
    · exact hh
    · exfalso
      have h3 := hc.lt (m - a) hh
      have e := hst (m - a) (by omega)
      rw [show a + (m - a) = m by omega] at e
      omega
  unfold sub
  rw [hc.len, hcm]
/-- The numbers of the signs between two places: one is below the other when its place is. -/
theorem st_lt {s : ByteArray} {n a b : Nat} (h : Signs s n) (ha : a ≤ n) (hb : b ≤ n) (hlt : st s a ≤ st s b) : a ≤ b := by
  rcases Nat.lt_or_ge b a with hh | hh
  · exfalso
    have h1 := h.step (t := b) (by omega)
    have h2 := st_mono s (show b + 1 ≤ a by omega)
    omega
  · exact hh
theorem rends_loop (s : ByteArray) (hs : s.size < 1000000) : ∀ (c i k : Nat) (acc : List Int), i + c = s.size → acc.length ≤ i →
    bureauref06_Ends.l0 (c + k + 1) s acc (i : Int) = some (acc ++ (eL (s.data.toList.drop i) i).map (fun x : Nat => (x : Int))) := by
  intro c
  induction c with
  | zero =>
    intro i k acc hi ha
    have hlen : acc.length < 17592186044416 := by omega
    rw [show 0 + k + 1 = k + 1 by omega, bureauref06_Ends.l0, if_neg (by omega), if_pos hlen, List.drop_of_length_le (by rw [← size_list]; omega)]
    show _ = some (acc ++ [(i : Int)])
    rw [show s.size = i by omega]
  | succ c ih =>
    intro i k acc hi ha
    have hlen : acc.length < 17592186044416 := by omega
    have hlt : i < s.data.toList.length := by rw [← size_list]; omega
    have hw : wrap64 ((i : Int) + 1) = ((i + 1 : Nat) : Int) := by rw [wrapZ _ (by omega) (by omega)]; omega
    have hgb := gb_list s i _ (List.getElem?_eq_getElem hlt)
    rw [show c + 1 + k + 1 = (c + k + 1) + 1 by omega, bureauref06_Ends.l0, if_pos (by omega), if_pos (by omega), bt_gb s i (by omega), hgb, if_pos hlen, hw, List.drop_eq_getElem_cons hlt]
    by_cases h10 : s.data.toList[i] = 10
    · rw [h10, eL_hit, if_pos (by decide), ih (i + 1) k _ (by omega) (by simp; omega), List.map_cons, List.append_assoc]
      rfl
    · have hne : ¬ ((s.data.toList[i].toNat : Nat) : Int) = 10 := by
        intro h
        apply h10
        apply UInt8.toNat_inj.1
        show s.data.toList[i].toNat = 10
        omega
      rw [if_neg hne, eL_miss h10, ih (i + 1) k _ (by omega) (by omega)]
def endsI (s : ByteArray) : List Int := (ends s).map (fun x : Nat => (x : Int))
theorem endsI_len (s : ByteArray) : (endsI s).length = nE s := by unfold endsI nE; simp
theorem rends_eq (s : ByteArray) (hs : s.size < 1000000) (k : Nat) : bureauref06_Ends.f (s.size + k + 1) s = some (endsI s) := by
  unfold bureauref06_Ends.f
  have := rends_loop s hs s.size 0 k [] (by omega) (by simp)
  rw [show (0 : Int) = ((0 : Nat) : Int) from rfl, this]
  rfl
theorem endsI_get (s : ByteArray) (i : Nat) (h : i < nE s) : rd (endsI s) (i : Int) = ((bT s i : Nat) : Int) := by
  rw [rd_nat _ i (by rw [endsI_len]; exact h)]
  unfold endsI bT
  rw [List.getElem_map, List.getD_eq_getElem?_getD, List.getElem?_eq_getElem (show i < (ends s).length from h)]
  rfl
theorem rcount_eq (s : ByteArray) (hs : s.size < 1000000) (k : Nat) : bureauref06_Count.f (s.size + k + 1) s = some (nE s : Int) := by
  unfold bureauref06_Count.f
  rw [rends_eq s hs, Option.bind_some, endsI_len]
theorem rbounds_eq (s : ByteArray) (hs : s.size < 1000000) (n : Int) (k : Nat) : bureauref06_Bounds.f (s.size + k + 2) s n = some (boundsZ s n) := by
  have hn := nE_le s
  have hp := nE_pos s
  unfold bureauref06_Bounds.f boundsZ
  rw [show s.size + k + 2 = (s.size + (k + 1)) + 1 by omega, rends_eq s hs (k + 1), Option.bind_some, endsI_len]
  by_cases h0 : n < 0
  · rw [if_pos h0, bureauref06_Bounds.j0, if_pos rfl, if_neg (by omega)]
  rw [if_neg h0]
  by_cases h1 : n ≥ (nE s : Int)
  · rw [decide_eq_true h1, bureauref06_Bounds.j0, if_pos rfl, if_neg (by omega)]
  rw [decide_eq_false h1, bureauref06_Bounds.j0, if_neg (by decide), if_pos (c := 0 ≤ n ∧ _) (by omega)]
  obtain ⟨m, rfl⟩ : ∃ m : Nat, n = (m : Int) := ⟨n.toNat, by omega⟩
  rw [Int.toNat_natCast, endsI_len]
  cases m with
  | zero =>
    rw [if_pos (show ((0 : Nat) : Int) = 0 from rfl), if_pos (by omega), show (0 : Int) = ((0 : Nat) : Int) from rfl, endsI_get s 0 (by omega)]
    rfl
  | succ m =>
    have hw : wrap64 (((m + 1 : Nat) : Int) - 1) = (m : Int) := by rw [wrapZ _ (by omega) (by omega)]; omega
    have hle := bT_le s m (by unfold nE at *; omega)
    rw [if_neg (by omega), hw, if_pos (by omega), if_pos (by omega), if_pos (by omega), if_pos (by omega), endsI_get s m (by omega), endsI_get s (m + 1) (by omega), wrapZ _ (by omega) (by omega)]
    rfl
theorem rof_loop (s : ByteArray) (hs : s.size < 1000000) (a : Int) : ∀ (c i k n : Nat), i + c = s.size → n ≤ i →
    bureauref06_Of.l0 (c * 2 + k + 2) s a (n : Int) (i : Int) = some ((n + ((s.data.toList.drop i).take ((min a (s.size : Int)).toNat - i)).count 10 : Nat) : Int) := by
  intro c
  induction c with
  | zero =>
    intro i k n hi hn
    rw [show 0 * 2 + k + 2 = (k + 1) + 1 by omega, bureauref06_Of.l0, if_neg (by omega), bureauref06_Of.j1, if_neg (by decide), show (min a (s.size : Int)).toNat - i = 0 by omega, List.take_zero, List.count_nil]
    rfl
  | succ c ih =>
    intro i k n hi hn
    have hlt : i < s.data.toList.length := by rw [← size_list]; omega
    have hw : wrap64 ((i : Int) + 1) = ((i + 1 : Nat) : Int) := by rw [wrapZ _ (by omega) (by omega)]; omega
    have hwn : wrap64 ((n : Int) + 1) = ((n + 1 : Nat) : Int) := by rw [wrapZ _ (by omega) (by omega)]; omega
    have hgb := gb_list s i _ (List.getElem?_eq_getElem hlt)
    rw [show (c + 1) * 2 + k + 2 = (c * 2 + k + 2 + 1) + 1 by omega, bureauref06_Of.l0, if_pos (by omega)]
    by_cases ha : (i : Int) < a
    · have e1 : (min a (s.size : Int)).toNat - i = ((min a (s.size : Int)).toNat - (i + 1)) + 1 := by omega
      rw [decide_eq_true ha, bureauref06_Of.j1, if_pos rfl, if_pos (by omega), if_pos (by omega), bt_gb s i (by omega), hgb, hw, hwn, e1, List.drop_eq_getElem_cons hlt, List.take_succ_cons]
      by_cases h10 : s.data.toList[i] = 10
      · rw [h10, if_pos (by decide), ih (i + 1) k (n + 1) (by omega) (by omega), List.count_cons_self]
        congr 2
        omega
      · have hne : ¬ ((s.data.toList[i].toNat : Nat) : Int) = 10 := by
          intro h
          apply h10
          apply UInt8.toNat_inj.1
          show s.data.toList[i].toNat = 10
          omega
        rw [if_neg hne, ih (i + 1) k n (by omega) (by omega), List.count_cons_of_ne h10]
    · rw [decide_eq_false ha, bureauref06_Of.j1, if_neg (by decide), show (min a (s.size : Int)).toNat - i = 0 by omega, List.take_zero, List.count_nil]
      rfl
theorem rof_eq (s : ByteArray) (hs : s.size < 1000000) (a : Int) (k : Nat) : bureauref06_Of.f (s.size * 2 + k + 2) s a = some (ofZ s a : Int) := by
  unfold bureauref06_Of.f
  have := rof_loop s hs a s.size 0 k 0 (by omega) (by omega)
  rw [show (0 : Int) = ((0 : Nat) : Int) from rfl, this]
  unfold ofZ
  rw [List.drop_zero, Nat.sub_zero, Nat.zero_add, show (min a (s.size : Int)).toNat = (min (max a 0) (s.size : Int)).toNat by omega]
/-! ### the signs of a line -/
theorem filter_loop (xs : List Int) (lo hi : Int) (hx : xs.length < 1000000) : ∀ (c i k : Nat) (acc : List Int), i + c = xs.length → acc.length ≤ i →
    bureauref06_starts.l0 (c + k + 1) lo hi xs acc (i : Int) = some (acc ++ (xs.drop i).filter (fun x => decide (lo ≤ x ∧ x < hi))) := by
  intro c
  induction c with
  | zero =>
    intro i k acc hi' ha
    rw [show 0 + k + 1 = k + 1 by omega, bureauref06_starts.l0, if_neg (by omega), List.drop_of_length_le (by omega)]
    simp
  | succ c ih =>
    intro i k acc hi' ha
    have hlt : i < xs.length := by omega
    have hlen : acc.length < 17592186044416 := by omega
    have hw : wrap64 ((i : Int) + 1) = ((i + 1 : Nat) : Int) := by rw [wrapZ _ (by omega) (by omega)]; omega
    rw [show c + 1 + k + 1 = (c + k + 1) + 1 by omega, bureauref06_starts.l0, if_pos (by omega), if_pos (by omega), rd_nat xs i hlt, hw, if_pos hlen, List.drop_eq_getElem_cons hlt]
    by_cases h1 : xs[i] ≥ lo
    · by_cases h2 : xs[i] < hi
      · rw [if_pos h1, if_pos h2, ih (i + 1) k _ (by omega) (by simp; omega), List.filter_cons_of_pos (by simpa using ⟨h1, h2⟩), List.append_assoc]
        rfl
      · rw [if_pos h1, if_neg h2, ih (i + 1) k _ (by omega) (by omega), List.filter_cons_of_neg (by simp only [decide_eq_true_eq]; exact fun h => h2 h.2)]
    · rw [if_neg h1, ih (i + 1) k _ (by omega) (by omega), List.filter_cons_of_neg (by simp only [decide_eq_true_eq]; exact fun h => h1 h.1)]
def lineL (s : ByteArray) (a c : Nat) : List Int := (List.range c).map (fun t => ((st s (a + t) : Nat) : Int))
theorem filter_line {s : ByteArray} {n a c : Nat} (h : Signs s n) (hac : a + c ≤ n) :
    ((List.range n).map (fun t => ((st s t : Nat) : Int))).filter (fun x => decide ((st s a : Int) ≤ x ∧ x < (st s (a + c) : Int))) = lineL s a c := by
  obtain ⟨d, rfl⟩ : ∃ d, n = a + c + d := ⟨n - (a + c), by omega⟩
  rw [List.range_add, List.range_add, List.map_append, List.map_append, List.filter_append, List.filter_append, List.map_map, List.map_map]
  have f1 : ((List.range a).map (fun t => ((st s t : Nat) : Int))).filter (fun x => decide ((st s a : Int) ≤ x ∧ x < (st s (a + c) : Int))) = [] := by
    rw [List.filter_eq_nil_iff]
    intro x hx
    obtain ⟨t, ht, rfl⟩ := List.mem_map.1 hx
    have ht := List.mem_range.1 ht
    have h1 := h.step (t := t) (by omega)
    have h2 := st_mono s (show t + 1 ≤ a by omega)
    simp only [decide_eq_true_eq]
    omega
  have f3 : ((List.range d).map ((fun t => ((st s t : Nat) : Int)) ∘ fun x => a + c + x)).filter (fun x => decide ((st s a : Int) ≤ x ∧ x < (st s (a + c) : Int))) = [] := by
    rw [List.filter_eq_nil_iff]
    intro x hx
    obtain ⟨t, ht, rfl⟩ := List.mem_map.1 hx
    have h2 := st_mono s (show a + c ≤ a + c + t by omega)
    simp only [decide_eq_true_eq, Function.comp]
    omega
  have f2 : ((List.range c).map ((fun t => ((st s t : Nat) : Int)) ∘ fun x => a + x)).filter (fun x => decide ((st s a : Int) ≤ x ∧ x < (st s (a + c) : Int))) = (List.range c).map ((fun t => ((st s t : Nat) : Int)) ∘ fun x => a + x) := by
    rw [List.filter_eq_self]
    intro x hx
    obtain ⟨t, ht, rfl⟩ := List.mem_map.1 hx
    have ht := List.mem_range.1 ht
    have h1 := h.step (t := a + t) (by omega)
    have h2 := st_mono s (show a + t + 1 ≤ a + c by omega)
    have h3 := st_mono s (show a ≤ a + t by omega)
    simp only [decide_eq_true_eq, Function.comp]
    omega
  rw [f1, f2, f3, List.nil_append, List.append_nil]
  rfl
theorem rstarts_eq {s : ByteArray} {n q a c : Nat} (h : Signs s n) (hs : s.size < 1000000) (hq : q < nE s) (hl : LineSigns s n q a c) (k : Nat) : bureauref06_starts.f (s.size + k + 22) s (q : Int) = some (lineL s a c) := by
  have hn := h.le
  unfold bureauref06_starts.f
  have hB := rbounds_eq s hs (q : Int) (k + 20)
  have hz : boundsZ s (q : Int) = ((bF s q : Int), (bT s q : Int), 0) := by unfold boundsZ; rw [if_pos (by omega), Int.toNat_natCast]
  rw [show s.size + (k + 20) + 2 = s.size + k + 22 by omega, hz] at hB
  have hS := starts_eq s hs k
  rw [h.eq, List.map_map] at hS
  have hF := filter_loop ((List.range n).map (fun t => ((st s t : Nat) : Int))) (bF s q : Int) (bT s q : Int) (by simp; omega) n 0 (s.size + k + 21 - n) [] (by simp) (by simp)
  rw [show n + (s.size + k + 21 - n) + 1 = s.size + k + 22 by omega, List.drop_zero, List.nil_append, ← hl.from_, ← hl.to_, filter_line h hl.le] at hF
  rw [hB, Option.bind_some, hS, Option.bind_some, ← hl.from_, ← hl.to_]
  exact hF
theorem lineL_get (s : ByteArray) (a c i : Nat) (h : i < c) : rd (lineL s a c) (i : Int) = ((st s (a + i) : Nat) : Int) := by
  rw [rd_nat _ i (by unfold lineL; simpa using h)]
  unfold lineL
  rw [List.getElem_map, List.getElem_range]
theorem lineL_len (s : ByteArray) (a c : Nat) : (lineL s a c).length = c := by unfold lineL; simp
/-! ### Col -/
theorem col_loop {s : ByteArray} {n a c j : Nat} (h : Signs s n) (hac : a + c ≤ n) (hj : j ≤ n) (hja : a ≤ j) (hjc : j ≤ a + c) (hn : n < 1000000) : ∀ (d i k m : Nat), i + d = c → m = min i (j - a) →
    bureauref06_Col.l0 (d + k + 1) ((st s j : Nat) : Int) (lineL s a c) (m : Int) (i : Int) = some ((j - a : Nat) : Int) := by
  intro d
  induction d with
  | zero =>
    intro i k m hi hm
    rw [show 0 + k + 1 = k + 1 by omega, bureauref06_Col.l0, lineL_len, if_neg (by omega)]
    congr 1
    omega
  | succ d ih =>
    intro i k m hi hm
    have hw : wrap64 ((i : Int) + 1) = ((i + 1 : Nat) : Int) := by rw [wrapZ _ (by omega) (by omega)]; omega
    have hwm : wrap64 ((m : Int) + 1) = ((m + 1 : Nat) : Int) := by rw [wrapZ _ (by omega) (by omega)]; omega
    rw [show d + 1 + k + 1 = (d + k + 1) + 1 by omega, bureauref06_Col.l0, lineL_len, if_pos (by omega), if_pos (by omega), lineL_get s a c i (by omega), hw, hwm]
    by_cases hc : a + i < j
    · have h1 := h.step (t := a + i) (by omega)
      have h2 := st_mono s (show a + i + 1 ≤ j by omega)
      rw [if_pos (by omega)]
      exact ih (i + 1) k (m + 1) (by omega) (by omega)
    · have h2 := st_mono s (show j ≤ a + i by omega)
      rw [if_neg (by omega)]
      exact ih (i + 1) k m (by omega) (by omega)
theorem rcol_eq (s : ByteArray) (hs : s.size < 900000) (x : Int) (k : Nat) : bureauref06_Col.f (s.size * 2 + k + 22) s x = some (colZ s x : Int) := by
  obtain ⟨n, h⟩ := signs_ex s
  obtain ⟨j, ha⟩ := At.ex h x
  have hn := h.le
  have hj := ha.1
  have hal := alignZ_eq h ha
  have hle := h.le_size hj
  obtain ⟨o1, o2⟩ := ofZ_in s (st s j) hle
  have hq := ofZ_lt s (st s j : Int)
  have hcol : colZ s x = (sub s (bF s (ofZ s (st s j : Int))) (st s j)).length := by unfold colZ; rw [hal]
  have hA := r02align_eq s (by omega) x (s.size + k)
  rw [show s.size + (s.size + k) + 22 = s.size * 2 + k + 22 by omega, hal] at hA
  have hO := rof_eq s (by omega) (st s j : Int) (k + 20)
  rw [show s.size * 2 + (k + 20) + 2 = s.size * 2 + k + 22 by omega] at hO
  rw [hcol]
  generalize ofZ s (st s j : Int) = q at *
  obtain ⟨a, c, hl⟩ := line_signs h q hq
  have hac := hl.le
  have hS := rstarts_eq h (by omega) hq hl (s.size + k)
  rw [show s.size + (s.size + k) + 22 = s.size * 2 + k + 22 by omega] at hS
  have haj : a ≤ j := st_lt h (by omega) hj (by rw [hl.from_]; exact o1)
  have hjc : j ≤ a + c := st_lt h hj hac (by rw [hl.to_]; exact o2)
  have hlen := sub_len h haj hj
  rw [hl.from_] at hlen
  have hC := col_loop h hac hj haj hjc (by omega) c 0 (s.size * 2 + k + 21 - c) 0 (by omega) (by omega)
  rw [show c + (s.size * 2 + k + 21 - c) + 1 = s.size * 2 + k + 22 by omega] at hC
  unfold bureauref06_Col.f
  rw [hA, Option.bind_some, hO, Option.bind_some, hS, Option.bind_some, hlen]
  exact hC
/-! ### last -/
theorem last_at {s : ByteArray} {n q a c : Nat} (h : Signs s n) (hl : LineSigns s n q a c) (hq : q < nE s) : lastZ s (bF s q) (bT s q) = if c = 0 then bF s q else st s (a + (c - 1)) := by
  have hac := hl.le
  unfold lastZ
  by_cases hc : c = 0
  · have : bF s q = bT s q := by rw [← hl.from_, ← hl.to_, hc]; rfl
    rw [if_pos this, if_pos hc]
  · have h1 := h.step (t := a + (c - 1)) (by omega)
    rw [show a + (c - 1) + 1 = a + c by omega, hl.to_] at h1
    have h2 := st_mono s (show a ≤ a + (c - 1) by omega)
    rw [hl.from_] at h2
    rw [if_neg (by omega), if_neg hc]
    refine alignZ_eq h (At.of h (m := a + (c - 1)) (by omega) (by omega) ?_)
    rw [show a + (c - 1) + 1 = a + c by omega, hl.to_]
    omega
theorem rlast_eq {s : ByteArray} {n q a c : Nat} (h : Signs s n) (hs : s.size < 900000) (hq : q < nE s) (hl : LineSigns s n q a c) (k : Nat) : bureauref06_last.f (s.size + k + 22) s (q : Int) = some (lastZ s (bF s q) (bT s q) : Int) := by
  have hn := h.le
  have hac := hl.le
  have hB := rbounds_eq s (by omega) (q : Int) (k + 20)
  have hz : boundsZ s (q : Int) = ((bF s q : Int), (bT s q : Int), 0) := by unfold boundsZ; rw [if_pos (by omega), Int.toNat_natCast]
  rw [show s.size + (k + 20) + 2 = s.size + k + 22 by omega, hz] at hB
  unfold bureauref06_last.f
  rw [rstarts_eq h (by omega) hq hl k, Option.bind_some, last_at h hl hq, lineL_len]
  by_cases hc : c = 0
  · rw [if_pos (by omega), hB, Option.bind_some, if_pos hc]
  · have hw : wrap64 ((c : Int) - 1) = ((c - 1 : Nat) : Int) := by rw [wrapZ _ (by omega) (by omega)]; omega
    rw [if_neg (by omega), hw, if_pos (by omega), if_pos (by omega), if_neg hc, lineL_get s a c (c - 1) (by omega)]
theorem rbrought_eq (s : ByteArray) (hs : s.size < 900000) (n : Int) (k : Nat) : bureauref06_brought.f (s.size + k + 1) s n = some (intoZ s n : Int) := by
  have hp := nE_pos s
  have hn := nE_le s
  have hw : wrap64 ((nE s : Int) - 1) = (nE s : Int) - 1 := wrapZ _ (by omega) (by omega)
  unfold bureauref06_brought.f
  rw [rcount_eq s (by omega) k, Option.bind_some, hw]
  by_cases h0 : n < 0
  · rw [if_pos h0]
    congr 1
    unfold intoZ
    omega
  · rw [if_neg h0]
    congr 1
    unfold intoZ mn
    omega
/-! ### Place -/
theorem rplace_eq (s : ByteArray) (hs : s.size < 900000) (x y : Int) (k : Nat) : bureauref06_Place.f (s.size + k + 22) s x y = some (placeZ s x y : Int) := by
  obtain ⟨n, h⟩ := signs_ex s
  have hn := h.le
  have hq := intoZ_lt s x
  have hB := rbrought_eq s hs x (k + 21)
  rw [show s.size + (k + 21) + 1 = s.size + k + 22 by omega] at hB
  unfold bureauref06_Place.f placeZ plFrom
  rw [hB, Option.bind_some]
  generalize intoZ s x = q at *
  obtain ⟨a, c, hl⟩ := line_signs h q hq
  have hac := hl.le
  have hmx : mx y 0 = (((max y 0).toNat : Nat) : Int) := by unfold mx; omega
  rw [rstarts_eq h (by omega) hq hl k, Option.bind_some, lineL_len, hmx, hl.eq]
  generalize (max y 0).toNat = i
  by_cases hc : i < c
  · have h2 := st_mono s (show a ≤ a + i by omega)
    rw [hl.from_] at h2
    rw [if_neg (by omega), if_pos (by omega), if_pos (by omega), lineL_get s a c i hc, List.getElem?_map, List.getElem?_range hc, Option.map_some]
    simp only []
    congr 2
    omega
  · rw [if_pos (by omega), rlast_eq h hs hq hl k, Option.bind_some, List.getElem?_eq_none (by simp; omega)]
/-! ### First -/
theorem rclass_eq (k : Nat) (r : Int) : bureauref02_Class.f (k + 3) r = some (classZ r) := by
  have j1 (k : Nat) (x : Bool) : bureauref02_Class.j1 (k + 1) r x = some (if x = true then 1 else if 128 ≤ r ∧ r ≤ 1114111 ∧ r ≠ 65533 then 1 else 2) := by
    rw [bureauref02_Class.j1]
    by_cases hx : x = true
    · rw [if_pos hx, if_pos hx]
    rw [if_neg hx, if_neg hx]
    by_cases h1 : r ≥ 128
    · rw [if_pos h1]
      by_cases h2 : r ≤ 1114111
      · rw [if_pos h2]
        by_cases h3 : r = 65533
        · rw [if_pos h3, if_neg (by omega)]
        · rw [if_neg h3, if_pos ⟨h1, h2, h3⟩]
      · rw [if_neg h2, if_neg (by omega)]
    · rw [if_neg h1, if_neg (by omega)]
  have j95 (k : Nat) : bureauref02_Class.j1 (k + 1) r (r == 95) = some (if r = 95 then 1 else if 128 ≤ r ∧ r ≤ 1114111 ∧ r ≠ 65533 then 1 else 2) := by
    rw [j1]
    by_cases h : r = 95
    · rw [if_pos (by simp [h]), if_pos h]
    · rw [if_neg (by simp [h]), if_neg h]
  have jt (k : Nat) : bureauref02_Class.j1 (k + 1) r true = some 1 := by rw [j1, if_pos rfl]
  have j0 (k : Nat) (x : Bool) : bureauref02_Class.j0 (k + 2) r x = some (if x = true then 0 else if r = 10 then 3 else if (48 ≤ r ∧ r ≤ 57) ∨ (97 ≤ r ∧ r ≤ 122) ∨ (65 ≤ r ∧ r ≤ 90) ∨ r = 95 then 1 else if 128 ≤ r ∧ r ≤ 1114111 ∧ r ≠ 65533 then 1 else 2) := by
    rw [bureauref02_Class.j0]
    simp only [jt, j95]
    by_cases hx : x = true
    · rw [if_pos hx, if_pos hx]
    rw [if_neg hx, if_neg hx]
    by_cases h10 : r = 10
    · rw [if_pos h10, if_pos h10]
    rw [if_neg h10, if_neg h10]
    by_cases hm : (48 ≤ r ∧ r ≤ 57) ∨ (97 ≤ r ∧ r ≤ 122) ∨ (65 ≤ r ∧ r ≤ 90) ∨ r = 95
    · rw [if_pos hm]
      repeat' split
      all_goals first | rfl | (exfalso; omega)
    · rw [if_neg hm, if_neg (c := r = 95) (fun h => hm (Or.inr (Or.inr (Or.inr h))))]
      repeat' split
      all_goals first | rfl | (exfalso; omega)
  unfold bureauref02_Class.f classZ
  by_cases h32 : r = 32
  · rw [if_pos h32, j0 (k + 1), if_pos rfl, if_pos (Or.inl h32)]
  · rw [if_neg h32, j0 (k + 1)]
    by_cases h9 : r = 9
    · rw [if_pos (by simp [h9]), if_pos (Or.inr h9)]
    · rw [if_neg (by simp [h9]), if_neg (c := r = 32 ∨ _) (by rintro (h | h); exact h32 h; exact h9 h)]
theorem r02at_eq {s : ByteArray} {n j : Nat} (h : Signs s n) (hs : s.size < 1000000) (hj : j < n) (k : Nat) : bureauref02_At.f (s.size + k + 22) s ((st s j : Nat) : Int) = some ((((Utf8.decode s (st s j)).1 : Nat) : Int), (((Utf8.decode s (st s j)).2 : Nat) : Int)) := by
  have hA := At.of h hj (Int.le_refl _) (Int.ofNat_lt.2 (h.step hj))
  have hlen : ((scan s s.size 0).map sig).length = n := by rw [map_sig h]; simp
  have hW : bureauref02_which.f (s.size + k + 22) ((scan s s.size 0).map sig) ((st s j : Nat) : Int) = some (j : Int) := which_eq h hs hA (k + 21)
  unfold bureauref02_At.f
  rw [signs_eq s hs k, Option.bind_some, hW, Option.bind_some, hlen, if_neg (by omega), if_pos (by omega), if_pos (by omega), rd_T54_nat _ j (by omega)]
  simp only [map_sig h, List.getElem_map, List.getElem_range]
  rfl
theorem first_loop {s : ByteArray} {n q a c : Nat} (h : Signs s n) (hs : s.size < 900000) (hq : q < nE s) (hl : LineSigns s n q a c) (r : Nat) : ∀ (d i k : Nat), i + d = c →
    Aside0 (fstFrom (((List.range c).map (fun t => (st s (a + t) - bF s q, Utf8.decode s (st s (a + t))))).drop i) (bF s q) (lastZ s (bF s q) (bT s q)) = r) →
    bureauref06_First.l0 (d + s.size + k + 23) s (q : Int) (lineL s a c) (i : Int) = some (r : Int) := by
  have hac := hl.le
  have hn := h.le
  intro d
  induction d with
  | zero =>
    intro i k hi hf
    have hL := rlast_eq h hs hq hl k
    rw [show 0 + s.size + k + 23 = (s.size + k + 22) + 1 by omega, bureauref06_First.l0, lineL_len, if_neg (by omega), hL, Option.bind_some]
    have hf := hf.out
    rw [List.drop_of_length_le (by simp; omega)] at hf
    rw [← hf]
    rfl
  | succ d ih =>
    intro i k hi hf
    have hw : wrap64 ((i : Int) + 1) = ((i + 1 : Nat) : Int) := by rw [wrapZ _ (by omega) (by omega)]; omega
    have hA := r02at_eq h (by omega) (show a + i < n by omega) (d + k + 1)
    rw [show s.size + (d + k + 1) + 22 = d + 1 + s.size + k + 22 by omega] at hA
    have h2 := st_mono s (show a ≤ a + i by omega)
    rw [hl.from_] at h2
    have hC := rclass_eq (d + 1 + s.size + k + 19) (((Utf8.decode s (st s (a + i))).1 : Nat) : Int)
    rw [show d + 1 + s.size + k + 19 + 3 = d + 1 + s.size + k + 22 by omega] at hC
    have hi2 := ih (i + 1) k (by omega)
    rw [show d + s.size + k + 23 = d + 1 + s.size + k + 22 by omega] at hi2
    rw [show d + 1 + s.size + k + 23 = (d + 1 + s.size + k + 22) + 1 by omega, bureauref06_First.l0, lineL_len, if_pos (by omega), if_pos (by omega), lineL_get s a c i (by omega), hA, Option.bind_some, hC, Option.bind_some, hw]
    have hlast : i < ((List.range c).map (fun t => (st s (a + t) - bF s q, Utf8.decode s (st s (a + t))))).length := by rw [List.length_map, List.length_range]; omega
    have hp2 : bF s q + (st s (a + i) - bF s q) = st s (a + i) := by omega
    have hf := hf.out
    rw [List.drop_eq_getElem_cons hlast, List.getElem_map, List.getElem_range] at hf
    by_cases hz : classZ (((Utf8.decode s (st s (a + i))).1 : Nat) : Int) = 0
    · rw [fst_miss _ _ _ _ (by simp only [hz]; rfl)] at hf
      rw [if_pos hz]
      exact hi2 ⟨hf⟩
    · rw [fst_hit _ _ _ _ (by simpa using hz)] at hf
      rw [if_neg hz]
      rw [← hf]
      exact congrArg (fun z : Nat => some (z : Int)) hp2.symm
theorem rfirst_eq (s : ByteArray) (hs : s.size < 900000) (x : Int) (k : Nat) : bureauref06_First.f (s.size * 2 + k + 24) s x = some (firstZ s x : Int) := by
  obtain ⟨n, h⟩ := signs_ex s
  have hn := h.le
  have hq := intoZ_lt s x
  have hB := rbrought_eq s hs x (s.size + k + 23)
  rw [show s.size + (s.size + k + 23) + 1 = s.size * 2 + k + 24 by omega] at hB
  unfold bureauref06_First.f firstZ
  rw [hB, Option.bind_some]
  generalize intoZ s x = q at *
  obtain ⟨a, c, hl⟩ := line_signs h q hq
  have hac := hl.le
  have hS := rstarts_eq h (by omega) hq hl (s.size + k + 2)
  rw [show s.size + (s.size + k + 2) + 22 = s.size * 2 + k + 24 by omega] at hS
  have hF := first_loop h hs hq hl _ c 0 (s.size - c + k + 1) (by omega) ⟨by rw [List.drop_zero]⟩
  rw [show c + s.size + (s.size - c + k + 1) + 23 = s.size * 2 + k + 24 by omega] at hF
  rw [hS, Option.bind_some, hl.eq]
  exact hF
theorem LinePlaces : bureaulaw06_LinePlaces.Pure := by
  intro s x y _ _ hwy
  have hy : -9223372036854775808 ≤ y ∧ y ≤ 9223372036854775807 := by simpa [Lit.wf, IntKind.min, IntKind.max, IntKind.signed, IntKind.bits] using hwy
  refine ⟨s.size * 2 + 0 + 24, ?_⟩
  unfold bureaulaw06_LinePlaces.f
  rw [alive_eq, Option.bind_some, if_pos rfl]
  by_cases hs : (s.size : Int) > 2048
  · rw [if_pos hs]
  have b1 : line_Col.f s x = some (colZ s x : Int) := by unfold line_Col.f; rw [if_pos (by omega)]
  have b2 : line_Place.f s x y = some (placeZ s x y : Int) := by unfold line_Place.f; rw [if_pos ⟨by omega, hy⟩]
  have b3 : line_First.f s x = some (firstZ s x : Int) := by unfold line_First.f; rw [if_pos (by omega)]
  have r1 := rcol_eq s (by omega) x 2
  have r2 := rplace_eq s (by omega) x y (s.size + 2)
  rw [show s.size + (s.size + 2) + 22 = s.size * 2 + 0 + 24 by omega] at r2
  rw [show s.size * 2 + 2 + 22 = s.size * 2 + 0 + 24 by omega] at r1
  rw [if_neg hs, b1, Option.bind_some, r1, Option.bind_some, if_pos rfl, b2, Option.bind_some, r2, Option.bind_some, if_pos rfl, b3, Option.bind_some, rfirst_eq s (by omega) x 0, Option.bind_some]
  simp

end Go.Proofs.YthkhjcpijecokaaDoor.Pure
