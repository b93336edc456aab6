/- A sign that is no line end is found again by its line and its column: for every text and every place. -/
import Derived.Test.YthkhjcpijecokaaDoorXLineBackx2
import Derived.Test.YthkhjcpijecokaaDoorExt06K
import Derived.OpenShut
set_option linter.unusedVariables false
set_option linter.unusedSimpArgs false
namespace Go.Proofs.YthkhjcpijecokaaDoor.Pure
open Go.RowKit Go.Proofs.YthkhjcpijecokaaDoor.XLineBack Go.Proofs.YthkhjcpijecokaaDoorW.PrintWords Go.Proofs.YthkhjcpijecokaaDoorW.PrintMore Go.Proofs.YthkhjcpijecokaaDoor.Ext

theorem alive_eq : bureaulaw06_alive.f = some true := by decide +kernel
theorem rd_nat (xs : List Int) (i : Nat) (h : i < xs.length) : rd xs (i : Int) = xs[i] := by
  unfold rd
  rw [Int.toNat_natCast, List.getD_eq_getElem?_getD, List.getElem?_eq_getElem h]
  rfl
def whole (x : Nat × Nat × Nat) : Bool := !(x.2.1 == 65533 && x.2.2 == 1)
/-! The numbers' bytes. -/
def enc (r : Nat) : List Nat :=
  if r < 128 then [r] else if r < 2048 then [192 + r / 64, 128 + r % 64] else if r < 65536 then [224 + r / 4096, 128 + r / 64 % 64, 128 + r % 64] else [240 + r / 262144, 128 + r / 4096 % 64, 128 + r / 64 % 64, 128 + r % 64]
def mayN (r : Nat) : Bool := r ≤ 1114111 && (r < 55296 || 57344 ≤ r)
theorem enc_lt {r : Nat} (h : r ≤ 1114111) : ∀ x ∈ enc r, x < 256 := by
  unfold enc
  intro x hx
  split at hx
  · simp only [List.mem_cons, List.not_mem_nil, or_false] at hx
    omega
  split at hx
  · simp only [List.mem_cons, List.not_mem_nil, or_false] at hx
    omega
  split at hx
  · simp only [List.mem_cons, List.not_mem_nil, or_false] at hx
    omega
  · simp only [List.mem_cons, List.not_mem_nil, or_false] at hx
    omega
/-! What the document's 'number' reads, and which so many bytes are a sign. -/
def numN (n b0 b1 b2 b3 : Nat) : Nat :=
  if n = 1 then b0 else if n = 2 then b0 % 32 * 64 + b1 % 64 else if n = 3 then (b0 % 16 * 64 + b1 % 64) * 64 + b2 % 64 else ((b0 % 8 * 64 + b1 % 64) * 64 + b2 % 64) * 64 + b3 % 64
theorem num1 (b0 b1 b2 b3 : Nat) : numN 1 b0 b1 b2 b3 = b0 := rfl
theorem num2 (b0 b1 b2 b3 : Nat) : numN 2 b0 b1 b2 b3 = b0 % 32 * 64 + b1 % 64 := rfl
theorem num3 (b0 b1 b2 b3 : Nat) : numN 3 b0 b1 b2 b3 = (b0 % 16 * 64 + b1 % 64) * 64 + b2 % 64 := rfl
theorem num4 (b0 b1 b2 b3 : Nat) : numN 4 b0 b1 b2 b3 = ((b0 % 8 * 64 + b1 % 64) * 64 + b2 % 64) * 64 + b3 % 64 := rfl
def okN (n b0 b1 b2 b3 : Nat) : Bool := mayN (numN n b0 b1 b2 b3) && enc (numN n b0 b1 b2 b3) == [b0, b1, b2, b3].take n
theorem ok1 {b0 : Nat} (b1 b2 b3 : Nat) (h0 : b0 < 256) : okN 1 b0 b1 b2 b3 = decide (b0 < 128) := by
  unfold okN mayN enc numN
  rw [if_pos rfl, Bool.eq_iff_iff]
  simp only [Bool.and_eq_true, Bool.or_eq_true, decide_eq_true_eq, beq_iff_eq, List.take_succ_cons, List.take_zero]
  constructor
  · rintro ⟨_, h⟩
    split at h
    · assumption
    · exfalso
      split at h
      · simp only [List.cons.injEq] at h
        exact absurd h.2 (by simp)
      split at h
      · simp only [List.cons.injEq] at h
        exact absurd h.2 (by simp)
      · simp only [List.cons.injEq] at h
        exact absurd h.2 (by simp)
  · intro h
    exact ⟨by omega, by rw [if_pos h]⟩
theorem ok2 {b0 b1 : Nat} (b2 b3 : Nat) (h0 : b0 < 256) (h1 : b1 < 256) : okN 2 b0 b1 b2 b3 = decide (b0 / 32 = 6 ∧ b1 / 64 = 2 ∧ 128 ≤ b0 % 32 * 64 + b1 % 64) := by
  unfold okN mayN enc numN
  rw [if_neg (by omega), if_pos rfl, Bool.eq_iff_iff]
  simp only [Bool.and_eq_true, Bool.or_eq_true, decide_eq_true_eq, beq_iff_eq, List.take_succ_cons, List.take_zero]
  generalize hr : b0 % 32 * 64 + b1 % 64 = r
  constructor
  · rintro ⟨_, h⟩
    split at h
    · cases h
    split at h
    · simp only [List.cons.injEq, and_true] at h
      omega
    split at h
    · cases h
    · cases h
  · intro h
    refine ⟨by omega, ?_⟩
    rw [if_neg (by omega), if_pos (by omega)]
    simp only [List.cons.injEq, and_true]
    omega
theorem ok3 {b0 b1 b2 : Nat} (b3 : Nat) (h0 : b0 < 256) (h1 : b1 < 256) (h2 : b2 < 256) : okN 3 b0 b1 b2 b3 =
    decide (b0 / 16 = 14 ∧ b1 / 64 = 2 ∧ b2 / 64 = 2 ∧ 2048 ≤ b0 % 16 * 4096 + b1 % 64 * 64 + b2 % 64 ∧ (b0 % 16 * 4096 + b1 % 64 * 64 + b2 % 64 < 55296 ∨ 57344 ≤ b0 % 16 * 4096 + b1 % 64 * 64 + b2 % 64)) := by
  unfold okN mayN enc numN
  rw [if_neg (by omega), if_neg (by omega), if_pos rfl, Bool.eq_iff_iff]
  simp only [Bool.and_eq_true, Bool.or_eq_true, decide_eq_true_eq, beq_iff_eq, List.take_succ_cons, List.take_zero]
  rw [show (b0 % 16 * 64 + b1 % 64) * 64 + b2 % 64 = b0 % 16 * 4096 + b1 % 64 * 64 + b2 % 64 by omega]
  generalize hr : b0 % 16 * 4096 + b1 % 64 * 64 + b2 % 64 = r
  constructor
  · rintro ⟨_, h⟩
    split at h
    · cases h
    split at h
    · cases h
    split at h
    · simp only [List.cons.injEq, and_true] at h
      omega
    · cases h
  · intro h
    refine ⟨by omega, ?_⟩
    rw [if_neg (by omega), if_neg (by omega), if_pos (by omega)]
    simp only [List.cons.injEq, and_true]
    omega
theorem ok4 {b0 b1 b2 b3 : Nat} (h0 : b0 < 256) (h1 : b1 < 256) (h2 : b2 < 256) (h3 : b3 < 256) : okN 4 b0 b1 b2 b3 =
    decide (b0 / 8 = 30 ∧ b1 / 64 = 2 ∧ b2 / 64 = 2 ∧ b3 / 64 = 2 ∧ 65536 ≤ b0 % 8 * 262144 + b1 % 64 * 4096 + b2 % 64 * 64 + b3 % 64 ∧ b0 % 8 * 262144 + b1 % 64 * 4096 + b2 % 64 * 64 + b3 % 64 ≤ 1114111) := by
  unfold okN mayN enc numN
  rw [if_neg (by omega), if_neg (by omega), if_neg (by omega), Bool.eq_iff_iff]
  simp only [Bool.and_eq_true, Bool.or_eq_true, decide_eq_true_eq, beq_iff_eq, List.take_succ_cons, List.take_zero]
  rw [show ((b0 % 8 * 64 + b1 % 64) * 64 + b2 % 64) * 64 + b3 % 64 = b0 % 8 * 262144 + b1 % 64 * 4096 + b2 % 64 * 64 + b3 % 64 by omega]
  generalize hr : b0 % 8 * 262144 + b1 % 64 * 4096 + b2 % 64 * 64 + b3 % 64 = r
  constructor
  · rintro ⟨_, h⟩
    split at h
    · cases h
    split at h
    · cases h
    split at h
    · cases h
    · simp only [List.cons.injEq, and_true] at h
      omega
  · intro h
    refine ⟨by omega, ?_⟩
    rw [if_neg (by omega), if_neg (by omega), if_neg (by omega)]
    simp only [List.cons.injEq, and_true]
    omega
/-- The model's decoding, by which so many bytes are a sign. -/
def firstOk (m b0 b1 b2 b3 : Nat) : Nat × Nat × Bool :=
  if okN 1 b0 b1 b2 b3 = true then (numN 1 b0 b1 b2 b3, 1, true)
  else if 2 ≤ m ∧ okN 2 b0 b1 b2 b3 = true then (numN 2 b0 b1 b2 b3, 2, true)
  else if 3 ≤ m ∧ okN 3 b0 b1 b2 b3 = true then (numN 3 b0 b1 b2 b3, 3, true)
  else if 4 ≤ m ∧ okN 4 b0 b1 b2 b3 = true then (numN 4 b0 b1 b2 b3, 4, true)
  else (65533, 1, false)
theorem first_decode {m b0 b1 b2 b3 : Nat} (h0 : b0 < 256) (h1 : b1 < 256) (h2 : b2 < 256) (h3 : b3 < 256) :
    firstOk m b0 b1 b2 b3 = ((Lib.decodeN m b0 b1 b2 b3).1, (Lib.decodeN m b0 b1 b2 b3).2, whole (0, Lib.decodeN m b0 b1 b2 b3)) := by
  unfold firstOk
  rw [ok1 b1 b2 b3 h0, ok2 b2 b3 h0 h1, ok3 b3 h0 h1 h2, ok4 h0 h1 h2 h3]
  simp only [decide_eq_true_eq]
  have n1 : numN 1 b0 b1 b2 b3 = b0 := rfl
  have n2 : numN 2 b0 b1 b2 b3 = b0 % 32 * 64 + b1 % 64 := rfl
  have n3 : numN 3 b0 b1 b2 b3 = b0 % 16 * 4096 + b1 % 64 * 64 + b2 % 64 := by unfold numN; rw [if_neg (by omega), if_neg (by omega), if_pos rfl]; omega
  have n4 : numN 4 b0 b1 b2 b3 = b0 % 8 * 262144 + b1 % 64 * 4096 + b2 % 64 * 64 + b3 % 64 := by unfold numN; rw [if_neg (by omega), if_neg (by omega), if_neg (by omega)]; omega
  rw [n1, n2, n3, n4]
  unfold Lib.decodeN
  by_cases c1 : b0 < 128
  · rw [if_pos c1, if_pos c1]
    have : (b0 == 65533) = false := by rw [beq_eq_false_iff_ne]; omega
    simp [whole, this]
  rw [if_neg c1, if_neg c1]
  by_cases c2 : b0 / 32 = 6 ∧ (1 < m ∧ b1 / 64 = 2)
  · rw [if_pos c2]
    by_cases d2 : b0 % 32 * 64 + b1 % 64 ≥ 128
    · rw [if_pos d2, if_pos (by omega)]
      simp [whole]
    · rw [if_neg d2, if_neg (by omega), if_neg (by omega), if_neg (by omega)]
      rfl
  rw [if_neg c2, if_neg (by omega)]
  by_cases c3 : b0 / 16 = 14 ∧ (1 < m ∧ b1 / 64 = 2) ∧ (2 < m ∧ b2 / 64 = 2)
  · rw [if_pos c3]
    by_cases d3 : b0 % 16 * 4096 + b1 % 64 * 64 + b2 % 64 ≥ 2048 ∧ (b0 % 16 * 4096 + b1 % 64 * 64 + b2 % 64 < 55296 ∨ (57344 ≤ b0 % 16 * 4096 + b1 % 64 * 64 + b2 % 64 ∧ b0 % 16 * 4096 + b1 % 64 * 64 + b2 % 64 ≤ 1114111))
    · rw [if_pos d3, if_pos (by omega)]
      simp [whole]
    · rw [if_neg d3, if_neg (by omega), if_neg (by omega)]
      rfl
  rw [if_neg c3, if_neg (by omega)]
  by_cases c4 : b0 / 8 = 30 ∧ (1 < m ∧ b1 / 64 = 2) ∧ (2 < m ∧ b2 / 64 = 2) ∧ (3 < m ∧ b3 / 64 = 2)
  · rw [if_pos c4]
    by_cases d4 : b0 % 8 * 262144 + b1 % 64 * 4096 + b2 % 64 * 64 + b3 % 64 ≥ 65536 ∧ (b0 % 8 * 262144 + b1 % 64 * 4096 + b2 % 64 * 64 + b3 % 64 < 55296 ∨ (57344 ≤ b0 % 8 * 262144 + b1 % 64 * 4096 + b2 % 64 * 64 + b3 % 64 ∧ b0 % 8 * 262144 + b1 % 64 * 4096 + b2 % 64 * 64 + b3 % 64 ≤ 1114111))
    · rw [if_pos d4, if_pos (by omega)]
      simp [whole]
    · rw [if_neg d4, if_neg (by omega)]
      rfl
  rw [if_neg c4, if_neg (by omega)]
  rfl
theorem may_eq (r : Nat) : bureauref02_May.f (r : Int) = some (mayN r) := by
  unfold bureauref02_May.f mayN
  rw [if_pos (Int.natCast_nonneg r)]
  by_cases h1 : r ≤ 1114111
  · rw [if_pos (by omega)]
    by_cases h2 : r < 55296
    · rw [if_pos (by omega)]
      simp [h1, h2]
    · rw [if_neg (by omega)]
      congr 1
      rw [Bool.eq_iff_iff]
      simp only [decide_eq_true_eq, Bool.and_eq_true, Bool.or_eq_true]
      omega
  · rw [if_neg (by omega)]
    simp [h1]
theorem lowK (K : Int) (k x : Nat) (hK : K = (k : Int)) (h : k + x < 256) : UInt8.ofNat (wrap64 (K + (x : Int)) % 256).toNat = UInt8.ofNat (k + x) := by
  congr 1
  unfold wrap64
  omega
theorem lowA (x : Nat) (h : x < 256) : UInt8.ofNat ((x : Int) % 256).toNat = UInt8.ofNat x := by
  congr 1
  omega
theorem l2 {a b a' b' : UInt8} (h1 : a = a') (h2 : b = b') : [a, b] = [a', b'] := by rw [h1, h2]
theorem l3 {a b c a' b' c' : UInt8} (h1 : a = a') (h2 : b = b') (h3 : c = c') : [a, b, c] = [a', b', c'] := by rw [h1, h2, h3]
theorem l4 {a b c d a' b' c' d' : UInt8} (h1 : a = a') (h2 : b = b') (h3 : c = c') (h4 : d = d') : [a, b, c, d] = [a', b', c', d'] := by rw [h1, h2, h3, h4]
theorem bytes_eq {r : Nat} (h : r ≤ 1114111) : bureauref02_Bytes.f (r : Int) = some ⟨((enc r).map UInt8.ofNat).toArray⟩ := by
  have e64 : Int.tdiv (r : Int) 64 = ((r / 64 : Nat) : Int) := rfl
  have e4096 : Int.tdiv (r : Int) 4096 = ((r / 4096 : Nat) : Int) := rfl
  have e262144 : Int.tdiv (r : Int) 262144 = ((r / 262144 : Nat) : Int) := rfl
  have m64 : Int.tmod (r : Int) 64 = ((r % 64 : Nat) : Int) := rfl
  have w1 := wrapN (r / 64) (by omega)
  have w2 := wrapN (r / 4096) (by omega)
  have w3 := wrapN (r / 262144) (by omega)
  have m1 : Int.tmod ((r / 64 : Nat) : Int) 64 = ((r / 64 % 64 : Nat) : Int) := rfl
  have m2 : Int.tmod ((r / 4096 : Nat) : Int) 64 = ((r / 4096 % 64 : Nat) : Int) := rfl
  unfold bureauref02_Bytes.f enc
  rw [e64, e4096, e262144, m64, w1, w2, w3, m1, m2]
  clear e64 e4096 e262144 m64 w1 w2 w3 m1 m2
  by_cases h1 : r < 128
  · rw [if_pos (by omega), if_pos h1]
    simp only [strOfNums, List.map_cons, List.map_nil, lowA r (by omega)]
  rw [if_neg (by omega), if_neg h1]
  by_cases h2 : r < 2048
  · rw [if_pos (by omega), if_pos h2]
    simp only [strOfNums, List.map_cons, List.map_nil]
    exact congrArg (fun l : List UInt8 => some (⟨l.toArray⟩ : ByteArray)) (l2 (lowK 192 192 (r / 64) rfl (by omega)) (lowK 128 128 (r % 64) rfl (by omega)))
  rw [if_neg (by omega), if_neg h2]
  by_cases h3 : r < 65536
  · rw [if_pos (by omega), if_pos h3]
    simp only [strOfNums, List.map_cons, List.map_nil]
    exact congrArg (fun l : List UInt8 => some (⟨l.toArray⟩ : ByteArray)) (l3 (lowK 224 224 (r / 4096) rfl (by omega)) (lowK 128 128 (r / 64 % 64) rfl (by omega)) (lowK 128 128 (r % 64) rfl (by omega)))
  · rw [if_neg (by omega), if_neg h3]
    simp only [strOfNums, List.map_cons, List.map_nil]
    exact congrArg (fun l : List UInt8 => some (⟨l.toArray⟩ : ByteArray)) (l4 (lowK 240 240 (r / 262144) rfl (by omega)) (lowK 128 128 (r / 4096 % 64) rfl (by omega)) (lowK 128 128 (r / 64 % 64) rfl (by omega)) (lowK 128 128 (r % 64) rfl (by omega)))
theorem num_step (k : Nat) (x : ByteArray) (a j : Nat) (hj : j < x.size) (ha : a < 1000000) (hs : x.size < 100) :
    bureauref02_number.l0 (k + 1) x (a : Int) (j : Int) = bureauref02_number.l0 k x ((a * 64 + gb x j % 64 : Nat) : Int) ((j + 1 : Nat) : Int) := by
  have hb := gb_lt x j
  rw [bureauref02_number.l0, if_pos (by omega), if_pos (by omega), bt_gb x j hj, wrapN (gb x j) (by omega)]
  have e : Int.tmod ((gb x j : Nat) : Int) 64 = ((gb x j % 64 : Nat) : Int) := rfl
  rw [e]
  congr 1
  · unfold wrap64
    omega
  · unfold wrap64
    omega
theorem num_end (k : Nat) (x : ByteArray) (a : Int) : bureauref02_number.l0 (k + 1) x a (x.size : Int) = some a := by
  rw [bureauref02_number.l0, if_neg (by omega)]
theorem number_eq (k : Nat) (x : ByteArray) (n : Nat) (hn : x.size = n) (h1 : 1 ≤ n) (h4 : n ≤ 4) :
    bureauref02_number.f (k + 6) x = some ((numN n (gb x 0) (gb x 1) (gb x 2) (gb x 3) : Nat) : Int) := by
  have h0 := gb_lt x 0
  have e0 : wrap64 (bt x 0) = ((gb x 0 : Nat) : Int) := by rw [show (0 : Int) = ((0 : Nat) : Int) from rfl, bt_gb x 0 (by omega), wrapN _ (by omega)]
  unfold bureauref02_number.f
  rw [if_pos (by omega), e0]
  have e32 : Int.tmod ((gb x 0 : Nat) : Int) 32 = ((gb x 0 % 32 : Nat) : Int) := rfl
  have e16 : Int.tmod ((gb x 0 : Nat) : Int) 16 = ((gb x 0 % 16 : Nat) : Int) := rfl
  have e8 : Int.tmod ((gb x 0 : Nat) : Int) 8 = ((gb x 0 % 8 : Nat) : Int) := rfl
  rw [e32, e16, e8]
  have e1 : (1 : Int) = ((1 : Nat) : Int) := rfl
  rcases (by omega : n = 1 ∨ n = 2 ∨ n = 3 ∨ n = 4) with hc | hc | hc | hc
  · rw [if_neg (by omega), if_neg (by omega), if_neg (by omega), bureauref02_number.j0]
    have := num_end (k + 4) x ((gb x 0 : Nat) : Int)
    rw [hn, hc] at this
    rw [e1, this, hc]
    rfl
  · rw [if_pos (by omega), bureauref02_number.j0, e1, num_step _ x _ 1 (by omega) (by omega) (by omega)]
    have := num_end (k + 3) x ((gb x 0 % 32 * 64 + gb x 1 % 64 : Nat) : Int)
    rw [hn, hc] at this
    rw [this, hc]
    rfl
  · rw [if_neg (by omega), if_pos (by omega), bureauref02_number.j0, e1, num_step _ x _ 1 (by omega) (by omega) (by omega), num_step _ x _ 2 (by omega) (by omega) (by omega)]
    have := num_end (k + 2) x (((gb x 0 % 16 * 64 + gb x 1 % 64) * 64 + gb x 2 % 64 : Nat) : Int)
    rw [hn, hc] at this
    rw [this, hc]
    rfl
  · rw [if_neg (by omega), if_neg (by omega), if_pos (by omega), bureauref02_number.j0, e1, num_step _ x _ 1 (by omega) (by omega) (by omega), num_step _ x _ 2 (by omega) (by omega) (by omega), num_step _ x _ 3 (by omega) (by omega) (by omega)]
    have := num_end (k + 1) x ((((gb x 0 % 8 * 64 + gb x 1 % 64) * 64 + gb x 2 % 64) * 64 + gb x 3 % 64 : Nat) : Int)
    rw [hn, hc] at this
    rw [this, hc]
    rfl
/-! 'one': the sign at a place. -/
theorem list_eq_gb {s : ByteArray} {i n r : Nat} (hn : i + n ≤ s.size) (h1 : 1 ≤ n) (h4 : n ≤ 4) (hr : r ≤ 1114111) :
    ((⟨((enc r).map UInt8.ofNat).toArray⟩ : ByteArray).toList = (s.extract i (i + n)).toList) ↔ enc r = [gb s i, gb s (i + 1), gb s (i + 2), gb s (i + 3)].take n := by
  rw [ByteArray.toList_eq, ByteArray.toList_eq, list_bytes (s.extract i (i + n)), size_ext s i n hn]
  have hm : (List.range n).map (fun j => (s.extract i (i + n)).get! j) = ([gb s i, gb s (i + 1), gb s (i + 2), gb s (i + 3)].take n).map UInt8.ofNat := by
    rw [List.map_congr_left (g := fun j => s.get! (i + j)) (fun j hj => get_ext s i n j hn (List.mem_range.1 hj))]
    have g0 (j : Nat) : UInt8.ofNat (gb s j) = s.get! j := by unfold gb; exact UInt8.ofNat_toNat
    rcases (by omega : n = 1 ∨ n = 2 ∨ n = 3 ∨ n = 4) with rfl | rfl | rfl | rfl <;> simp [List.range_succ, g0]
  rw [hm]
  have inj : ∀ (x y : List Nat), (∀ a ∈ x, a < 256) → (∀ a ∈ y, a < 256) → x.map UInt8.ofNat = y.map UInt8.ofNat → x = y := by
    intro x
    induction x with
    | nil => intro y _ _ h; cases y with | nil => rfl | cons a y => cases h
    | cons a x ih =>
      intro y hx hy h
      cases y with
      | nil => cases h
      | cons b y =>
        simp only [List.map_cons, List.cons.injEq] at h
        have hab := congrArg UInt8.toNat h.1
        rw [UInt8.toNat_ofNat', UInt8.toNat_ofNat'] at hab
        have ha := hx a (by simp)
        have hb := hy b (by simp)
        rw [ih y (fun a ha => hx a (by simp [ha])) (fun a ha => hy a (by simp [ha])) h.2]
        congr 1
        omega
  constructor
  · intro h
    refine inj _ _ (enc_lt hr) (fun a ha => ?_) h
    have := List.mem_of_mem_take ha
    simp only [List.mem_cons, List.not_mem_nil, or_false] at this
    have b0 := gb_lt s i
    have b1 := gb_lt s (i + 1)
    have b2 := gb_lt s (i + 2)
    have b3 := gb_lt s (i + 3)
    omega
  · intro h
    rw [h]
theorem one_step (k : Nat) (s : ByteArray) (i n : Nat) (hs : s.size < 1000000000) (h1 : 1 ≤ n) (h4 : n ≤ 4) (hn : i + n ≤ s.size) :
    bureauref02_one.l0 (k + 12) s (i : Int) (n : Int) =
      if okN n (gb s i) (gb s (i + 1)) (gb s (i + 2)) (gb s (i + 3)) = true then some ((i : Int), (n : Int), ((numN n (gb s i) (gb s (i + 1)) (gb s (i + 2)) (gb s (i + 3)) : Nat) : Int), true) else bureauref02_one.l0 (k + 10) s (i : Int) ((n + 1 : Nat) : Int) := by
  have hw : wrap64 ((s.size : Int) - (i : Int)) = (s.size : Int) - (i : Int) := wrapZ _ (by omega) (by omega)
  have hw2 : wrap64 ((i : Int) + (n : Int)) = ((i + n : Nat) : Int) := by rw [wrapZ _ (by omega) (by omega)]; omega
  have hw3 : wrap64 ((n : Int) + 1) = ((n + 1 : Nat) : Int) := by rw [wrapZ _ (by omega) (by omega)]; omega
  have c4 : (n : Int) ≤ 4 := by omega
  have cd : decide ((n : Int) ≤ (s.size : Int) - (i : Int)) = true := decide_eq_true (by omega)
  have ci : (0 : Int) ≤ (i : Int) := by omega
  have cn : (i : Int) ≤ ((i + n : Nat) : Int) := by omega
  have cs : ((i + n : Nat) : Int) ≤ (s.size : Int) := by omega
  rw [bureauref02_one.l0, if_pos c4, hw, cd, bureauref02_one.j1, if_pos rfl, if_pos ci, hw2, if_pos cn, if_pos cs, hw3, Int.toNat_natCast, Int.toNat_natCast]
  clear hw hw2 hw3 c4 cd ci cn cs
  have hx := size_ext s i n hn
  have hlt0 := gb_lt (s.extract i (i + n)) 0
  rw [number_eq (k + 4) (s.extract i (i + n)) n hx h1 h4, Option.bind_some]
  have hg (j : Nat) (hj : j < n) : gb (s.extract i (i + n)) j = gb s (i + j) := by unfold gb; rw [get_ext s i n j hn hj]
  have hg0 : gb (s.extract i (i + n)) 0 = gb s i := hg 0 (by omega)
  have hnum : numN n (gb (s.extract i (i + n)) 0) (gb (s.extract i (i + n)) 1) (gb (s.extract i (i + n)) 2) (gb (s.extract i (i + n)) 3) = numN n (gb s i) (gb s (i + 1)) (gb s (i + 2)) (gb s (i + 3)) := by
    rcases (by omega : n = 1 ∨ n = 2 ∨ n = 3 ∨ n = 4) with rfl | rfl | rfl | rfl
    · rw [num1, num1, hg0]
    · rw [num2, num2, hg0, hg 1 (by omega)]
    · rw [num3, num3, hg0, hg 1 (by omega), hg 2 (by omega)]
    · rw [num4, num4, hg0, hg 1 (by omega), hg 2 (by omega), hg 3 (by omega)]
  rw [hnum]
  generalize hr : numN n (gb s i) (gb s (i + 1)) (gb s (i + 2)) (gb s (i + 3)) = r
  rw [may_eq, Option.bind_some]
  unfold okN
  rw [hr]
  cases hm : mayN r with
  | false => simp
  | true =>
    have hr2 : r ≤ 1114111 := by simp [mayN] at hm; omega
    rw [if_pos rfl, bytes_eq hr2, Option.bind_some]
    have hl := list_eq_gb (r := r) hn h1 h4 hr2
    by_cases he : enc r = [gb s i, gb s (i + 1), gb s (i + 2), gb s (i + 3)].take n
    · rw [if_pos (hl.2 he), if_pos (by simp [he])]
    · rw [if_neg (fun h => he (hl.1 h)), if_neg (by simp [he])]
theorem one_last (k : Nat) (s : ByteArray) (i n : Nat) (hs : s.size < 1000000000) (hi : i < s.size) (hn : 4 < n ∨ s.size < i + n) :
    bureauref02_one.l0 (k + 2) s (i : Int) (n : Int) = some ((i : Int), 1, 65533, false) := by
  have hw : wrap64 ((s.size : Int) - (i : Int)) = (s.size : Int) - (i : Int) := wrapZ _ (by omega) (by omega)
  rw [bureauref02_one.l0]
  by_cases h4 : n ≤ 4
  · rw [if_pos (by omega), hw, decide_eq_false (by omega), bureauref02_one.j1, if_neg (by decide)]
  · rw [if_neg (by omega), bureauref02_one.j1, if_neg (by decide)]
theorem one_eq (k : Nat) (s : ByteArray) (i : Nat) (hs : s.size < 1000000000) (hi : i < s.size) :
    bureauref02_one.f (k + 20) s (i : Int) = some ((i : Int), (((Utf8.decode s i).2 : Nat) : Int), (((Utf8.decode s i).1 : Nat) : Int), whole (0, Utf8.decode s i)) := by
  have b0 := gb_lt s i
  have b1 := gb_lt s (i + 1)
  have b2 := gb_lt s (i + 2)
  have b3 := gb_lt s (i + 3)
  have hd : Utf8.decode s i = Lib.decodeN (s.size - i) (gb s i) (gb s (i + 1)) (gb s (i + 2)) (gb s (i + 3)) := Lib.decode_at s i
  have hf := first_decode (m := s.size - i) b0 b1 b2 b3
  rw [← hd] at hf
  have h1 := congrArg (fun x : Nat × Nat × Bool => x.1) hf
  have h2 := congrArg (fun x : Nat × Nat × Bool => x.2.1) hf
  have h3 := congrArg (fun x : Nat × Nat × Bool => x.2.2) hf
  simp only at h1 h2 h3
  rw [← h1, ← h2, ← h3]
  clear h1 h2 h3 hf hd
  unfold bureauref02_one.f firstOk
  rw [show (1 : Int) = ((1 : Nat) : Int) from rfl, one_step (k + 8) s i 1 hs (by omega) (by omega) (by omega)]
  split
  · rfl
  by_cases m2 : i + 2 ≤ s.size
  · rw [one_step (k + 6) s i 2 hs (by omega) (by omega) m2]
    split
    · rw [if_pos ⟨by omega, by assumption⟩]
    rw [if_neg (fun h => by rename_i h' ; exact h' h.2)]
    by_cases m3 : i + 3 ≤ s.size
    · rw [one_step (k + 4) s i 3 hs (by omega) (by omega) m3]
      split
      · rw [if_pos ⟨by omega, by assumption⟩]
      rw [if_neg (fun h => by rename_i h' ; exact h' h.2)]
      by_cases m4 : i + 4 ≤ s.size
      · rw [one_step (k + 2) s i 4 hs (by omega) (by omega) m4]
        split
        · rw [if_pos ⟨by omega, by assumption⟩]
        rw [if_neg (fun h => by rename_i h' ; exact h' h.2), one_last (k + 10) s i 5 hs hi (by omega)]
        rfl
      · rw [one_last (k + 12) s i 4 hs hi (by omega), if_neg (by omega)]
        rfl
    · rw [one_last (k + 14) s i 3 hs hi (by omega), if_neg (by omega), if_neg (by omega)]
      rfl
  · rw [one_last (k + 16) s i 2 hs hi (by omega), if_neg (by omega), if_neg (by omega), if_neg (by omega)]
    rfl
/-- A sign, as the document has it. -/
def sig (x : Nat × Nat × Nat) : S54 := ⟨(x.1 : Int), (x.2.2 : Int), (x.2.1 : Int), whole x⟩
theorem whole_at (i j : Nat) (d : Nat × Nat) : whole (i, d) = whole (j, d) := rfl
theorem signs_loop (s : ByteArray) (hs : s.size < 1000000) : ∀ (b k i : Nat) (acc : List S54), s.size ≤ i + b → i ≤ s.size → acc.length ≤ i →
    bureauref02_Signs.l0 (b + k + 22) s acc (i : Int) = some (acc ++ (scan s b i).map sig) := by
  intro b
  induction b with
  | zero =>
    intro k i acc h hi ha
    rw [show (0 + k + 22 : Nat) = (k + 21) + 1 by omega, bureauref02_Signs.l0, if_neg (by omega)]
    simp [scan]
  | succ b ih =>
    intro k i acc h hi ha
    rw [show (b + 1 + k + 22 : Nat) = (b + k + 22) + 1 by omega, bureauref02_Signs.l0]
    by_cases hc : i < s.size
    · have hw := width_pos s i hc
      have hf := width_fits s i hc
      have h4 := width_le4 s i
      rw [if_pos (by omega), show b + k + 22 = (b + k + 2) + 20 by omega, one_eq (b + k + 2) s i (by omega) hc, Option.bind_some]
      have hlen : acc.length < 4398046511104 := by omega
      rw [if_pos hlen]
      have hw64 : wrap64 ((i : Int) + (((Utf8.decode s i).2 : Nat) : Int)) = ((i + (Utf8.decode s i).2 : Nat) : Int) := by rw [wrapZ _ (by omega) (by omega)]; omega
      simp only []
      rw [hw64, show b + k + 2 + 20 = b + k + 22 by omega, ih k _ _ (by omega) hf (by simp; omega), scan, if_pos hc, List.append_assoc]
      rfl
    · rw [if_neg (by omega), scan, if_neg hc]
      simp
theorem signs_eq (s : ByteArray) (hs : s.size < 1000000) (k : Nat) : bureauref02_Signs.f (s.size + k + 22) s = some ((scan s s.size 0).map sig) := by
  unfold bureauref02_Signs.f
  have := signs_loop s hs s.size k 0 [] (by omega) (by omega) (by simp)
  rw [show (0 : Int) = ((0 : Nat) : Int) from rfl, this]
  rfl
theorem rd_T54_nat (xs : List S54) (i : Nat) (h : i < xs.length) : rd_T54 xs (i : Int) = xs[i] := by
  unfold rd_T54
  rw [Int.toNat_natCast, List.getD_eq_getElem?_getD, List.getElem?_eq_getElem h]
  rfl
theorem which_loop {s : ByteArray} {n j : Nat} (h : Signs s n) (hs : s.size < 1000000) {a : Int} (ha : At s n a j) (xs : List S54) (hx : xs = (List.range n).map (fun t => sig (st s t, Utf8.decode s (st s t)))) :
    ∀ (c k i : Nat), j ≤ i + c → i ≤ j → bureauref02_which.l0 (c + k + 1) xs a (i : Int) = some (j : Int) := by
  have hlen : xs.length = n := by rw [hx]; simp
  have hn := h.le
  obtain ⟨hj, h1, h2, h3⟩ := ha
  have hat (i : Nat) (hi : i < n) : rd_T54 xs (i : Int) = sig (st s i, Utf8.decode s (st s i)) := by
    rw [rd_T54_nat xs i (by omega)]
    subst hx
    simp
  have hsum (i : Nat) (hi : i < n) : wrap64 ((sig (st s i, Utf8.decode s (st s i))).f0 + (sig (st s i, Utf8.decode s (st s i))).f1) = ((st s (i + 1) : Nat) : Int) := by
    have := h.le_size (show i + 1 ≤ n by omega)
    simp only [sig, st] at this ⊢
    rw [wrapZ _ (by omega) (by omega)]
    omega
  have stop (k : Nat) : bureauref02_which.l0 (k + 1) xs a (j : Int) = some (j : Int) := by
    rw [bureauref02_which.l0]
    by_cases hc : j < n
    · rw [if_pos (by omega), if_pos (by omega), hat j hc, hsum j hc, if_pos]
      have := h.step hc
      by_cases h0 : a < 0
      · omega
      · by_cases hz : a < (s.size : Int)
        · have := h2 (by omega) hz
          omega
        · have := h3 (by omega)
          omega
    · rw [if_neg (by omega), hlen]
      congr 1
      omega
  intro c
  induction c with
  | zero =>
    intro k i hc hi
    obtain rfl : i = j := by omega
    exact stop _
  | succ c ih =>
    intro k i hc hi
    by_cases he : i = j
    · subst he
      exact stop _
    · rw [show c + 1 + k + 1 = (c + k + 1) + 1 by omega, bureauref02_which.l0, if_pos (by omega), if_pos (by omega), hat i (by omega), hsum i (by omega), if_neg]
      · have hw : wrap64 ((i : Int) + 1) = ((i + 1 : Nat) : Int) := by rw [wrapZ _ (by omega) (by omega)]; omega
        rw [hw]
        exact ih k (i + 1) (by omega) (by omega)
      · have hm := st_mono s (show i + 1 ≤ j by omega)
        have := h.le_size hj
        by_cases h0 : a < 0
        · have := h1 h0
          omega
        · by_cases hz : a < (s.size : Int)
          · have := h2 (by omega) hz
            omega
          · omega
theorem map_sig {s : ByteArray} {n : Nat} (h : Signs s n) : (scan s s.size 0).map sig = (List.range n).map (fun t => sig (st s t, Utf8.decode s (st s t))) := by
  rw [h.eq, List.map_map]
  rfl
theorem which_eq {s : ByteArray} {n j : Nat} (h : Signs s n) (hs : s.size < 1000000) {a : Int} (ha : At s n a j) (k : Nat) : bureauref02_which.f (s.size + k + 1) ((scan s s.size 0).map sig) a = some (j : Int) := by
  have hn := h.le
  have hj := ha.1
  unfold bureauref02_which.f
  rw [map_sig h]
  exact which_loop h hs ha _ rfl s.size k 0 (by omega) (by omega)
theorem begins_eq {s : ByteArray} {n i : Nat} (h : Signs s n) (hs : s.size < 1000000) : bureauref02_begins.f s ((scan s s.size 0).map sig) (i : Int) = some (if i < n then ((st s i : Nat) : Int) else (s.size : Int)) := by
  unfold bureauref02_begins.f
  have hlen : ((scan s s.size 0).map sig).length = n := by rw [map_sig h]; simp
  rw [if_pos (by omega), hlen]
  by_cases hc : i < n
  · rw [if_pos (by omega), if_pos (by omega), if_pos hc, rd_T54_nat _ i (by omega)]
    simp only [map_sig h, List.getElem_map, List.getElem_range]
    rfl
  · rw [if_neg (by omega), if_neg hc]
theorem r02align_eq (s : ByteArray) (hs : s.size < 1000000) (a : Int) (k : Nat) : bureauref02_Align.f (s.size + k + 22) s a = some (alignZ s a : Int) := by
  obtain ⟨n, h⟩ := signs_ex s
  obtain ⟨j, ha⟩ := At.ex h a
  have hj := ha.1
  unfold bureauref02_Align.f
  have hW : bureauref02_which.f (s.size + k + 22) ((scan s s.size 0).map sig) a = some (j : Int) := which_eq h hs ha (k + 21)
  rw [signs_eq s hs k, Option.bind_some, hW, Option.bind_some, begins_eq h hs, Option.bind_some, alignZ_eq h ha]
  by_cases hc : j < n
  · rw [if_pos hc]
  · rw [if_neg hc, show j = n by omega, h.last]
theorem decN_1 {n b0 b1 b2 b3 : Nat} (h : b0 < 128) : Lib.decodeN n b0 b1 b2 b3 = (b0, 1) := by
  unfold Lib.decodeN
  rw [if_pos h]
theorem decN_2 {n b0 b1 b2 b3 : Nat} (h : b0 / 32 = 6) (hn : 1 < n) (h1 : b1 / 64 = 2) (hv : 128 ≤ b0 % 32 * 64 + b1 % 64) : Lib.decodeN n b0 b1 b2 b3 = (b0 % 32 * 64 + b1 % 64, 2) := by
  have c1 : ¬ b0 < 128 := by omega
  have c2 : b0 / 32 = 6 ∧ (1 < n ∧ b1 / 64 = 2) := ⟨h, hn, h1⟩
  unfold Lib.decodeN
  rw [if_neg c1, if_pos c2, if_pos hv]
theorem decN_3 {n b0 b1 b2 b3 : Nat} (h : b0 / 16 = 14) (hn : 2 < n) (h1 : b1 / 64 = 2) (h2 : b2 / 64 = 2) (hv : 2048 ≤ b0 % 16 * 4096 + b1 % 64 * 64 + b2 % 64)
    (hs : b0 % 16 * 4096 + b1 % 64 * 64 + b2 % 64 < 55296 ∨ 57344 ≤ b0 % 16 * 4096 + b1 % 64 * 64 + b2 % 64) : Lib.decodeN n b0 b1 b2 b3 = (b0 % 16 * 4096 + b1 % 64 * 64 + b2 % 64, 3) := by
  have c1 : ¬ b0 < 128 := by omega
  have c2 : ¬ (b0 / 32 = 6 ∧ (1 < n ∧ b1 / 64 = 2)) := by omega
  have c3 : b0 / 16 = 14 ∧ (1 < n ∧ b1 / 64 = 2) ∧ (2 < n ∧ b2 / 64 = 2) := ⟨h, ⟨by omega, h1⟩, hn, h2⟩
  have c4 : b0 % 16 * 4096 + b1 % 64 * 64 + b2 % 64 ≥ 2048 ∧ (b0 % 16 * 4096 + b1 % 64 * 64 + b2 % 64 < 55296 ∨ (57344 ≤ b0 % 16 * 4096 + b1 % 64 * 64 + b2 % 64 ∧ b0 % 16 * 4096 + b1 % 64 * 64 + b2 % 64 ≤ 1114111)) := ⟨hv, by omega⟩
  unfold Lib.decodeN
  rw [if_neg c1, if_neg c2, if_pos c3, if_pos c4]
theorem decN_4 {n b0 b1 b2 b3 : Nat} (h : b0 / 8 = 30) (hn : 3 < n) (h1 : b1 / 64 = 2) (h2 : b2 / 64 = 2) (h3 : b3 / 64 = 2) (hv : 65536 ≤ b0 % 8 * 262144 + b1 % 64 * 4096 + b2 % 64 * 64 + b3 % 64)
    (hs : b0 % 8 * 262144 + b1 % 64 * 4096 + b2 % 64 * 64 + b3 % 64 ≤ 1114111) : Lib.decodeN n b0 b1 b2 b3 = (b0 % 8 * 262144 + b1 % 64 * 4096 + b2 % 64 * 64 + b3 % 64, 4) := by
  have c1 : ¬ b0 < 128 := by omega
  have c2 : ¬ (b0 / 32 = 6 ∧ (1 < n ∧ b1 / 64 = 2)) := by omega
  have c3 : ¬ (b0 / 16 = 14 ∧ (1 < n ∧ b1 / 64 = 2) ∧ (2 < n ∧ b2 / 64 = 2)) := by omega
  have c4 : b0 / 8 = 30 ∧ (1 < n ∧ b1 / 64 = 2) ∧ (2 < n ∧ b2 / 64 = 2) ∧ (3 < n ∧ b3 / 64 = 2) := ⟨h, ⟨by omega, h1⟩, ⟨by omega, h2⟩, hn, h3⟩
  have c5 : b0 % 8 * 262144 + b1 % 64 * 4096 + b2 % 64 * 64 + b3 % 64 ≥ 65536 ∧ (b0 % 8 * 262144 + b1 % 64 * 4096 + b2 % 64 * 64 + b3 % 64 < 55296 ∨ (57344 ≤ b0 % 8 * 262144 + b1 % 64 * 4096 + b2 % 64 * 64 + b3 % 64 ∧ b0 % 8 * 262144 + b1 % 64 * 4096 + b2 % 64 * 64 + b3 % 64 ≤ 1114111)) := ⟨hv, by omega⟩
  unfold Lib.decodeN
  rw [if_neg c1, if_neg c2, if_neg c3, if_pos c4, if_pos c5]
theorem decN_shape (n b0 b1 b2 b3 : Nat) :
    (b0 < 128 ∧ Lib.decodeN n b0 b1 b2 b3 = (b0, 1)) ∨
    (b0 / 32 = 6 ∧ 1 < n ∧ b1 / 64 = 2 ∧ 128 ≤ b0 % 32 * 64 + b1 % 64 ∧ Lib.decodeN n b0 b1 b2 b3 = (b0 % 32 * 64 + b1 % 64, 2)) ∨
    (b0 / 16 = 14 ∧ 2 < n ∧ b1 / 64 = 2 ∧ b2 / 64 = 2 ∧ 2048 ≤ b0 % 16 * 4096 + b1 % 64 * 64 + b2 % 64 ∧ (b0 % 16 * 4096 + b1 % 64 * 64 + b2 % 64 < 55296 ∨ 57344 ≤ b0 % 16 * 4096 + b1 % 64 * 64 + b2 % 64) ∧
      Lib.decodeN n b0 b1 b2 b3 = (b0 % 16 * 4096 + b1 % 64 * 64 + b2 % 64, 3)) ∨
    (b0 / 8 = 30 ∧ 3 < n ∧ b1 / 64 = 2 ∧ b2 / 64 = 2 ∧ b3 / 64 = 2 ∧ 65536 ≤ b0 % 8 * 262144 + b1 % 64 * 4096 + b2 % 64 * 64 + b3 % 64 ∧ b0 % 8 * 262144 + b1 % 64 * 4096 + b2 % 64 * 64 + b3 % 64 ≤ 1114111 ∧
      Lib.decodeN n b0 b1 b2 b3 = (b0 % 8 * 262144 + b1 % 64 * 4096 + b2 % 64 * 64 + b3 % 64, 4)) ∨
    Lib.decodeN n b0 b1 b2 b3 = (65533, 1) := by
  unfold Lib.decodeN
  repeat' split
  all_goals first
    | (left; exact ⟨by assumption, by rfl⟩)
    | (right; left; exact ⟨by omega, by omega, by omega, by omega, by rfl⟩)
    | (right; right; left; exact ⟨by omega, by omega, by omega, by omega, by omega, by omega, by rfl⟩)
    | (right; right; right; left; exact ⟨by omega, by omega, by omega, by omega, by omega, by omega, by omega, by rfl⟩)
    | (right; right; right; right; rfl)
/-- A sign that fits stays what it is when the text is cut behind it. -/
theorem decN_cut {m m' b0 b1 b2 b3 c1 c2 c3 : Nat} (hm : 1 ≤ m) (hmm : m ≤ m') (e1 : 1 < m → b1 = c1) (e2 : 2 < m → b2 = c2) (e3 : 3 < m → b3 = c3)
    (hw : (Lib.decodeN m' b0 c1 c2 c3).2 ≤ m) : Lib.decodeN m b0 b1 b2 b3 = Lib.decodeN m' b0 c1 c2 c3 := by
  rcases decN_shape m' b0 c1 c2 c3 with ⟨h0, h⟩ | ⟨h0, hn, h1, hv, h⟩ | ⟨h0, hn, h1, h2, hv, hs, h⟩ | ⟨h0, hn, h1, h2, h3, hv, hs, h⟩ | h
  · rw [h, decN_1 h0]
  · rw [h] at hw ⊢
    have hw : 2 ≤ m := hw
    have e1 := e1 (by omega)
    subst e1
    rw [decN_2 h0 (by omega) h1 hv]
  · rw [h] at hw ⊢
    have hw : 3 ≤ m := hw
    have e1 := e1 (by omega)
    have e2 := e2 (by omega)
    subst e1 e2
    rw [decN_3 h0 (by omega) h1 h2 hv hs]
  · rw [h] at hw ⊢
    have hw : 4 ≤ m := hw
    have e1 := e1 (by omega)
    have e2 := e2 (by omega)
    have e3 := e3 (by omega)
    subst e1 e2 e3
    rw [decN_4 h0 (by omega) h1 h2 h3 hv hs]
  · have key : ∀ x, Lib.decodeN m' b0 c1 c2 c3 = x → Lib.decodeN m b0 b1 b2 b3 = x → Lib.decodeN m b0 b1 b2 b3 = Lib.decodeN m' b0 c1 c2 c3 := fun x h1 h2 => by rw [h1, h2]
    rcases decN_shape m b0 b1 b2 b3 with ⟨g0, g⟩ | ⟨g0, gn, g1, gv, g⟩ | ⟨g0, gn, g1, g2, gv, gs, g⟩ | ⟨g0, gn, g1, g2, g3, gv, gs, g⟩ | g
    · exact key _ (decN_1 g0) g
    · have e1 := e1 (by omega)
      subst e1
      exact key _ (decN_2 g0 (by omega) g1 gv) g
    · have e1 := e1 (by omega)
      have e2 := e2 (by omega)
      subst e1 e2
      exact key _ (decN_3 g0 (by omega) g1 g2 gv gs) g
    · have e1 := e1 (by omega)
      have e2 := e2 (by omega)
      have e3 := e3 (by omega)
      subst e1 e2 e3
      exact key _ (decN_4 g0 (by omega) g1 g2 g3 gv gs) g
    · rw [g, h]
theorem dec_cut (s : ByteArray) (p q i : Nat) (h : q ≤ s.size) (hp : p ≤ q) (hi : i < q - p) (hw : p + i + (Utf8.decode s (p + i)).2 ≤ q) : Utf8.decode (s.extract p q) i = Utf8.decode s (p + i) := by
  have h1 : Utf8.decode (s.extract p q) i = Lib.decodeN ((s.extract p q).size - i) (gb (s.extract p q) i) (gb (s.extract p q) (i + 1)) (gb (s.extract p q) (i + 2)) (gb (s.extract p q) (i + 3)) := Lib.decode_at _ _
  have h2 : Utf8.decode s (p + i) = Lib.decodeN (s.size - (p + i)) (gb s (p + i)) (gb s (p + i + 1)) (gb s (p + i + 2)) (gb s (p + i + 3)) := Lib.decode_at _ _
  have hz := size_sub s p q h hp
  rw [h2] at hw
  rw [h1, h2, gb_sub s p q i h hp hi]
  exact decN_cut (by omega) (by omega) (fun hh => gb_sub s p q (i + 1) h hp (by omega)) (fun hh => gb_sub s p q (i + 2) h hp (by omega)) (fun hh => gb_sub s p q (i + 3) h hp (by omega)) (by omega)
/-- As many signs lie between two places where signs begin as their numbers say. -/
theorem sub_len {s : ByteArray} {n a m : Nat} (h : Signs s n) (ha : a ≤ m) (hm : m ≤ n) : (sub s (st s a) (st s m)).length = m - a := by
  have h1 := st_mono s ha
  have h2 := h.le_size hm
  obtain ⟨c, hc⟩ := signs_ex (s.extract (st s a) (st s m))
  have hz := size_sub s _ _ h2 h1
  have hst : ∀ t, a + t ≤ m → st s (a + t) = st s a + st (s.extract (st s a) (st s m)) t := by
    intro t
    induction t with
    | zero => intro _; rfl
    | succ t ih =>
      intro ht
      have e := ih (by omega)
      have hs := h.step (t := a + t) (by omega)
      have hmm := st_mono s (show a + t + 1 ≤ m by omega)
      have hlt : st (s.extract (st s a) (st s m)) t < st s m - st s a := by omega
      have hd := dec_cut s (st s a) (st s m) (st (s.extract (st s a) (st s m)) t) h2 h1 hlt (by rw [← e]; exact hmm)
      show st s (a + t) + (Utf8.decode s (st s (a + t))).2 = st s a + (st (s.extract (st s a) (st s m)) t + (Utf8.decode (s.extract (st s a) (st s m)) (st (s.extract (st s a) (st s m)) t)).2)
      rw [hd, e, Nat.add_assoc]
  have hcm : c = m - a := by
    rcases Nat.lt_trichotomy c (m - a) with hh | hh | hh
    · exfalso
      have e := hst c (by omega)
      rw [hc.last, hz] at e
      have h3 := h.step (t := a + c) (by omega)
      have h4 := st_mono s (show a + c + 1 ≤ m by omega)
      omega
    · exact hh
    · exfalso
      have h3 := hc.lt (m - a) hh
      have e := hst (m - a) (by omega)
      rw [show a + (m - a) = m by omega] at e
      omega
  unfold sub
  rw [hc.len, hcm]
/-- The numbers of the signs between two places: one is below the other when its place is. -/
theorem st_lt {s : ByteArray} {n a b : Nat} (h : Signs s n) (ha : a ≤ n) (hb : b ≤ n) (hlt : st s a ≤ st s b) : a ≤ b := by
  rcases Nat.lt_or_ge b a with hh | hh
  · exfalso
    have h1 := h.step (t := b) (by omega)
    have h2 := st_mono s (show b + 1 ≤ a by omega)
    omega
  · exact hh
theorem back_core {s : ByteArray} {n m : Nat} (h : Signs s n) (hm : m < n) (hb : ¬ gb s (st s m) = 10) :
    (boundsZ s (ofZ s (st s m : Int) : Int)).2.2 = 0 ∧ (boundsZ s (ofZ s (st s m : Int) : Int)).1 ≤ (st s m : Int) ∧ (st s m : Int) < (boundsZ s (ofZ s (st s m : Int) : Int)).2.1 ∧
    placeZ s (ofZ s (st s m : Int) : Int) (colZ s (st s m : Int) : Int) = st s m := by
  have hlt := h.lt m hm
  have hq := ofZ_lt s (st s m : Int)
  obtain ⟨h1, h2⟩ := ofZ_in s (st s m) (by omega)
  have hal : alignZ s (st s m : Int) = st s m := alignZ_eq h (At.of h hm (Int.le_refl _) (Int.ofNat_lt.2 (h.step hm)))
  have hcol : colZ s (st s m : Int) = (sub s (bF s (ofZ s (st s m : Int))) (st s m)).length := by unfold colZ; rw [hal]
  rw [hcol]
  generalize ofZ s (st s m : Int) = q at *
  have hne : st s m ≠ bT s q := by
    intro he
    rw [he] at hb hlt
    exact hb ((bT_gb s q hq).1 hlt)
  have hz : boundsZ s (q : Int) = ((bF s q : Int), (bT s q : Int), 0) := by unfold boundsZ; rw [if_pos (by omega), Int.toNat_natCast]
  rw [hz]
  refine ⟨rfl, by simp only []; omega, by simp only []; omega, ?_⟩
  obtain ⟨a, c, hl⟩ := line_signs h q hq
  have hle := hl.le
  have ham : a ≤ m := st_lt h (by omega) (by omega) (by rw [hl.from_]; exact h1)
  have hmc : m < a + c := by
    rcases Nat.lt_or_ge m (a + c) with hh | hh
    · exact hh
    · have := st_mono s hh
      rw [hl.to_] at this
      omega
  have hlen := sub_len h ham (by omega : m ≤ n)
  rw [hl.from_] at hlen
  unfold placeZ plFrom
  rw [intoZ_in s (by omega) (by omega), Int.toNat_natCast, hlen, hl.eq, show (max ((m - a : Nat) : Int) 0).toNat = m - a by omega, List.getElem?_map, List.getElem?_range (by omega), Option.map_some]
  simp only []
  rw [show a + (m - a) = m by omega]
  omega
theorem LineBack : bureaulaw06_LineBack.Pure := by
  intro s a _ _
  refine ⟨s.size + 0 + 22, ?_⟩
  unfold bureaulaw06_LineBack.f
  rw [alive_eq, Option.bind_some, if_pos rfl]
  by_cases hs : (s.size : Int) > 2048
  · rw [if_pos hs]
  rw [if_neg hs, r02align_eq s (by omega) a 0, Option.bind_some]
  obtain ⟨n, h⟩ := signs_ex s
  obtain ⟨m, hm⟩ := At.ex h a
  rw [alignZ_eq h hm]
  by_cases hc : m < n
  · have hlt := h.lt m hc
    rw [if_neg (by omega), if_pos (by omega), if_pos (by omega), bt_gb s _ hlt, show s.size + 0 + 22 = (s.size + 21) + 1 by omega, bureaulaw06_LineBack.j0]
    by_cases hb : gb s (st s m) = 10
    · rw [if_pos (by rw [hb]; rfl)]
    · obtain ⟨h1, h2, h3, h4⟩ := back_core h hc hb
      have b1 : line_Bounds.f s (ofZ s (st s m : Int) : Int) = some (boundsZ s (ofZ s (st s m : Int) : Int)) := by unfold line_Bounds.f; rw [if_pos (by omega)]
      have b2 : line_Of.f s (st s m : Int) = some (ofZ s (st s m : Int) : Int) := rfl
      have b3 : line_Col.f s (st s m : Int) = some (colZ s (st s m : Int) : Int) := by unfold line_Col.f; rw [if_pos (by omega)]
      have hcl : colZ s (st s m : Int) ≤ s.size := by
        unfold colZ sub
        have h5 := scan_len (s.extract (bF s (ofZ s (alignZ s (st s m : Int) : Int))) (alignZ s (st s m : Int))) (s.extract (bF s (ofZ s (alignZ s (st s m : Int) : Int))) (alignZ s (st s m : Int))).size 0
        have h6 : (s.extract (bF s (ofZ s (alignZ s (st s m : Int) : Int))) (alignZ s (st s m : Int))).size ≤ s.size := by rw [ByteArray.size_extract]; omega
        omega
      have b4 : line_Place.f s (ofZ s (st s m : Int) : Int) (colZ s (st s m : Int) : Int) = some (placeZ s (ofZ s (st s m : Int) : Int) (colZ s (st s m : Int) : Int) : Int) := by
        unfold line_Place.f
        rw [if_pos ⟨by omega, by omega, by omega⟩]
      rw [if_neg (by simp only [beq_iff_eq]; omega), b2, Option.bind_some, b1, Option.bind_some, if_pos h1, if_pos h2, if_pos h3, Option.bind_some, b3, Option.bind_some, b4, Option.bind_some, h4]
      simp
  · have : m = n := by have := hm.1; omega
    rw [this, h.last, if_pos rfl, show s.size + 0 + 22 = (s.size + 21) + 1 by omega, bureaulaw06_LineBack.j0, if_pos rfl]

end Go.Proofs.YthkhjcpijecokaaDoor.Pure
