/- All signs of a word have one class, which those beside it have not; around it there is no less: for every text and place. -/
import Derived.Test.YtcinobfflfkmjaaDoorXObjectRowsx7
import Derived.Test.YtcinobfflfkmjaaDoorExt13M
import Derived.OpenShut
set_option linter.unusedVariables false
set_option linter.unusedSimpArgs false
namespace Go.Proofs.YtcinobfflfkmjaaDoor.Pure
open Go.RowKit Go.Proofs.YtcinobfflfkmjaaDoor.XObjectRows Go.Proofs.YtcinobfflfkmjaaDoorW.PrintWords Go.Proofs.YtcinobfflfkmjaaDoorW.PrintMore Go.Proofs.YtcinobfflfkmjaaDoor.Ext

def whole (x : Nat × Nat × Nat) : Bool := !(x.2.1 == 65533 && x.2.2 == 1)
/-! The numbers' bytes. -/
def enc (r : Nat) : List Nat :=
  if r < 128 then [r] else if r < 2048 then [192 + r / 64, 128 + r % 64] else if r < 65536 then [224 + r / 4096, 128 + r / 64 % 64, 128 + r % 64] else [240 + r / 262144, 128 + r / 4096 % 64, 128 + r / 64 % 64, 128 + r % 64]
def mayN (r : Nat) : Bool := r ≤ 1114111 && (r < 55296 || 57344 ≤ r)
theorem enc_lt {r : Nat} (h : r ≤ 1114111) : ∀ x ∈ enc r, x < 256 := by
  unfold enc
  intro x hx
  split at hx
  · simp only [List.mem_cons, List.not_mem_nil, or_false] at hx
    omega
  split at hx
  · simp only [List.mem_cons, List.not_mem_nil, or_false] at hx
    omega
  split at hx
  · simp only [List.mem_cons, List.not_mem_nil, or_false] at hx
    omega
  · simp only [List.mem_cons, List.not_mem_nil, or_false] at hx
    omega
/-! What the document's 'number' reads, and which so many bytes are a sign. -/
def numN (n b0 b1 b2 b3 : Nat) : Nat :=
  if n = 1 then b0 else if n = 2 then b0 % 32 * 64 + b1 % 64 else if n = 3 then (b0 % 16 * 64 + b1 % 64) * 64 + b2 % 64 else ((b0 % 8 * 64 + b1 % 64) * 64 + b2 % 64) * 64 + b3 % 64
theorem num1 (b0 b1 b2 b3 : Nat) : numN 1 b0 b1 b2 b3 = b0 := rfl
theorem num2 (b0 b1 b2 b3 : Nat) : numN 2 b0 b1 b2 b3 = b0 % 32 * 64 + b1 % 64 := rfl
theorem num3 (b0 b1 b2 b3 : Nat) : numN 3 b0 b1 b2 b3 = (b0 % 16 * 64 + b1 % 64) * 64 + b2 % 64 := rfl
theorem num4 (b0 b1 b2 b3 : Nat) : numN 4 b0 b1 b2 b3 = ((b0 % 8 * 64 + b1 % 64) * 64 + b2 % 64) * 64 + b3 % 64 := rfl
def okN (n b0 b1 b2 b3 : Nat) : Bool := mayN (numN n b0 b1 b2 b3) && enc (numN n b0 b1 b2 b3) == [b0, b1, b2, b3].take n
theorem ok1 {b0 : Nat} (b1 b2 b3 : Nat) (h0 : b0 < 256) : okN 1 b0 b1 b2 b3 = decide (b0 < 128) := by
  unfold okN mayN enc numN
  rw [if_pos rfl, Bool.eq_iff_iff]
  simp only [Bool.and_eq_true, Bool.or_eq_true, decide_eq_true_eq, beq_iff_eq, List.take_succ_cons, List.take_zero]
  constructor
  · rintro ⟨_, h⟩
    split at h
    · assumption
    · exfalso
      split at h
      · simp only [List.cons.injEq] at h
        exact absurd h.2 (by simp)
      split at h
      · simp only [List.cons.injEq] at h
        exact absurd h.2 (by simp)
      · simp only [List.cons.injEq] at h
        exact absurd h.2 (by simp)
  · intro h
    exact ⟨by omega, by rw [if_pos h]⟩
theorem ok2 {b0 b1 : Nat} (b2 b3 : Nat) (h0 : b0 < 256) (h1 : b1 < 256) : okN 2 b0 b1 b2 b3 = decide (b0 / 32 = 6 ∧ b1 / 64 = 2 ∧ 128 ≤ b0 % 32 * 64 + b1 % 64) := by
  unfold okN mayN enc numN
  rw [if_neg (by omega), if_pos rfl, Bool.eq_iff_iff]
  simp only [Bool.and_eq_true, Bool.or_eq_true, decide_eq_true_eq, beq_iff_eq, List.take_succ_cons, List.take_zero]
  generalize hr : b0 % 32 * 64 + b1 % 64 = r
  constructor
  · rintro ⟨_, h⟩
    split at h
    · cases h
    split at h
    · simp only [List.cons.injEq, and_true] at h
      omega
    split at h
    · cases h
    · cases h
  · intro h
    refine ⟨by omega, ?_⟩
    rw [if_neg (by omega), if_pos (by omega)]
    simp only [List.cons.injEq, and_true]
    omega
theorem ok3 {b0 b1 b2 : Nat} (b3 : Nat) (h0 : b0 < 256) (h1 : b1 < 256) (h2 : b2 < 256) : okN 3 b0 b1 b2 b3 =
    decide (b0 / 16 = 14 ∧ b1 / 64 = 2 ∧ b2 / 64 = 2 ∧ 2048 ≤ b0 % 16 * 4096 + b1 % 64 * 64 + b2 % 64 ∧ (b0 % 16 * 4096 + b1 % 64 * 64 + b2 % 64 < 55296 ∨ 57344 ≤ b0 % 16 * 4096 + b1 % 64 * 64 + b2 % 64)) := by
  unfold okN mayN enc numN
  rw [if_neg (by omega), if_neg (by omega), if_pos rfl, Bool.eq_iff_iff]
  simp only [Bool.and_eq_true, Bool.or_eq_true, decide_eq_true_eq, beq_iff_eq, List.take_succ_cons, List.take_zero]
  rw [show (b0 % 16 * 64 + b1 % 64) * 64 + b2 % 64 = b0 % 16 * 4096 + b1 % 64 * 64 + b2 % 64 by omega]
  generalize hr : b0 % 16 * 4096 + b1 % 64 * 64 + b2 % 64 = r
  constructor
  · rintro ⟨_, h⟩
    split at h
    · cases h
    split at h
    · cases h
    split at h
    · simp only [List.cons.injEq, and_true] at h
      omega
    · cases h
  · intro h
    refine ⟨by omega, ?_⟩
    rw [if_neg (by omega), if_neg (by omega), if_pos (by omega)]
    simp only [List.cons.injEq, and_true]
    omega
theorem ok4 {b0 b1 b2 b3 : Nat} (h0 : b0 < 256) (h1 : b1 < 256) (h2 : b2 < 256) (h3 : b3 < 256) : okN 4 b0 b1 b2 b3 =
    decide (b0 / 8 = 30 ∧ b1 / 64 = 2 ∧ b2 / 64 = 2 ∧ b3 / 64 = 2 ∧ 65536 ≤ b0 % 8 * 262144 + b1 % 64 * 4096 + b2 % 64 * 64 + b3 % 64 ∧ b0 % 8 * 262144 + b1 % 64 * 4096 + b2 % 64 * 64 + b3 % 64 ≤ 1114111) := by
  unfold okN mayN enc numN
  rw [if_neg (by omega), if_neg (by omega), if_neg (by omega), Bool.eq_iff_iff]
  simp only [Bool.and_eq_true, Bool.or_eq_true, decide_eq_true_eq, beq_iff_eq, List.take_succ_cons, List.take_zero]
  rw [show ((b0 % 8 * 64 + b1 % 64) * 64 + b2 % 64) * 64 + b3 % 64 = b0 % 8 * 262144 + b1 % 64 * 4096 + b2 % 64 * 64 + b3 % 64 by omega]
  generalize hr : b0 % 8 * 262144 + b1 % 64 * 4096 + b2 % 64 * 64 + b3 % 64 = r
  constructor
  · rintro ⟨_, h⟩
    split at h
    · cases h
    split at h
    · cases h
    split at h
    · cases h
    · simp only [List.cons.injEq, and_true] at h
      omega
  · intro h
    refine ⟨by omega, ?_⟩
    rw [if_neg (by omega), if_neg (by omega), if_neg (by omega)]
    simp only [List.cons.injEq, and_true]
    omega
/-- The model's decoding, by which so many bytes are a sign. -/
def firstOk (m b0 b1 b2 b3 : Nat) : Nat × Nat × Bool :=
  if okN 1 b0 b1 b2 b3 = true then (numN 1 b0 b1 b2 b3, 1, true)
  else if 2 ≤ m ∧ okN 2 b0 b1 b2 b3 = true then (numN 2 b0 b1 b2 b3, 2, true)
  else if 3 ≤ m ∧ okN 3 b0 b1 b2 b3 = true then (numN 3 b0 b1 b2 b3, 3, true)
  else if 4 ≤ m ∧ okN 4 b0 b1 b2 b3 = true then (numN 4 b0 b1 b2 b3, 4, true)
  else (65533, 1, false)
theorem first_decode {m b0 b1 b2 b3 : Nat} (h0 : b0 < 256) (h1 : b1 < 256) (h2 : b2 < 256) (h3 : b3 < 256) :
    firstOk m b0 b1 b2 b3 = ((Lib.decodeN m b0 b1 b2 b3).1, (Lib.decodeN m b0 b1 b2 b3).2, whole (0, Lib.decodeN m b0 b1 b2 b3)) := by
  unfold firstOk
  rw [ok1 b1 b2 b3 h0, ok2 b2 b3 h0 h1, ok3 b3 h0 h1 h2, ok4 h0 h1 h2 h3]
  simp only [decide_eq_true_eq]
  have n1 : numN 1 b0 b1 b2 b3 = b0 := rfl
  have n2 : numN 2 b0 b1 b2 b3 = b0 % 32 * 64 + b1 % 64 := rfl
  have n3 : numN 3 b0 b1 b2 b3 = b0 % 16 * 4096 + b1 % 64 * 64 + b2 % 64 := by unfold numN; rw [if_neg (by omega), if_neg (by omega), if_pos rfl]; omega
  have n4 : numN 4 b0 b1 b2 b3 = b0 % 8 * 262144 + b1 % 64 * 4096 + b2 % 64 * 64 + b3 % 64 := by unfold numN; rw [if_neg (by omega), if_neg (by omega), if_neg (by omega)]; omega
  rw [n1, n2, n3, n4]
  unfold Lib.decodeN
  by_cases c1 : b0 < 128
  · rw [if_pos c1, if_pos c1]
    have : (b0 == 65533) = false := by rw [beq_eq_false_iff_ne]; omega
    simp [whole, this]
  rw [if_neg c1, if_neg c1]
  by_cases c2 : b0 / 32 = 6 ∧ (1 < m ∧ b1 / 64 = 2)
  · rw [if_pos c2]
    by_cases d2 : b0 % 32 * 64 + b1 % 64 ≥ 128
    · rw [if_pos d2, if_pos (by omega)]
      simp [whole]
    · rw [if_neg d2, if_neg (by omega), if_neg (by omega), if_neg (by omega)]
      rfl
  rw [if_neg c2, if_neg (by omega)]
  by_cases c3 : b0 / 16 = 14 ∧ (1 < m ∧ b1 / 64 = 2) ∧ (2 < m ∧ b2 / 64 = 2)
  · rw [if_pos c3]
    by_cases d3 : b0 % 16 * 4096 + b1 % 64 * 64 + b2 % 64 ≥ 2048 ∧ (b0 % 16 * 4096 + b1 % 64 * 64 + b2 % 64 < 55296 ∨ (57344 ≤ b0 % 16 * 4096 + b1 % 64 * 64 + b2 % 64 ∧ b0 % 16 * 4096 + b1 % 64 * 64 + b2 % 64 ≤ 1114111))
    · rw [if_pos d3, if_pos (by omega)]
      simp [whole]
    · rw [if_neg d3, if_neg (by omega), if_neg (by omega)]
      rfl
  rw [if_neg c3, if_neg (by omega)]
  by_cases c4 : b0 / 8 = 30 ∧ (1 < m ∧ b1 / 64 = 2) ∧ (2 < m ∧ b2 / 64 = 2) ∧ (3 < m ∧ b3 / 64 = 2)
  · rw [if_pos c4]
    by_cases d4 : b0 % 8 * 262144 + b1 % 64 * 4096 + b2 % 64 * 64 + b3 % 64 ≥ 65536 ∧ (b0 % 8 * 262144 + b1 % 64 * 4096 + b2 % 64 * 64 + b3 % 64 < 55296 ∨ (57344 ≤ b0 % 8 * 262144 + b1 % 64 * 4096 + b2 % 64 * 64 + b3 % 64 ∧ b0 % 8 * 262144 + b1 % 64 * 4096 + b2 % 64 * 64 + b3 % 64 ≤ 1114111))
    · rw [if_pos d4, if_pos (by omega)]
      simp [whole]
    · rw [if_neg d4, if_neg (by omega)]
      rfl
  rw [if_neg c4, if_neg (by omega)]
  rfl
theorem may_eq (r : Nat) : bureauref02_May.f (r : Int) = some (mayN r) := by
  unfold bureauref02_May.f mayN
  rw [if_pos (Int.natCast_nonneg r)]
  by_cases h1 : r ≤ 1114111
  · rw [if_pos (by omega)]
    by_cases h2 : r < 55296
    · rw [if_pos (by omega)]
      simp [h1, h2]
    · rw [if_neg (by omega)]
      congr 1
      rw [Bool.eq_iff_iff]
      simp only [decide_eq_true_eq, Bool.and_eq_true, Bool.or_eq_true]
      omega
  · rw [if_neg (by omega)]
    simp [h1]
theorem lowK (K : Int) (k x : Nat) (hK : K = (k : Int)) (h : k + x < 256) : UInt8.ofNat (wrap64 (K + (x : Int)) % 256).toNat = UInt8.ofNat (k + x) := by
  congr 1
  unfold wrap64
  omega
theorem lowA (x : Nat) (h : x < 256) : UInt8.ofNat ((x : Int) % 256).toNat = UInt8.ofNat x := by
  congr 1
  omega
theorem l2 {a b a' b' : UInt8} (h1 : a = a') (h2 : b = b') : [a, b] = [a', b'] := by rw [h1, h2]
theorem l3 {a b c a' b' c' : UInt8} (h1 : a = a') (h2 : b = b') (h3 : c = c') : [a, b, c] = [a', b', c'] := by rw [h1, h2, h3]
theorem l4 {a b c d a' b' c' d' : UInt8} (h1 : a = a') (h2 : b = b') (h3 : c = c') (h4 : d = d') : [a, b, c, d] = [a', b', c', d'] := by rw [h1, h2, h3, h4]
theorem bytes_eq {r : Nat} (h : r ≤ 1114111) : bureauref02_Bytes.f (r : Int) = some ⟨((enc r).map UInt8.ofNat).toArray⟩ := by
  have e64 : Int.tdiv (r : Int) 64 = ((r / 64 : Nat) : Int) := rfl
  have e4096 : Int.tdiv (r : Int) 4096 = ((r / 4096 : Nat) : Int) := rfl
  have e262144 : Int.tdiv (r : Int) 262144 = ((r / 262144 : Nat) : Int) := rfl
  have m64 : Int.tmod (r : Int) 64 = ((r % 64 : Nat) : Int) := rfl
  have w1 := wrapN (r / 64) (by omega)
  have w2 := wrapN (r / 4096) (by omega)
  have w3 := wrapN (r / 262144) (by omega)
  have m1 : Int.tmod ((r / 64 : Nat) : Int) 64 = ((r / 64 % 64 : Nat) : Int) := rfl
  have m2 : Int.tmod ((r / 4096 : Nat) : Int) 64 = ((r / 4096 % 64 : Nat) : Int) := rfl
  unfold bureauref02_Bytes.f enc
  rw [e64, e4096, e262144, m64, w1, w2, w3, m1, m2]
  clear e64 e4096 e262144 m64 w1 w2 w3 m1 m2
  by_cases h1 : r < 128
  · rw [if_pos (by omega), if_pos h1]
    simp only [strOfNums, List.map_cons, List.map_nil, lowA r (by omega)]
  rw [if_neg (by omega), if_neg h1]
  by_cases h2 : r < 2048
  · rw [if_pos (by omega), if_pos h2]
    simp only [strOfNums, List.map_cons, List.map_nil]
    exact congrArg (fun l : List UInt8 => some (⟨l.toArray⟩ : ByteArray)) (l2 (lowK 192 192 (r / 64) rfl (by omega)) (lowK 128 128 (r % 64) rfl (by omega)))
  rw [if_neg (by omega), if_neg h2]
  by_cases h3 : r < 65536
  · rw [if_pos (by omega), if_pos h3]
    simp only [strOfNums, List.map_cons, List.map_nil]
    exact congrArg (fun l : List UInt8 => some (⟨l.toArray⟩ : ByteArray)) (l3 (lowK 224 224 (r / 4096) rfl (by omega)) (lowK 128 128 (r / 64 % 64) rfl (by omega)) (lowK 128 128 (r % 64) rfl (by omega)))
  · rw [if_neg (by omega), if_neg h3]
    simp only [strOfNums, List.map_cons, List.map_nil]
    exact congrArg (fun l : List UInt8 => some (⟨l.toArray⟩ : ByteArray)) (l4 (lowK 240 240 (r / 262144) rfl (by omega)) (lowK 128 128 (r / 4096 % 64) rfl (by omega)) (lowK 128 128 (r / 64 % 64) rfl (by omega)) (lowK 128 128 (r % 64) rfl (by omega)))
theorem num_step (k : Nat) (x : ByteArray) (a j : Nat) (hj : j < x.size) (ha : a < 1000000) (hs : x.size < 100) :
    bureauref02_number.l0 (k + 1) x (a : Int) (j : Int) = bureauref02_number.l0 k x ((a * 64 + gb x j % 64 : Nat) : Int) ((j + 1 : Nat) : Int) := by
  have hb := gb_lt x j
  rw [bureauref02_number.l0, if_pos (by omega), if_pos (by omega), bt_gb x j hj, wrapN (gb x j) (by omega)]
  have e : Int.tmod ((gb x j : Nat) : Int) 64 = ((gb x j % 64 : Nat) : Int) := rfl
  rw [e]
  congr 1
  · unfold wrap64
    omega
  · unfold wrap64
    omega
theorem num_end (k : Nat) (x : ByteArray) (a : Int) : bureauref02_number.l0 (k + 1) x a (x.size : Int) = some a := by
  rw [bureauref02_number.l0, if_neg (by omega)]
theorem number_eq (k : Nat) (x : ByteArray) (n : Nat) (hn : x.size = n) (h1 : 1 ≤ n) (h4 : n ≤ 4) :
    bureauref02_number.f (k + 6) x = some ((numN n (gb x 0) (gb x 1) (gb x 2) (gb x 3) : Nat) : Int) := by
  have h0 := gb_lt x 0
  have e0 : wrap64 (bt x 0) = ((gb x 0 : Nat) : Int) := by rw [show (0 : Int) = ((0 : Nat) : Int) from rfl, bt_gb x 0 (by omega), wrapN _ (by omega)]
  unfold bureauref02_number.f
  rw [if_pos (by omega), e0]
  have e32 : Int.tmod ((gb x 0 : Nat) : Int) 32 = ((gb x 0 % 32 : Nat) : Int) := rfl
  have e16 : Int.tmod ((gb x 0 : Nat) : Int) 16 = ((gb x 0 % 16 : Nat) : Int) := rfl
  have e8 : Int.tmod ((gb x 0 : Nat) : Int) 8 = ((gb x 0 % 8 : Nat) : Int) := rfl
  rw [e32, e16, e8]
  have e1 : (1 : Int) = ((1 : Nat) : Int) := rfl
  rcases (by omega : n = 1 ∨ n = 2 ∨ n = 3 ∨ n = 4) with hc | hc | hc | hc
  · rw [if_neg (by omega), if_neg (by omega), if_neg (by omega), bureauref02_number.j0]
    have := num_end (k + 4) x ((gb x 0 : Nat) : Int)
    rw [hn, hc] at this
    rw [e1, this, hc]
    rfl
  · rw [if_pos (by omega), bureauref02_number.j0, e1, num_step _ x _ 1 (by omega) (by omega) (by omega)]
    have := num_end (k + 3) x ((gb x 0 % 32 * 64 + gb x 1 % 64 : Nat) : Int)
    rw [hn, hc] at this
    rw [this, hc]
    rfl
  · rw [if_neg (by omega), if_pos (by omega), bureauref02_number.j0, e1, num_step _ x _ 1 (by omega) (by omega) (by omega), num_step _ x _ 2 (by omega) (by omega) (by omega)]
    have := num_end (k + 2) x (((gb x 0 % 16 * 64 + gb x 1 % 64) * 64 + gb x 2 % 64 : Nat) : Int)
    rw [hn, hc] at this
    rw [this, hc]
    rfl
  · rw [if_neg (by omega), if_neg (by omega), if_pos (by omega), bureauref02_number.j0, e1, num_step _ x _ 1 (by omega) (by omega) (by omega), num_step _ x _ 2 (by omega) (by omega) (by omega), num_step _ x _ 3 (by omega) (by omega) (by omega)]
    have := num_end (k + 1) x ((((gb x 0 % 8 * 64 + gb x 1 % 64) * 64 + gb x 2 % 64) * 64 + gb x 3 % 64 : Nat) : Int)
    rw [hn, hc] at this
    rw [this, hc]
    rfl
/-! 'one': the sign at a place. -/
theorem list_eq_gb {s : ByteArray} {i n r : Nat} (hn : i + n ≤ s.size) (h1 : 1 ≤ n) (h4 : n ≤ 4) (hr : r ≤ 1114111) :
    ((⟨((enc r).map UInt8.ofNat).toArray⟩ : ByteArray).toList = (s.extract i (i + n)).toList) ↔ enc r = [gb s i, gb s (i + 1), gb s (i + 2), gb s (i + 3)].take n := by
  rw [ByteArray.toList_eq, ByteArray.toList_eq, list_bytes (s.extract i (i + n)), size_ext s i n hn]
  have hm : (List.range n).map (fun j => (s.extract i (i + n)).get! j) = ([gb s i, gb s (i + 1), gb s (i + 2), gb s (i + 3)].take n).map UInt8.ofNat := by
    rw [List.map_congr_left (g := fun j => s.get! (i + j)) (fun j hj => get_ext s i n j hn (List.mem_range.1 hj))]
    have g0 (j : Nat) : UInt8.ofNat (gb s j) = s.get! j := by unfold gb; exact UInt8.ofNat_toNat
    rcases (by omega : n = 1 ∨ n = 2 ∨ n = 3 ∨ n = 4) with rfl | rfl | rfl | rfl <;> simp [List.range_succ, g0]
  rw [hm]
  have inj : ∀ (x y : List Nat), (∀ a ∈ x, a < 256) → (∀ a ∈ y, a < 256) → x.map UInt8.ofNat = y.map UInt8.ofNat → x = y := by
    intro x
    induction x with
    | nil => intro y _ _ h; cases y with | nil => rfl | cons a y => cases h
    | cons a x ih =>
      intro y hx hy h
      cases y with
      | nil => cases h
      | cons b y =>
        simp only [List.map_cons, List.cons.injEq] at h
        have hab := congrArg UInt8.toNat h.1
        rw [UInt8.toNat_ofNat', UInt8.toNat_ofNat'] at hab
        have ha := hx a (by simp)
        have hb := hy b (by simp)
        rw [ih y (fun a ha => hx a (by simp [ha])) (fun a ha => hy a (by simp [ha])) h.2]
        congr 1
        omega
  constructor
  · intro h
    refine inj _ _ (enc_lt hr) (fun a ha => ?_) h
    have := List.mem_of_mem_take ha
    simp only [List.mem_cons, List.not_mem_nil, or_false] at this
    have b0 := gb_lt s i
    have b1 := gb_lt s (i + 1)
    have b2 := gb_lt s (i + 2)
    have b3 := gb_lt s (i + 3)
    omega
  · intro h
    rw [h]
theorem one_step (k : Nat) (s : ByteArray) (i n : Nat) (hs : s.size < 1000000000) (h1 : 1 ≤ n) (h4 : n ≤ 4) (hn : i + n ≤ s.size) :
    bureauref02_one.l0 (k + 12) s (i : Int) (n : Int) =
      if okN n (gb s i) (gb s (i + 1)) (gb s (i + 2)) (gb s (i + 3)) = true then some ((i : Int), (n : Int), ((numN n (gb s i) (gb s (i + 1)) (gb s (i + 2)) (gb s (i + 3)) : Nat) : Int), true) else bureauref02_one.l0 (k + 10) s (i : Int) ((n + 1 : Nat) : Int) := by
  have hw : wrap64 ((s.size : Int) - (i : Int)) = (s.size : Int) - (i : Int) := wrapZ _ (by omega) (by omega)
  have hw2 : wrap64 ((i : Int) + (n : Int)) = ((i + n : Nat) : Int) := by rw [wrapZ _ (by omega) (by omega)]; omega
  have hw3 : wrap64 ((n : Int) + 1) = ((n + 1 : Nat) : Int) := by rw [wrapZ _ (by omega) (by omega)]; omega
  have c4 : (n : Int) ≤ 4 := by omega
  have cd : decide ((n : Int) ≤ (s.size : Int) - (i : Int)) = true := decide_eq_true (by omega)
  have ci : (0 : Int) ≤ (i : Int) := by omega
  have cn : (i : Int) ≤ ((i + n : Nat) : Int) := by omega
  have cs : ((i + n : Nat) : Int) ≤ (s.size : Int) := by omega
  rw [bureauref02_one.l0, if_pos c4, hw, cd, bureauref02_one.j1, if_pos rfl, if_pos ci, hw2, if_pos cn, if_pos cs, hw3, Int.toNat_natCast, Int.toNat_natCast]
  clear hw hw2 hw3 c4 cd ci cn cs
  have hx := size_ext s i n hn
  have hlt0 := gb_lt (s.extract i (i + n)) 0
  rw [number_eq (k + 4) (s.extract i (i + n)) n hx h1 h4, Option.bind_some]
  have hg (j : Nat) (hj : j < n) : gb (s.extract i (i + n)) j = gb s (i + j) := by unfold gb; rw [get_ext s i n j hn hj]
  have hg0 : gb (s.extract i (i + n)) 0 = gb s i := hg 0 (by omega)
  have hnum : numN n (gb (s.extract i (i + n)) 0) (gb (s.extract i (i + n)) 1) (gb (s.extract i (i + n)) 2) (gb (s.extract i (i + n)) 3) = numN n (gb s i) (gb s (i + 1)) (gb s (i + 2)) (gb s (i + 3)) := by
    rcases (by omega : n = 1 ∨ n = 2 ∨ n = 3 ∨ n = 4) with rfl | rfl | rfl | rfl
    · rw [num1, num1, hg0]
    · rw [num2, num2, hg0, hg 1 (by omega)]
    · rw [num3, num3, hg0, hg 1 (by omega), hg 2 (by omega)]
    · rw [num4, num4, hg0, hg 1 (by omega), hg 2 (by omega), hg 3 (by omega)]
  rw [hnum]
  generalize hr : numN n (gb s i) (gb s (i + 1)) (gb s (i + 2)) (gb s (i + 3)) = r
  rw [may_eq, Option.bind_some]
  unfold okN
  rw [hr]
  cases hm : mayN r with
  | false => simp
  | true =>
    have hr2 : r ≤ 1114111 := by simp [mayN] at hm; omega
    rw [if_pos rfl, bytes_eq hr2, Option.bind_some]
    have hl := list_eq_gb (r := r) hn h1 h4 hr2
    by_cases he : enc r = [gb s i, gb s (i + 1), gb s (i + 2), gb s (i + 3)].take n
    · rw [if_pos (hl.2 he), if_pos (by simp [he])]
    · rw [if_neg (fun h => he (hl.1 h)), if_neg (by simp [he])]
theorem one_last (k : Nat) (s : ByteArray) (i n : Nat) (hs : s.size < 1000000000) (hi : i < s.size) (hn : 4 < n ∨ s.size < i + n) :
    bureauref02_one.l0 (k + 2) s (i : Int) (n : Int) = some ((i : Int), 1, 65533, false) := by
  have hw : wrap64 ((s.size : Int) - (i : Int)) = (s.size : Int) - (i : Int) := wrapZ _ (by omega) (by omega)
  rw [bureauref02_one.l0]
  by_cases h4 : n ≤ 4
  · rw [if_pos (by omega), hw, decide_eq_false (by omega), bureauref02_one.j1, if_neg (by decide)]
  · rw [if_neg (by omega), bureauref02_one.j1, if_neg (by decide)]
theorem one_eq (k : Nat) (s : ByteArray) (i : Nat) (hs : s.size < 1000000000) (hi : i < s.size) :
    bureauref02_one.f (k + 20) s (i : Int) = some ((i : Int), (((Utf8.decode s i).2 : Nat) : Int), (((Utf8.decode s i).1 : Nat) : Int), whole (0, Utf8.decode s i)) := by
  have b0 := gb_lt s i
  have b1 := gb_lt s (i + 1)
  have b2 := gb_lt s (i + 2)
  have b3 := gb_lt s (i + 3)
  have hd : Utf8.decode s i = Lib.decodeN (s.size - i) (gb s i) (gb s (i + 1)) (gb s (i + 2)) (gb s (i + 3)) := Lib.decode_at s i
  have hf := first_decode (m := s.size - i) b0 b1 b2 b3
  rw [← hd] at hf
  have h1 := congrArg (fun x : Nat × Nat × Bool => x.1) hf
  have h2 := congrArg (fun x : Nat × Nat × Bool => x.2.1) hf
  have h3 := congrArg (fun x : Nat × Nat × Bool => x.2.2) hf
  simp only at h1 h2 h3
  rw [← h1, ← h2, ← h3]
  clear h1 h2 h3 hf hd
  unfold bureauref02_one.f firstOk
  rw [show (1 : Int) = ((1 : Nat) : Int) from rfl, one_step (k + 8) s i 1 hs (by omega) (by omega) (by omega)]
  split
  · rfl
  by_cases m2 : i + 2 ≤ s.size
  · rw [one_step (k + 6) s i 2 hs (by omega) (by omega) m2]
    split
    · rw [if_pos ⟨by omega, by assumption⟩]
    rw [if_neg (fun h => by rename_i h' ; exact h' h.2)]
    by_cases m3 : i + 3 ≤ s.size
    · rw [one_step (k + 4) s i 3 hs (by omega) (by omega) m3]
      split
      · rw [if_pos ⟨by omega, by assumption⟩]
      rw [if_neg (fun h => by rename_i h' ; exact h' h.2)]
      by_cases m4 : i + 4 ≤ s.size
      · rw [one_step (k + 2) s i 4 hs (by omega) (by omega) m4]
        split
        · rw [if_pos ⟨by omega, by assumption⟩]
        rw [if_neg (fun h => by rename_i h' ; exact h' h.2), one_last (k + 10) s i 5 hs hi (by omega)]
        rfl
      · rw [one_last (k + 12) s i 4 hs hi (by omega), if_neg (by omega)]
        rfl
    · rw [one_last (k + 14) s i 3 hs hi (by omega), if_neg (by omega), if_neg (by omega)]
      rfl
  · rw [one_last (k + 16) s i 2 hs hi (by omega), if_neg (by omega), if_neg (by omega), if_neg (by omega)]
    rfl
/-- A sign, as the document has it. -/
def sig (x : Nat × Nat × Nat) : S63 := ⟨(x.1 : Int), (x.2.2 : Int), (x.2.1 : Int), whole x⟩
theorem whole_at (i j : Nat) (d : Nat × Nat) : whole (i, d) = whole (j, d) := rfl
theorem signs_loop (s : ByteArray) (hs : s.size < 1000000) : ∀ (b k i : Nat) (acc : List S63), s.size ≤ i + b → i ≤ s.size → acc.length ≤ i →
    bureauref02_Signs.l0 (b + k + 22) s acc (i : Int) = some (acc ++ (scan s b i).map sig) := by
  intro b
  induction b with
  | zero =>
    intro k i acc h hi ha
    rw [show (0 + k + 22 : Nat) = (k + 21) + 1 by omega, bureauref02_Signs.l0, if_neg (by omega)]
    simp [scan]
  | succ b ih =>
    intro k i acc h hi ha
    rw [show (b + 1 + k + 22 : Nat) = (b + k + 22) + 1 by omega, bureauref02_Signs.l0]
    by_cases hc : i < s.size
    · have hw := width_pos s i hc
      have hf := width_fits s i hc
      have h4 := width_le4 s i
      rw [if_pos (by omega), show b + k + 22 = (b + k + 2) + 20 by omega, one_eq (b + k + 2) s i (by omega) hc, Option.bind_some]
      have hlen : acc.length < 4398046511104 := by omega
      rw [if_pos hlen]
      have hw64 : wrap64 ((i : Int) + (((Utf8.decode s i).2 : Nat) : Int)) = ((i + (Utf8.decode s i).2 : Nat) : Int) := by rw [wrapZ _ (by omega) (by omega)]; omega
      simp only []
      rw [hw64, show b + k + 2 + 20 = b + k + 22 by omega, ih k _ _ (by omega) hf (by simp; omega), scan, if_pos hc, List.append_assoc]
      rfl
    · rw [if_neg (by omega), scan, if_neg hc]
      simp
theorem signs_eq (s : ByteArray) (hs : s.size < 1000000) (k : Nat) : bureauref02_Signs.f (s.size + k + 22) s = some ((scan s s.size 0).map sig) := by
  unfold bureauref02_Signs.f
  have := signs_loop s hs s.size k 0 [] (by omega) (by omega) (by simp)
  rw [show (0 : Int) = ((0 : Nat) : Int) from rfl, this]
  rfl
theorem rd_T63_nat (xs : List S63) (i : Nat) (h : i < xs.length) : rd_T63 xs (i : Int) = xs[i] := by
  unfold rd_T63
  rw [Int.toNat_natCast, List.getD_eq_getElem?_getD, List.getElem?_eq_getElem h]
  rfl
theorem which_loop {s : ByteArray} {n j : Nat} (h : Signs s n) (hs : s.size < 1000000) {a : Int} (ha : At s n a j) (xs : List S63) (hx : xs = (List.range n).map (fun t => sig (st s t, Utf8.decode s (st s t)))) :
    ∀ (c k i : Nat), j ≤ i + c → i ≤ j → bureauref02_which.l0 (c + k + 1) xs a (i : Int) = some (j : Int) := by
  have hlen : xs.length = n := by rw [hx]; simp
  have hn := h.le
  obtain ⟨hj, h1, h2, h3⟩ := ha
  have hat (i : Nat) (hi : i < n) : rd_T63 xs (i : Int) = sig (st s i, Utf8.decode s (st s i)) := by
    rw [rd_T63_nat xs i (by omega)]
    subst hx
    simp
  have hsum (i : Nat) (hi : i < n) : wrap64 ((sig (st s i, Utf8.decode s (st s i))).f0 + (sig (st s i, Utf8.decode s (st s i))).f1) = ((st s (i + 1) : Nat) : Int) := by
    have := h.le_size (show i + 1 ≤ n by omega)
    simp only [sig, st] at this ⊢
    rw [wrapZ _ (by omega) (by omega)]
    omega
  have stop (k : Nat) : bureauref02_which.l0 (k + 1) xs a (j : Int) = some (j : Int) := by
    rw [bureauref02_which.l0]
    by_cases hc : j < n
    · rw [if_pos (by omega), if_pos (by omega), hat j hc, hsum j hc, if_pos]
      have := h.step hc
      by_cases h0 : a < 0
      · omega
      · by_cases hz : a < (s.size : Int)
        · have := h2 (by omega) hz
          omega
        · have := h3 (by omega)
          omega
    · rw [if_neg (by omega), hlen]
      congr 1
      omega
  intro c
  induction c with
  | zero =>
    intro k i hc hi
    obtain rfl : i = j := by omega
    exact stop _
  | succ c ih =>
    intro k i hc hi
    by_cases he : i = j
    · subst he
      exact stop _
    · rw [show c + 1 + k + 1 = (c + k + 1) + 1 by omega, bureauref02_which.l0, if_pos (by omega), if_pos (by omega), hat i (by omega), hsum i (by omega), if_neg]
      · have hw : wrap64 ((i : Int) + 1) = ((i + 1 : Nat) : Int) := by rw [wrapZ _ (by omega) (by omega)]; omega
        rw [hw]
        exact ih k (i + 1) (by omega) (by omega)
      · have hm := st_mono s (show i + 1 ≤ j by omega)
        have := h.le_size hj
        by_cases h0 : a < 0
        · have := h1 h0
          omega
        · by_cases hz : a < (s.size : Int)
          · have := h2 (by omega) hz
            omega
          · omega
theorem map_sig {s : ByteArray} {n : Nat} (h : Signs s n) : (scan s s.size 0).map sig = (List.range n).map (fun t => sig (st s t, Utf8.decode s (st s t))) := by
  rw [h.eq, List.map_map]
  rfl
theorem which_eq {s : ByteArray} {n j : Nat} (h : Signs s n) (hs : s.size < 1000000) {a : Int} (ha : At s n a j) (k : Nat) : bureauref02_which.f (s.size + k + 1) ((scan s s.size 0).map sig) a = some (j : Int) := by
  have hn := h.le
  have hj := ha.1
  unfold bureauref02_which.f
  rw [map_sig h]
  exact which_loop h hs ha _ rfl s.size k 0 (by omega) (by omega)
theorem begins_eq {s : ByteArray} {n i : Nat} (h : Signs s n) (hs : s.size < 1000000) : bureauref02_begins.f s ((scan s s.size 0).map sig) (i : Int) = some (if i < n then ((st s i : Nat) : Int) else (s.size : Int)) := by
  unfold bureauref02_begins.f
  have hlen : ((scan s s.size 0).map sig).length = n := by rw [map_sig h]; simp
  rw [if_pos (by omega), hlen]
  by_cases hc : i < n
  · rw [if_pos (by omega), if_pos (by omega), if_pos hc, rd_T63_nat _ i (by omega)]
    simp only [map_sig h, List.getElem_map, List.getElem_range]
    rfl
  · rw [if_neg (by omega), if_neg hc]
theorem r02align_eq (s : ByteArray) (hs : s.size < 1000000) (a : Int) (k : Nat) : bureauref02_Align.f (s.size + k + 22) s a = some (alignZ s a : Int) := by
  obtain ⟨n, h⟩ := signs_ex s
  obtain ⟨j, ha⟩ := At.ex h a
  have hj := ha.1
  unfold bureauref02_Align.f
  have hW : bureauref02_which.f (s.size + k + 22) ((scan s s.size 0).map sig) a = some (j : Int) := which_eq h hs ha (k + 21)
  rw [signs_eq s hs k, Option.bind_some, hW, Option.bind_some, begins_eq h hs, Option.bind_some, alignZ_eq h ha]
  by_cases hc : j < n
  · rw [if_pos hc]
  · rw [if_neg hc, show j = n by omega, h.last]
theorem class_eq (k : Nat) (r : Int) : glyph_Class.f (k + 4) r = some (classZ r) := by
  unfold classZ glyph_Class.f
  have j3 (k : Nat) (x : Bool) : glyph_Class.j3 (k + 1) r x = some (if x = true then 1 else if 128 ≤ r ∧ r ≤ 1114111 ∧ r ≠ 65533 then 1 else 2) := by
    rw [glyph_Class.j3]
    by_cases hx : x = true
    · rw [if_pos hx, if_pos hx]
    rw [if_neg hx, if_neg hx]
    by_cases h1 : r ≥ 128
    · rw [if_pos h1]
      by_cases h2 : r ≤ 1114111
      · rw [if_pos h2]
        by_cases h3 : r = 65533
        · rw [if_pos h3, if_neg (by omega)]
        · rw [if_neg h3, if_pos ⟨h1, h2, h3⟩]
      · rw [if_neg h2, if_neg (by omega)]
    · rw [if_neg h1, if_neg (by omega)]
  have j2 (k : Nat) (x : Bool) : glyph_Class.j2 (k + 2) r x = some (if x = true ∨ (65 ≤ r ∧ r ≤ 90) ∨ r = 95 then 1 else if 128 ≤ r ∧ r ≤ 1114111 ∧ r ≠ 65533 then 1 else 2) := by
    rw [glyph_Class.j2]
    by_cases hx : x = true
    · rw [if_pos hx, j3, if_pos hx, if_pos (Or.inl hx)]
    rw [if_neg hx]
    by_cases h1 : r ≥ 65
    · rw [if_pos h1]
      by_cases h2 : r ≤ 90
      · rw [if_pos h2, decide_eq_true h2, j3, if_pos rfl, if_pos (Or.inr (Or.inl ⟨h1, h2⟩))]
      · rw [if_neg h2, j3]
        by_cases h3 : r = 95
        · rw [if_pos (by simp [h3]), if_pos (Or.inr (Or.inr h3))]
        · rw [if_neg (by simp [h3]), if_neg (c := x = true ∨ _) (by rintro (h | h | h); exact hx h; omega; omega)]
    · rw [if_neg h1, j3]
      rw [if_neg (by simp; omega), if_neg (c := x = true ∨ _) (by rintro (h | h | h); exact hx h; omega; omega)]
  have j1 (k : Nat) (x : Bool) : glyph_Class.j1 (k + 3) r x = some (if x = true ∨ (97 ≤ r ∧ r ≤ 122) ∨ (65 ≤ r ∧ r ≤ 90) ∨ r = 95 then 1 else if 128 ≤ r ∧ r ≤ 1114111 ∧ r ≠ 65533 then 1 else 2) := by
    rw [glyph_Class.j1]
    by_cases hx : x = true
    · rw [if_pos hx, j3, if_pos hx, if_pos (Or.inl hx)]
    rw [if_neg hx]
    by_cases h1 : r ≥ 97
    · rw [if_pos h1, j2]
      by_cases h2 : r ≤ 122
      · rw [if_pos (Or.inl (decide_eq_true h2)), if_pos (Or.inr (Or.inl ⟨h1, h2⟩))]
      · rw [if_neg (by rintro (h | h | h); exact h2 (of_decide_eq_true h); omega; omega), if_neg (c := x = true ∨ _) (by rintro (h | h | h | h); exact hx h; omega; omega; omega)]
    · rw [if_neg h1, j2]
      by_cases h3 : (65 ≤ r ∧ r ≤ 90) ∨ r = 95
      · rw [if_pos (Or.inr h3), if_pos (Or.inr (Or.inr h3))]
      · rw [if_neg (by rintro (h | h); cases h; exact h3 h), if_neg (c := x = true ∨ _) (by rintro (h | h | h); exact hx h; omega; exact h3 h)]
  have j0 (k : Nat) (x : Bool) : glyph_Class.j0 (k + 4) r x = some (if x = true then 0 else if r = 10 then 3 else if (48 ≤ r ∧ r ≤ 57) ∨ (97 ≤ r ∧ r ≤ 122) ∨ (65 ≤ r ∧ r ≤ 90) ∨ r = 95 then 1 else if 128 ≤ r ∧ r ≤ 1114111 ∧ r ≠ 65533 then 1 else 2) := by
    rw [glyph_Class.j0]
    by_cases hx : x = true
    · rw [if_pos hx, if_pos hx]
    rw [if_neg hx, if_neg hx]
    by_cases h10 : r = 10
    · rw [if_pos h10, if_pos h10]
    rw [if_neg h10, if_neg h10]
    by_cases h1 : r ≥ 48
    · rw [if_pos h1, j1]
      by_cases h2 : r ≤ 57
      · rw [if_pos (Or.inl (decide_eq_true h2)), if_pos (Or.inl ⟨h1, h2⟩)]
      · by_cases h3 : (97 ≤ r ∧ r ≤ 122) ∨ (65 ≤ r ∧ r ≤ 90) ∨ r = 95
        · rw [if_pos (Or.inr h3), if_pos (Or.inr h3)]
        · rw [if_neg (by rintro (h | h); exact h2 (of_decide_eq_true h); exact h3 h), if_neg (c := (48 ≤ r ∧ r ≤ 57) ∨ _) (by rintro (h | h); omega; exact h3 h)]
    · rw [if_neg h1, j1]
      rw [if_neg (by rintro (h | h | h | h); cases h; omega; omega; omega), if_neg (c := (48 ≤ r ∧ r ≤ 57) ∨ _) (by rintro (h | h | h | h); omega; omega; omega; omega)]
  by_cases h32 : r = 32
  · rw [if_pos h32, j0, if_pos rfl, if_pos (Or.inl h32)]
  · rw [if_neg h32, j0]
    by_cases h9 : r = 9
    · rw [if_pos (by simp [h9]), if_pos (Or.inr h9)]
    · rw [if_neg (by simp [h9]), if_neg (c := r = 32 ∨ _) (by rintro (h | h); exact h32 h; exact h9 h)]
theorem ext_drop (s : ByteArray) (p : Nat) : (s.extract p s.size).data.toList = s.data.toList.drop p := by
  rw [ByteArray.data_extract, Array.toList_extract, List.extract_eq_take_drop, List.take_of_length_le]
  rw [List.length_drop, size_list]
  exact Nat.le_refl _
theorem ext_take (s : ByteArray) (q : Nat) : (s.extract 0 q).data.toList = s.data.toList.take q := by
  rw [ByteArray.data_extract, Array.toList_extract, List.extract_eq_take_drop, List.drop_zero, Nat.sub_zero]
theorem strcount_eq (s : ByteArray) : strings_Count.f s (⟨#[10]⟩ : ByteArray) = some ((s.data.toList.count 10 : Nat) : Int) := rfl
theorem index_eq (s : ByteArray) (p : Nat) : strings_IndexByte.f (s.extract p s.size) 10 = some (Lib.indexByte (s.data.toList.drop p) 10) := by
  unfold strings_IndexByte.f
  rw [ext_drop]
  rfl
theorem nE_count (s : ByteArray) : nE s = s.data.toList.count 10 + 1 := eL_len _ _
theorem nE_pos (s : ByteArray) : 1 ≤ nE s := ends_pos s
theorem nE_le (s : ByteArray) : nE s ≤ s.size + 1 := ends_le s
theorem count_eq (s : ByteArray) (hs : s.size ≤ 1000000) : line_Count.f s = some (nE s : Int) := by
  unfold line_Count.f
  have := nE_le s
  rw [strcount_eq, Option.bind_some, nE_count] at *
  congr 1
  rw [wrapZ _ (by omega) (by omega)]
  omega
theorem of_eq (s : ByteArray) (a : Int) : line_Of.f s a = some (ofZ s a : Int) := by
  unfold line_Of.f
  have hm : mn (mx a 0) (s.size : Int) = min (max a 0) (s.size : Int) := by unfold mn mx; omega
  rw [hm, if_pos (by omega), if_pos (by omega), strcount_eq, Option.bind_some, ext_take]
  rfl
theorem bounds_loop (s : ByteArray) (hs : s.size ≤ 1000000) (m : Nat) (hm : m < nE s) : ∀ (c i k : Nat), i + c = m →
    line_Bounds.l0 (c + k + 1) s (bF s i : Int) (m : Int) (i : Int) = some ((bF s m : Int), (bT s m : Int), 0) := by
  have hn := nE_le s
  intro c
  induction c with
  | zero =>
    intro i k hi
    have hi : i = m := by omega
    subst hi
    have h1 := (bF_tail s i hm).1
    rw [show 0 + k + 1 = k + 1 by omega, line_Bounds.l0, if_neg (by omega), if_pos (by omega), if_pos (by omega), Int.toNat_natCast, index_eq, Option.bind_some]
    rcases bT_index s i hm with ⟨h2, h3, h4⟩ | ⟨j, h2, h3, h4, h5, h6⟩
    · rw [h2, if_pos (by decide), h4]
    · rw [h2, if_neg (by omega), wrapZ _ (by omega) (by omega), h4]
      rfl
  | succ c ih =>
    intro i k hi
    have him : i < nE s := by omega
    have h1 := (bF_tail s i him).1
    have hw : wrap64 ((i : Int) + 1) = ((i + 1 : Nat) : Int) := by rw [wrapZ _ (by omega) (by omega)]; omega
    rw [show c + 1 + k + 1 = (c + k + 1) + 1 by omega, line_Bounds.l0, if_pos (by omega), if_pos (by omega), if_pos (by omega), Int.toNat_natCast, index_eq, Option.bind_some, hw]
    rcases bT_index s i him with ⟨h2, h3, h4⟩ | ⟨j, h2, h3, h4, h5, h6⟩
    · exfalso
      unfold nE at hm
      omega
    · have e1 : wrap64 ((j : Int) + 1) = (j : Int) + 1 := wrapZ _ (by omega) (by omega)
      have e2 : wrap64 ((bF s i : Int) + ((j : Int) + 1)) = ((bF s (i + 1) : Nat) : Int) := by rw [wrapZ _ (by omega) (by omega), h6]; omega
      rw [h2, e1, e2]
      exact ih (i + 1) k (by omega)
def boundsZ (s : ByteArray) (n : Int) : Int × Int × Int := if 0 ≤ n ∧ n < (nE s : Int) then ((bF s n.toNat : Int), (bT s n.toNat : Int), 0) else (0, 0, 2)
theorem bounds_eq (s : ByteArray) (hs : s.size ≤ 1000000) (n : Int) (k : Nat) : line_Bounds.f (s.size + k + 4) s n = some (boundsZ s n) := by
  have hn := nE_le s
  unfold line_Bounds.f boundsZ
  by_cases h0 : n < 0
  · rw [if_pos h0, show s.size + k + 4 = (s.size + k + 3) + 1 from rfl, line_Bounds.j0, if_pos rfl, if_neg (by omega)]
  rw [if_neg h0, count_eq s hs, Option.bind_some, show s.size + k + 4 = (s.size + k + 3) + 1 from rfl, line_Bounds.j0]
  by_cases h1 : n ≥ (nE s : Int)
  · rw [decide_eq_true h1, if_pos rfl, if_neg (by omega)]
  · rw [decide_eq_false h1, if_neg (by decide), if_pos (by omega)]
    obtain ⟨m, rfl⟩ : ∃ m : Nat, n = (m : Int) := ⟨n.toNat, by omega⟩
    have := bounds_loop s hs m (by omega) m 0 (s.size + k + 2 - m) (by omega)
    rw [show m + (s.size + k + 2 - m) + 1 = s.size + k + 3 by omega] at this
    exact this
theorem suffix_dec (s : ByteArray) (i : Nat) (h : i < s.size) : utf8_DecodeRuneInString.f (s.extract i s.size) = some ((((Utf8.decode s i).1 : Nat) : Int), (((Utf8.decode s i).2 : Nat) : Int)) := by
  unfold utf8_DecodeRuneInString.f
  rw [suffix_decode s i h]
theorem align_loop (s : ByteArray) (a : Nat) (ha : a < s.size) (hs : s.size < 1000000) : ∀ (n b k : Nat), n + b = 4 → glyph_Align.l0 (n * 2 + k + 2) s (a : Int) (b : Int) = some ((al s a n b : Nat) : Int) := by
  intro n
  induction n with
  | zero =>
    intro b k hb
    rw [show 0 * 2 + k + 2 = (k + 1) + 1 by omega, glyph_Align.l0, if_neg (by omega), glyph_Align.j1, if_neg (by decide)]
    rfl
  | succ n ih =>
    intro b k hb
    rw [show (n + 1) * 2 + k + 2 = ((n * 2 + k + 2) + 1) + 1 by omega, glyph_Align.l0, if_pos (by omega)]
    have hal : al s a (n + 1) b = if b ≤ a then (if gb s (a - b) / 64 = 2 then al s a n (b + 1) else if b < (Utf8.decode s (a - b)).2 then a - b else a) else a := rfl
    rw [hal]
    by_cases hc : b ≤ a
    · have hd : decide ((b : Int) ≤ (a : Int)) = true := decide_eq_true (by omega)
      have hw : wrap64 ((a : Int) - (b : Int)) = ((a - b : Nat) : Int) := by rw [wrapZ _ (by omega) (by omega)]; omega
      have hw1 : wrap64 ((b : Int) + 1) = ((b + 1 : Nat) : Int) := by rw [wrapZ _ (by omega) (by omega)]; omega
      have c1 : (0 : Int) ≤ ((a - b : Nat) : Int) := by omega
      have c2 : ((a - b : Nat) : Int) < (s.size : Int) := by omega
      have c3 : ((a - b : Nat) : Int) ≤ (s.size : Int) := by omega
      rw [hd, glyph_Align.j1, if_pos rfl, hw, hw1, if_pos c1, if_pos c2, bt_gb s (a - b) (by omega)]
      unfold utf8_RuneStart.f
      rw [Ext.start_eq _ (gb_lt s _), Option.bind_some, if_pos hc]
      by_cases hg : gb s (a - b) / 64 = 2
      · rw [if_neg (by simp [hg]), if_pos hg]
        exact ih (b + 1) k (by omega)
      · rw [if_pos (by simp [hg]), if_neg hg, if_pos c3, Int.toNat_natCast, suffix_dec s (a - b) (by omega), Option.bind_some]
        simp only []
        by_cases hl : b < (Utf8.decode s (a - b)).2
        · rw [if_pos hl, if_pos (by omega)]
        · rw [if_neg hl, if_neg (by omega)]
    · have hd : decide ((b : Int) ≤ (a : Int)) = false := decide_eq_false (by omega)
      rw [hd, glyph_Align.j1, if_neg (by decide), if_neg hc]
theorem align_eq {s : ByteArray} {n j : Nat} (h : Signs s n) (hs : s.size < 1000000) {a : Int} (ha : At s n a j) (k : Nat) : glyph_Align.f (k + 10) s a = some ((st s j : Nat) : Int) := by
  obtain ⟨hj, h1, h2, h3⟩ := ha
  unfold glyph_Align.f
  by_cases c0 : a < 0
  · rw [if_pos c0, h1 c0]
    rfl
  rw [if_neg c0]
  by_cases c1 : a ≥ (s.size : Int)
  · rw [if_pos c1, h3 c1, h.last]
  rw [if_neg c1]
  obtain ⟨e1, e2, e3⟩ := h2 (by omega) (by omega)
  obtain ⟨a, rfl⟩ : ∃ a' : Nat, a = a' := ⟨a.toNat, by omega⟩
  have := align_loop s a (by omega) hs 4 0 k (by omega)
  rw [show 4 * 2 + k + 2 = k + 10 by omega] at this
  rw [show (0 : Int) = ((0 : Nat) : Int) from rfl, this, al_eq h e1 (by omega) (by omega)]
theorem alignP_eq (s : ByteArray) (hs : s.size < 1000000) (a : Int) (k : Nat) : glyph_Align.f (k + 10) s a = some (alignZ s a : Int) := by
  obtain ⟨n, h⟩ := signs_ex s
  obtain ⟨j, hj⟩ := At.ex h a
  rw [align_eq h hs hj k, alignZ_eq h hj]
theorem ofZ_lt (s : ByteArray) (a : Int) : ofZ s a < nE s := by
  rw [nE_count]
  unfold ofZ
  have := List.Sublist.count_le (10 : UInt8) (List.take_sublist (min (max a 0) (s.size : Int)).toNat s.data.toList)
  omega
theorem bF_of (s : ByteArray) : ∀ (p : Nat), p ≤ s.size → bF s ((s.data.toList.take p).count 10) ≤ p ∧ p ≤ bT s ((s.data.toList.take p).count 10) := by
  intro p
  induction p with
  | zero =>
    intro _
    rw [List.take_zero, List.count_nil]
    exact ⟨Nat.zero_le _, Nat.zero_le _⟩
  | succ p ih =>
    intro hp
    obtain ⟨h1, h2⟩ := ih (by omega)
    have hlen : p < s.data.toList.length := by rw [← size_list]; omega
    have hlt : (s.data.toList.take p).count 10 < nE s := by
      rw [nE_count]
      have := List.Sublist.count_le (10 : UInt8) (List.take_sublist p s.data.toList)
      omega
    have ht : s.data.toList.take (p + 1) = s.data.toList.take p ++ [s.data.toList[p]] := by rw [List.take_add_one, List.getElem?_eq_getElem hlen]; rfl
    have hgb : gb s p = s.data.toList[p].toNat := gb_list s p _ (List.getElem?_eq_getElem hlen)
    rw [ht, List.count_append]
    generalize hq : (s.data.toList.take p).count 10 = q at *
    by_cases hc : s.data.toList[p] = 10
    · have he : bT s q = p := by
        rcases bT_index s q hlt with ⟨h3, h4, h5⟩ | ⟨j, h3, h4, h5, h6, h7⟩
        · exfalso
          -- no line end from bF on, yet one at p
          obtain ⟨e1, e2⟩ := bF_tail s q hlt
          have hcnt := eL_len (s.data.toList.drop (bF s q)) (bF s q)
          rw [e2, List.length_drop] at hcnt
          have h0 : (s.data.toList.drop (bF s q)).count 10 = 0 := by omega
          have hmem : (10 : UInt8) ∈ s.data.toList.drop (bF s q) := by
            rw [← hc]
            have : s.data.toList[p] = (s.data.toList.drop (bF s q))[p - bF s q]'(by rw [List.length_drop]; omega) := by
              rw [List.getElem_drop]
              congr 1
              omega
            rw [this]
            exact List.getElem_mem _
          exact absurd (List.count_pos_iff.2 hmem) (by omega)
        · rcases Nat.lt_or_ge p (bT s q) with hlt2 | hge
          · exfalso
            -- p lies ahead of the first line end
            have hix := h3
            have key : ∀ (l : List UInt8) (i : Nat), Lib.indexByte l 10 = (i : Int) → ∀ t, t < i → l[t]? ≠ some 10 := by
              intro l
              induction l with
              | nil => intro i hi; exact absurd hi (by simp [Lib.indexByte])
              | cons c r ihl =>
                intro i hi t ht
                have hx : Lib.indexByte (c :: r) 10 = if (c == 10) = true then 0 else if (Lib.indexByte r 10 == -1) = true then -1 else Lib.indexByte r 10 + 1 := rfl
                rw [hx] at hi
                by_cases h10 : (c == 10) = true
                · rw [if_pos h10] at hi
                  omega
                · rw [if_neg h10] at hi
                  by_cases hm : (Lib.indexByte r 10 == -1) = true
                  · rw [if_pos hm] at hi
                    omega
                  · rw [if_neg hm] at hi
                    cases t with
                    | zero =>
                      rw [List.getElem?_cons_zero]
                      intro he
                      apply h10
                      rw [Option.some.inj he]
                      rfl
                    | succ t =>
                      rw [List.getElem?_cons_succ]
                      exact ihl (i - 1) (by omega) t (by omega)
            have := key _ _ hix (p - bF s q) (by omega)
            rw [List.getElem?_drop, show bF s q + (p - bF s q) = p by omega, List.getElem?_eq_getElem hlen, hc] at this
            exact this rfl
          · omega
      rw [hc]
      have h10 : List.count (10 : UInt8) [10] = 1 := rfl
      rw [h10]
      have hf : bF s (q + 1) = bT s q + 1 := rfl
      have hq1 : q + 1 < nE s := (bT_last s q hlt).1 (by omega)
      have hb := bT_le s (q + 1) hq1
      exact ⟨by omega, by omega⟩
    · have h0 : List.count (10 : UInt8) [s.data.toList[p]] = 0 := by
        rw [List.count_cons_of_ne hc]
        rfl
      rw [h0, Nat.add_zero]
      refine ⟨by omega, ?_⟩
      rcases Nat.lt_or_ge p (bT s q) with hlt2 | hge
      · omega
      · exfalso
        have he : bT s q = p := by omega
        have := (bT_gb s q hlt).1 (by omega)
        rw [he, hgb] at this
        apply hc
        exact UInt8.toNat_inj.1 this
theorem ofZ_in (s : ByteArray) (p : Nat) (h : p ≤ s.size) : bF s (ofZ s (p : Int)) ≤ p ∧ p ≤ bT s (ofZ s (p : Int)) := by
  have := bF_of s p h
  have e : (min (max (p : Int) 0) (s.size : Int)).toNat = p := by omega
  unfold ofZ
  rw [e]
  exact this
theorem at_eq {s : ByteArray} {n j : Nat} (h : Signs s n) (hs : s.size < 1000000) {a : Int} (ha : At s n a j) (k : Nat) :
    glyph_At.f (k + 10) s a = some (if j < n then ((((Utf8.decode s (st s j)).1 : Nat) : Int), (((Utf8.decode s (st s j)).2 : Nat) : Int)) else (0, 0)) := by
  unfold glyph_At.f
  rw [align_eq h hs ha k, Option.bind_some]
  by_cases hc : j < n
  · have hl := h.lt j hc
    rw [if_neg (by omega), if_pos (by omega), if_pos (by omega), Int.toNat_natCast, suffix_dec s _ hl, Option.bind_some, if_pos hc]
  · have : j = n := by have := ha.1; omega
    rw [this, h.last, if_pos rfl, if_neg (by omega)]
theorem next_eq {s : ByteArray} {n j : Nat} (h : Signs s n) (hs : s.size < 1000000) {a : Int} (ha : At s n a j) (k : Nat) :
    glyph_Next.f (k + 10) s a = some (if j < n then ((st s (j + 1) : Nat) : Int) else (s.size : Int)) := by
  unfold glyph_Next.f
  rw [at_eq h hs ha k, Option.bind_some, align_eq h hs ha k, Option.bind_some]
  by_cases hc : j < n
  · have hl := h.le_size (show j + 1 ≤ n by omega)
    rw [if_pos hc, if_pos hc]
    simp only [st] at hl ⊢
    congr 1
    rw [wrapZ _ (by omega) (by omega)]
    omega
  · have : j = n := by have := ha.1; omega
    rw [if_neg hc, if_neg hc, this, h.last]
    congr 1
    rw [wrapZ _ (by omega) (by omega)]
    simp
theorem prev_eq {s : ByteArray} {n j : Nat} (h : Signs s n) (hs : s.size < 1000000) {a : Int} (ha : At s n a j) (k : Nat) :
    glyph_Prev.f (k + 10) s a = some (if j = 0 then 0 else ((st s (j - 1) : Nat) : Int)) := by
  unfold glyph_Prev.f
  have hsz := h.le_size ha.1
  have hw : wrap64 ((st s j : Int) - 1) = (st s j : Int) - 1 := wrapZ _ (by omega) (by omega)
  rw [align_eq h hs ha k, Option.bind_some, hw]
  by_cases hc : j = 0
  · subst hc
    rw [if_pos rfl, align_eq h hs (j := 0) ⟨by omega, fun _ => rfl, fun h0 => by simp [st] at h0, fun h0 => by simp [st] at h0; omega⟩ k]
    rfl
  · have hj := ha.1
    have hst := h.step (t := j - 1) (by omega)
    rw [show j - 1 + 1 = j by omega] at hst
    rw [if_neg hc, align_eq h hs (At.of h (m := j - 1) (by omega) (by omega) (by rw [show j - 1 + 1 = j by omega]; omega)) k]
    rfl
/-! ### what Find makes of a pair -/
def fin3 (around : Bool) (z : Int × Int × Bool) : Int × Int × Bool := if z.2.2 = true then (if around = true then (z.1, z.2.1 + 1, true) else (z.1 + 1, z.2.1, true)) else (0, 0, false)
theorem j3_eq (k : Nat) (around : Bool) (z : Int × Int × Bool) (h0 : -1000000 < z.1 ∧ z.1 < 1000000) (h1 : -1000000 < z.2.1 ∧ z.2.1 < 1000000) : object_Find.j3 (k + 1) around z.1 z.2.1 z.2.2 = some (fin3 around z) := by
  have w0 : wrap64 (z.1 + 1) = z.1 + 1 := wrapZ _ (by omega) (by omega)
  have w1 : wrap64 (z.2.1 + 1) = z.2.1 + 1 := wrapZ _ (by omega) (by omega)
  rw [object_Find.j3, w0, w1]
  unfold fin3
  cases z.2.2
  · rfl
  · cases around <;> rfl
theorem find_head (s : ByteArray) (hs : s.size < 1000000) (at_ : Int) (around : Bool) (key : Int) (k : Nat) : object_Find.f (k + 10) s at_ around key =
    (if ((alignZ s at_ : Nat) : Int) = (s.size : Int) then (some (0, 0, false)) else (if key = 119 then ((object_word.f (k + 10) s ((alignZ s at_ : Nat) : Int) around).bind fun bt153 => (some (bt153.1, bt153.2, true))) else (if key = 40 then (object_Find.j0 (k + 10) s ((alignZ s at_ : Nat) : Int) around key 0 0 false key (key == 40)) else (if key = 41 then (object_Find.j0 (k + 10) s ((alignZ s at_ : Nat) : Int) around key 0 0 false key (key == 41)) else (object_Find.j0 (k + 10) s ((alignZ s at_ : Nat) : Int) around key 0 0 false key (key == 98)))))) := by
  unfold object_Find.f
  rw [alignP_eq s hs at_ k, Option.bind_some]
theorem rclass_eq (k : Nat) (r : Int) : bureauref02_Class.f (k + 3) r = some (classZ r) := by
  have j1 (k : Nat) (x : Bool) : bureauref02_Class.j1 (k + 1) r x = some (if x = true then 1 else if 128 ≤ r ∧ r ≤ 1114111 ∧ r ≠ 65533 then 1 else 2) := by
    rw [bureauref02_Class.j1]
    by_cases hx : x = true
    · rw [if_pos hx, if_pos hx]
    rw [if_neg hx, if_neg hx]
    by_cases h1 : r ≥ 128
    · rw [if_pos h1]
      by_cases h2 : r ≤ 1114111
      · rw [if_pos h2]
        by_cases h3 : r = 65533
        · rw [if_pos h3, if_neg (by omega)]
        · rw [if_neg h3, if_pos ⟨h1, h2, h3⟩]
      · rw [if_neg h2, if_neg (by omega)]
    · rw [if_neg h1, if_neg (by omega)]
  have j95 (k : Nat) : bureauref02_Class.j1 (k + 1) r (r == 95) = some (if r = 95 then 1 else if 128 ≤ r ∧ r ≤ 1114111 ∧ r ≠ 65533 then 1 else 2) := by
    rw [j1]
    by_cases h : r = 95
    · rw [if_pos (by simp [h]), if_pos h]
    · rw [if_neg (by simp [h]), if_neg h]
  have jt (k : Nat) : bureauref02_Class.j1 (k + 1) r true = some 1 := by rw [j1, if_pos rfl]
  have j0 (k : Nat) (x : Bool) : bureauref02_Class.j0 (k + 2) r x = some (if x = true then 0 else if r = 10 then 3 else if (48 ≤ r ∧ r ≤ 57) ∨ (97 ≤ r ∧ r ≤ 122) ∨ (65 ≤ r ∧ r ≤ 90) ∨ r = 95 then 1 else if 128 ≤ r ∧ r ≤ 1114111 ∧ r ≠ 65533 then 1 else 2) := by
    rw [bureauref02_Class.j0]
    simp only [jt, j95]
    by_cases hx : x = true
    · rw [if_pos hx, if_pos hx]
    rw [if_neg hx, if_neg hx]
    by_cases h10 : r = 10
    · rw [if_pos h10, if_pos h10]
    rw [if_neg h10, if_neg h10]
    by_cases hm : (48 ≤ r ∧ r ≤ 57) ∨ (97 ≤ r ∧ r ≤ 122) ∨ (65 ≤ r ∧ r ≤ 90) ∨ r = 95
    · rw [if_pos hm]
      repeat' split
      all_goals first | rfl | (exfalso; omega)
    · rw [if_neg hm, if_neg (c := r = 95) (fun h => hm (Or.inr (Or.inr (Or.inr h))))]
      repeat' split
      all_goals first | rfl | (exfalso; omega)
  unfold bureauref02_Class.f classZ
  by_cases h32 : r = 32
  · rw [if_pos h32, j0 (k + 1), if_pos rfl, if_pos (Or.inl h32)]
  · rw [if_neg h32, j0 (k + 1)]
    by_cases h9 : r = 9
    · rw [if_pos (by simp [h9]), if_pos (Or.inr h9)]
    · rw [if_neg (by simp [h9]), if_neg (c := r = 32 ∨ _) (by rintro (h | h); exact h32 h; exact h9 h)]
/-! ### rows -/
/-- The class of a sign, by its number; -1: there is none. -/
def cl (s : ByteArray) (n j : Nat) : Int := if j < n then classZ (((Utf8.decode s (st s j)).1 : Nat) : Int) else -1
theorem classZ_nonneg (r : Int) : 0 ≤ classZ r := by unfold classZ; repeat' split <;> try omega
theorem cl_in {s : ByteArray} {n j : Nat} (h : j < n) : 0 ≤ cl s n j := by unfold cl; rw [if_pos h]; exact classZ_nonneg _
theorem cl_out {s : ByteArray} {n j : Nat} (h : ¬ j < n) : cl s n j = -1 := by unfold cl; rw [if_neg h]
theorem At.st {s : ByteArray} {n j : Nat} (h : Signs s n) (hj : j ≤ n) : At s n ((Ext.st s j : Nat) : Int) j := by
  by_cases c : j < n
  · exact At.of h c (Int.le_refl _) (Int.ofNat_lt.2 (h.step c))
  · obtain rfl : j = n := by omega
    refine ⟨Nat.le_refl _, fun h0 => by omega, fun _ h1 => ?_, fun _ => rfl⟩
    rw [h.last] at h1
    omega
theorem st_lt_iff {s : ByteArray} {n a b : Nat} (h : Signs s n) (ha : a ≤ n) (hb : b ≤ n) : Ext.st s a < Ext.st s b ↔ a < b := by
  constructor
  · intro hl
    by_cases c : a < b
    · exact c
    · have := st_mono s (show b ≤ a by omega)
      omega
  · intro hl
    have h1 := h.step (show a < n by omega)
    have h2 := st_mono s (show a + 1 ≤ b by omega)
    omega
theorem st_inj {s : ByteArray} {n a b : Nat} (h : Signs s n) (ha : a ≤ n) (hb : b ≤ n) (e : Ext.st s a = Ext.st s b) : a = b := by
  have h1 := st_lt_iff h ha hb
  have h2 := st_lt_iff h hb ha
  omega
theorem class_at {s : ByteArray} {n j : Nat} (h : Signs s n) (hs : s.size < 1000000) (hj : j ≤ n) (k : Nat) : object_class.f (k + 20) s ((Ext.st s j : Nat) : Int) = some (cl s n j) := by
  have hsz := h.le_size hj
  unfold object_class.f
  rw [if_neg (by omega), show k + 20 = (k + 9 + 10) + 1 by omega, object_class.j0]
  by_cases c : j < n
  · have hl := h.lt j c
    rw [decide_eq_false (by omega), if_neg (by simp), at_eq h hs (At.st h hj) (k + 9), Option.bind_some, if_pos c, show k + 9 + 10 = (k + 15) + 4 by omega, class_eq, Option.bind_some]
    unfold cl
    rw [if_pos c]
  · have hl := h.last
    obtain rfl : j = n := by omega
    rw [decide_eq_true (by omega), if_pos rfl, cl_out c]
theorem rnext_at {s : ByteArray} {n j : Nat} (h : Signs s n) (hs : s.size < 1000000) (hj : j < n) (k : Nat) : bureauref02_Next.f (s.size + k + 22) s ((Ext.st s j : Nat) : Int) = some ((Ext.st s (j + 1) : Nat) : Int) := by
  have hn := h.le
  unfold bureauref02_Next.f
  have hw : wrap64 ((j : Int) + 1) = ((j + 1 : Nat) : Int) := by rw [wrapZ _ (by omega) (by omega)]; omega
  have hW : bureauref02_which.f (s.size + k + 22) ((scan s s.size 0).map sig) ((Ext.st s j : Nat) : Int) = some (j : Int) := which_eq h hs (At.st h (by omega)) (k + 21)
  rw [signs_eq s hs k, Option.bind_some, hW, Option.bind_some, hw, begins_eq h hs, Option.bind_some]
  by_cases hc : j + 1 < n
  · rw [if_pos hc]
  · rw [if_neg hc, show j + 1 = n by omega, h.last]
theorem rprev_at {s : ByteArray} {n j : Nat} (h : Signs s n) (hs : s.size < 1000000) (hj : j ≤ n) (h0 : 0 < j) (k : Nat) : bureauref02_Prev.f (s.size + k + 22) s ((Ext.st s j : Nat) : Int) = some ((Ext.st s (j - 1) : Nat) : Int) := by
  have hn := h.le
  unfold bureauref02_Prev.f
  have hw : wrap64 ((j : Int) - 1) = ((j - 1 : Nat) : Int) := by rw [wrapZ _ (by omega) (by omega)]; omega
  have hW : bureauref02_which.f (s.size + k + 22) ((scan s s.size 0).map sig) ((Ext.st s j : Nat) : Int) = some (j : Int) := which_eq h hs (At.st h hj) (k + 21)
  rw [signs_eq s hs k, Option.bind_some, hW, Option.bind_some, if_neg (by omega), hw, begins_eq h hs, Option.bind_some, if_pos (by omega)]
theorem rclass_at {s : ByteArray} {n j : Nat} (h : Signs s n) (hs : s.size < 1000000) (hj : j ≤ n) (k : Nat) : bureaulaw13_class.f (s.size + k + 30) s ((Ext.st s j : Nat) : Int) = some (cl s n j) := by
  have hsz := h.le_size hj
  have hlen : ((scan s s.size 0).map sig).length = n := by rw [map_sig h]; simp
  unfold bureaulaw13_class.f
  rw [if_neg (by omega), show s.size + k + 30 = (s.size + (k + 7) + 22) + 1 by omega, bureaulaw13_class.j0]
  by_cases c : j < n
  · have hl := h.lt j c
    have hW : bureauref02_which.f (s.size + (k + 7) + 22) ((scan s s.size 0).map sig) ((Ext.st s j : Nat) : Int) = some (j : Int) := which_eq h hs (At.st h hj) (k + 7 + 21)
    rw [decide_eq_false (by omega), if_neg (by simp)]
    have rA : bureauref02_At.f (s.size + (k + 7) + 22) s ((Ext.st s j : Nat) : Int) = some ((((Utf8.decode s (Ext.st s j)).1 : Nat) : Int), (((Utf8.decode s (Ext.st s j)).2 : Nat) : Int)) := by
      unfold bureauref02_At.f
      rw [signs_eq s hs (k + 7), Option.bind_some, hW, Option.bind_some, hlen, if_neg (by omega), if_pos (by omega), if_pos (by omega), rd_T63_nat _ j (by omega)]
      simp only [map_sig h, List.getElem_map, List.getElem_range]
      rfl
    rw [rA, Option.bind_some, show s.size + (k + 7) + 22 = (s.size + k + 26) + 3 by omega, rclass_eq, Option.bind_some]
    unfold cl
    rw [if_pos c]
  · have hl := h.last
    obtain rfl : j = n := by omega
    rw [decide_eq_true (by omega), if_pos rfl, cl_out c]
/-- The first sign of a row, from one of its signs down. -/
def dn (s : ByteArray) (n : Nat) (c : Int) : Nat → Nat
  | 0 => 0
  | j + 1 => if cl s n j = c then dn s n c j else j + 1
/-- The first sign behind a row, from one of its signs up. -/
def up (s : ByteArray) (n : Nat) (c : Int) : Nat → Nat → Nat
  | 0, j => j
  | d + 1, j => if cl s n j = c then up s n c d (j + 1) else j
theorem dn_spec (s : ByteArray) (n : Nat) (c : Int) : ∀ j, dn s n c j ≤ j ∧ (∀ i, dn s n c j ≤ i → i < j → cl s n i = c) ∧ (dn s n c j = 0 ∨ cl s n (dn s n c j - 1) ≠ c)
  | 0 => ⟨Nat.le_refl _, fun i _ h => by omega, .inl rfl⟩
  | j + 1 => by
    obtain ⟨h1, h2, h3⟩ := dn_spec s n c j
    unfold dn
    by_cases e : cl s n j = c
    · rw [if_pos e]
      refine ⟨by omega, fun i a b => ?_, h3⟩
      by_cases q : i = j
      · rw [q, e]
      · exact h2 i a (by omega)
    · rw [if_neg e]
      exact ⟨Nat.le_refl _, fun i _ _ => by omega, .inr (by simpa using e)⟩
theorem up_spec (s : ByteArray) (n : Nat) (c : Int) (hc : 0 ≤ c) : ∀ d j, j + d = n → j ≤ up s n c d j ∧ up s n c d j ≤ n ∧ (∀ i, j ≤ i → i < up s n c d j → cl s n i = c) ∧ cl s n (up s n c d j) ≠ c
  | 0, j, e => ⟨Nat.le_refl _, by unfold up; omega, fun i _ h => by unfold up at h; omega, by unfold up; rw [cl_out (by omega)]; omega⟩
  | d + 1, j, e => by
    unfold up
    by_cases q : cl s n j = c
    · rw [if_pos q]
      obtain ⟨h1, h2, h3, h4⟩ := up_spec s n c hc d (j + 1) (by omega)
      refine ⟨by omega, h2, fun i a b => ?_, h4⟩
      by_cases qi : i = j
      · rw [qi, q]
      · exact h3 i (by omega) b
    · rw [if_neg q]
      exact ⟨Nat.le_refl _, by omega, fun i _ _ => by omega, q⟩
theorem row_up {s : ByteArray} {n : Nat} (h : Signs s n) (hs : s.size < 1000000) (c : Int) (hc : 0 ≤ c) (x : Int) : ∀ (d j f : Nat), j + d = n → d + 30 ≤ f →
    object_row.l1 f s c x ((Ext.st s j : Nat) : Int) = some (x, ((Ext.st s (up s n c d j) : Nat) : Int))
  | d, j, 0, e, hf => by omega
  | 0, j, f + 1, e, hf => by
    have hcl := class_at h hs (show j ≤ n by omega) (f - 20)
    rw [show f - 20 + 20 = f by omega] at hcl
    rw [object_row.l1, hcl, Option.bind_some, cl_out (by omega), if_neg (by omega)]
    rfl
  | d + 1, j, f + 1, e, hf => by
    have hcl := class_at h hs (show j ≤ n by omega) (f - 20)
    rw [show f - 20 + 20 = f by omega] at hcl
    rw [object_row.l1, hcl, Option.bind_some]
    unfold up
    by_cases q : cl s n j = c
    · have hnx := next_eq h hs (At.st h (show j ≤ n by omega)) (f - 10)
      rw [show f - 10 + 10 = f by omega, if_pos (by omega)] at hnx
      rw [if_pos q, if_pos q, hnx, Option.bind_some]
      exact row_up h hs c hc x d (j + 1) f (by omega) (by omega)
    · rw [if_neg q, if_neg q]
theorem row_dn {s : ByteArray} {n : Nat} (h : Signs s n) (hs : s.size < 1000000) (c : Int) (hc : 0 ≤ c) (m : Nat) (hm : m ≤ n) : ∀ (j f : Nat), j ≤ n → j + (n - m) + 33 ≤ f →
    object_row.l0 f s c ((Ext.st s j : Nat) : Int) ((Ext.st s m : Nat) : Int) = some (((Ext.st s (dn s n c j) : Nat) : Int), ((Ext.st s (up s n c (n - m) m) : Nat) : Int))
  | j, 0, hj, hf => by omega
  | j, 1, hj, hf => by omega
  | 0, f + 2, hj, hf => by
    rw [object_row.l0, if_neg (by simp [Ext.st]), object_row.j1]
    exact row_up h hs c hc _ (n - m) m f (by omega) (by omega)
  | j + 1, f + 2, hj, hf => by
    have hpos : 0 < Ext.st s (j + 1) := by have := (st_lt_iff h (show 0 ≤ n by omega) hj).2 (by omega); omega
    have hpv := prev_eq h hs (At.st h hj) (f + 1 - 10)
    rw [show f + 1 - 10 + 10 = f + 1 by omega, if_neg (by omega), show j + 1 - 1 = j by omega] at hpv
    have hcl := class_at h hs (show j ≤ n by omega) (f + 1 - 20)
    rw [show f + 1 - 20 + 20 = f + 1 by omega] at hcl
    rw [object_row.l0, if_pos (by omega), hpv, Option.bind_some, hcl, Option.bind_some]
    by_cases q : cl s n j = c
    · rw [if_pos q, Option.bind_some]
      rw [show dn s n c (j + 1) = dn s n c j by rw [dn, if_pos q]]
      exact row_dn h hs c hc m hm j (f + 1) (by omega) (by omega)
    · rw [if_neg q, object_row.j1, show dn s n c (j + 1) = j + 1 by rw [dn, if_neg q]]
      exact row_up h hs c hc _ (n - m) m f (by omega) (by omega)
def rowF (s : ByteArray) (n j : Nat) : Nat := dn s n (cl s n j) j
def rowT (s : ByteArray) (n j : Nat) : Nat := up s n (cl s n j) (n - j) j
theorem row_at {s : ByteArray} {n j : Nat} (h : Signs s n) (hs : s.size < 1000000) (hj : j < n) (f : Nat) (hf : s.size + 40 ≤ f) :
    object_row.f f s ((Ext.st s j : Nat) : Int) = some (((Ext.st s (rowF s n j) : Nat) : Int), ((Ext.st s (rowT s n j) : Nat) : Int)) := by
  have hn := h.le
  have hcl := class_at h hs (show j ≤ n by omega) (f - 20)
  rw [show f - 20 + 20 = f by omega] at hcl
  unfold object_row.f
  rw [hcl, Option.bind_some]
  exact row_dn h hs _ (cl_in hj) j (by omega) j f (by omega) (by omega)
theorem row_spec {s : ByteArray} {n j : Nat} (hj : j < n) : rowF s n j ≤ j ∧ j < rowT s n j ∧ rowT s n j ≤ n ∧ (∀ i, rowF s n j ≤ i → i < rowT s n j → cl s n i = cl s n j) ∧ (rowF s n j = 0 ∨ cl s n (rowF s n j - 1) ≠ cl s n j) ∧ cl s n (rowT s n j) ≠ cl s n j := by
  obtain ⟨a1, a2, a3⟩ := dn_spec s n (cl s n j) j
  obtain ⟨b1, b2, b3, b4⟩ := up_spec s n (cl s n j) (cl_in hj) (n - j) j (by omega)
  have hlt : j < rowT s n j := by
    have : rowT s n j ≠ j := fun e => b4 (by rw [show up s n (cl s n j) (n - j) j = j from e])
    have : j ≤ rowT s n j := b1
    omega
  refine ⟨a1, hlt, b2, fun i x y => ?_, a3, b4⟩
  by_cases q : i < j
  · exact a2 i x q
  · exact b3 i (by omega) y
/-- A word's signs, or those with the blanks beside it. -/
def wordF (s : ByteArray) (n j : Nat) : Nat :=
  if (cl s n j = 0 ∧ (cl s n (rowT s n j) = 1 ∨ cl s n (rowT s n j) = 2)) ∨ (cl s n j ≠ 0 ∧ cl s n (rowT s n j) = 0) then rowF s n j
  else if cl s n j ≠ 0 ∧ 0 < rowF s n j ∧ cl s n (rowF s n j - 1) = 0 then rowF s n (rowF s n j - 1) else rowF s n j
def wordT (s : ByteArray) (n j : Nat) : Nat :=
  if (cl s n j = 0 ∧ (cl s n (rowT s n j) = 1 ∨ cl s n (rowT s n j) = 2)) ∨ (cl s n j ≠ 0 ∧ cl s n (rowT s n j) = 0) then rowT s n (rowT s n j) else rowT s n j
theorem cl_lt {s : ByteArray} {n j : Nat} (h : 0 ≤ cl s n j) : j < n := by
  by_cases c : j < n
  · exact c
  · rw [cl_out c] at h; omega
theorem word_at {s : ByteArray} {n j : Nat} (h : Signs s n) (hs : s.size < 1000000) (hj : j < n) (around : Bool) (f : Nat) (hf : s.size + 60 ≤ f) :
    object_word.f f s ((Ext.st s j : Nat) : Int) around = some (if around = true then (((Ext.st s (wordF s n j) : Nat) : Int), ((Ext.st s (wordT s n j) : Nat) : Int)) else (((Ext.st s (rowF s n j) : Nat) : Int), ((Ext.st s (rowT s n j) : Nat) : Int))) := by
  obtain ⟨r1, r2, r3, r4, r5, r6⟩ := row_spec (s := s) hj
  have C : ∀ (i g : Nat), i ≤ n → 20 ≤ g → object_class.f g s ((Ext.st s i : Nat) : Int) = some (cl s n i) := fun i g hi hg => by
    have := class_at h hs hi (g - 20)
    rwa [show g - 20 + 20 = g by omega] at this
  have P : ∀ (i g : Nat), i ≤ n → 0 < i → 10 ≤ g → glyph_Prev.f g s ((Ext.st s i : Nat) : Int) = some ((Ext.st s (i - 1) : Nat) : Int) := fun i g hi h0 hg => by
    have := prev_eq h hs (At.st h hi) (g - 10)
    rwa [show g - 10 + 10 = g by omega, if_neg (by omega)] at this
  have j2t : ∀ g, s.size + 41 ≤ g → 0 < rowF s n j → object_word.j2 g s ((Ext.st s (rowF s n j) : Nat) : Int) ((Ext.st s (rowT s n j) : Nat) : Int) true = some (((Ext.st s (rowF s n (rowF s n j - 1)) : Nat) : Int), ((Ext.st s (rowT s n j) : Nat) : Int)) := fun g hg h0 => by
    obtain ⟨g', rfl⟩ : ∃ g', g = g' + 1 := ⟨g - 1, by omega⟩
    rw [object_word.j2, if_pos rfl, P _ _ (by omega) h0 (by omega), Option.bind_some, row_at h hs (by omega) g' (by omega), Option.bind_some]
  have j2f : ∀ g, 1 ≤ g → object_word.j2 g s ((Ext.st s (rowF s n j) : Nat) : Int) ((Ext.st s (rowT s n j) : Nat) : Int) false = some (((Ext.st s (rowF s n j) : Nat) : Int), ((Ext.st s (rowT s n j) : Nat) : Int)) := fun g hg => by
    obtain ⟨g', rfl⟩ : ∃ g', g = g' + 1 := ⟨g - 1, by omega⟩
    rw [object_word.j2, if_neg (by simp)]
  have j1t : ∀ g, s.size + 41 ≤ g → rowT s n j < n → object_word.j1 g s ((Ext.st s j : Nat) : Int) ((Ext.st s (rowF s n j) : Nat) : Int) ((Ext.st s (rowT s n j) : Nat) : Int) true = some (((Ext.st s (rowF s n j) : Nat) : Int), ((Ext.st s (rowT s n (rowT s n j)) : Nat) : Int)) := fun g hg h0 => by
    obtain ⟨g', rfl⟩ : ∃ g', g = g' + 1 := ⟨g - 1, by omega⟩
    rw [object_word.j1, if_pos rfl, row_at h hs h0 g' (by omega), Option.bind_some]
  have j1f : ∀ g, s.size + 42 ≤ g → object_word.j1 g s ((Ext.st s j : Nat) : Int) ((Ext.st s (rowF s n j) : Nat) : Int) ((Ext.st s (rowT s n j) : Nat) : Int) false =
      some (((Ext.st s (if cl s n j ≠ 0 ∧ 0 < rowF s n j ∧ cl s n (rowF s n j - 1) = 0 then rowF s n (rowF s n j - 1) else rowF s n j) : Nat) : Int), ((Ext.st s (rowT s n j) : Nat) : Int)) := fun g hg => by
    obtain ⟨g', rfl⟩ : ∃ g', g = g' + 1 := ⟨g - 1, by omega⟩
    rw [object_word.j1, if_neg (by simp), C j g' (by omega) (by omega), Option.bind_some]
    by_cases q : cl s n j = 0
    · rw [if_pos q, if_neg (c := cl s n j ≠ 0 ∧ 0 < rowF s n j ∧ cl s n (rowF s n j - 1) = 0) (fun hh => hh.1 q), j2f g' (by omega)]
    · rw [if_neg q]
      by_cases q2 : 0 < rowF s n j
      · have hpos : 0 < Ext.st s (rowF s n j) := by have := (st_lt_iff h (show 0 ≤ n by omega) (show rowF s n j ≤ n by omega)).2 q2; omega
        rw [if_pos (by omega), P _ _ (by omega) q2 (by omega), Option.bind_some, C _ g' (by omega) (by omega), Option.bind_some]
        by_cases q3 : cl s n (rowF s n j - 1) = 0
        · rw [if_pos (c := _ ∧ _) ⟨q, q2, q3⟩, show (cl s n (rowF s n j - 1) == 0) = true from beq_iff_eq.mpr q3, j2t g' (by omega) q2]
        · rw [if_neg (c := cl s n j ≠ 0 ∧ 0 < rowF s n j ∧ cl s n (rowF s n j - 1) = 0) (fun hh => q3 hh.2.2), show (cl s n (rowF s n j - 1) == 0) = false from beq_eq_false_iff_ne.mpr q3, j2f g' (by omega)]
      · have e0 : rowF s n j = 0 := by omega
        have hz : Ext.st s (rowF s n j) = 0 := by rw [e0]; rfl
        rw [if_neg (by omega), if_neg (c := cl s n j ≠ 0 ∧ 0 < rowF s n j ∧ cl s n (rowF s n j - 1) = 0) (fun hh => q2 hh.2.1), j2f g' (by omega)]
  unfold object_word.f
  rw [row_at h hs hj f (by omega), Option.bind_some]
  cases around
  · rw [if_neg (by simp), if_neg (by simp)]
  · rw [if_pos rfl, if_pos rfl, C _ f r3 (by omega), Option.bind_some, C j f (by omega) (by omega), Option.bind_some]
    obtain ⟨g, rfl⟩ : ∃ g, f = g + 1 := ⟨f - 1, by omega⟩
    have j0t : object_word.j0 (g + 1) s ((Ext.st s j : Nat) : Int) ((Ext.st s (rowF s n j) : Nat) : Int) ((Ext.st s (rowT s n j) : Nat) : Int) (cl s n (rowT s n j)) true = object_word.j1 g s ((Ext.st s j : Nat) : Int) ((Ext.st s (rowF s n j) : Nat) : Int) ((Ext.st s (rowT s n j) : Nat) : Int) true := by
      rw [object_word.j0, if_pos rfl]
    have j0f : object_word.j0 (g + 1) s ((Ext.st s j : Nat) : Int) ((Ext.st s (rowF s n j) : Nat) : Int) ((Ext.st s (rowT s n j) : Nat) : Int) (cl s n (rowT s n j)) false = if cl s n j = 0 then object_word.j1 g s ((Ext.st s j : Nat) : Int) ((Ext.st s (rowF s n j) : Nat) : Int) ((Ext.st s (rowT s n j) : Nat) : Int) false else object_word.j1 g s ((Ext.st s j : Nat) : Int) ((Ext.st s (rowF s n j) : Nat) : Int) ((Ext.st s (rowT s n j) : Nat) : Int) (cl s n (rowT s n j) == 0) := by
      rw [object_word.j0, if_neg (by simp), C j g (by omega) (by omega), Option.bind_some]
    unfold wordF wordT
    by_cases q : cl s n j = 0
    · rw [if_pos q]
      by_cases b1 : cl s n (rowT s n j) = 1
      · rw [if_pos b1, j0t, j1t g (by omega) (cl_lt (s := s) (by omega)), if_pos (c := _ ∨ _) (.inl ⟨q, .inl b1⟩), if_pos (c := _ ∨ _) (.inl ⟨q, .inl b1⟩)]
      · rw [if_neg b1]
        by_cases b2 : cl s n (rowT s n j) = 2
        · rw [show (cl s n (rowT s n j) == 2) = true from beq_iff_eq.mpr b2, j0t, j1t g (by omega) (cl_lt (s := s) (by omega)), if_pos (c := _ ∨ _) (.inl ⟨q, .inr b2⟩), if_pos (c := _ ∨ _) (.inl ⟨q, .inr b2⟩)]
        · have hno : ¬ ((cl s n j = 0 ∧ (cl s n (rowT s n j) = 1 ∨ cl s n (rowT s n j) = 2)) ∨ (cl s n j ≠ 0 ∧ cl s n (rowT s n j) = 0)) := by omega
          rw [show (cl s n (rowT s n j) == 2) = false from beq_eq_false_iff_ne.mpr b2, j0f, if_pos q, j1f g (by omega), if_neg hno, if_neg hno]
    · rw [if_neg q, j0f, if_neg q]
      by_cases b0 : cl s n (rowT s n j) = 0
      · rw [show (cl s n (rowT s n j) == 0) = true from beq_iff_eq.mpr b0, j1t g (by omega) (cl_lt (s := s) (by omega)), if_pos (c := _ ∨ _) (.inr ⟨q, b0⟩), if_pos (c := _ ∨ _) (.inr ⟨q, b0⟩)]
      · have hno : ¬ ((cl s n j = 0 ∧ (cl s n (rowT s n j) = 1 ∨ cl s n (rowT s n j) = 2)) ∨ (cl s n j ≠ 0 ∧ cl s n (rowT s n j) = 0)) := by omega
        rw [show (cl s n (rowT s n j) == 0) = false from beq_eq_false_iff_ne.mpr b0, j1f g (by omega), if_neg hno, if_neg hno]
theorem alive_eq (k : Nat) : bureaulaw13_alive.f (k + 60) = some true := by
  have h : bureaulaw13_alive.f 60 = some true := by decide +kernel
  induction k with
  | zero => exact h
  | succ k ih =>
    have := bureaulaw13_alive.mono (k + 60) true ih
    rwa [show k + 1 + 60 = k + 60 + 1 by omega]
theorem find_word (s : ByteArray) (n j : Nat) (h : Signs s n) (hs : s.size < 100000) (at_ : Int) (ha : At s n at_ j) (hj : j < n) (around : Bool) (k : Nat) :
    object_Find.f (s.size + k + 70) s at_ around 119 = some (if around = true then (((Ext.st s (wordF s n j) : Nat) : Int), ((Ext.st s (wordT s n j) : Nat) : Int), true) else (((Ext.st s (rowF s n j) : Nat) : Int), ((Ext.st s (rowT s n j) : Nat) : Int), true)) := by
  have hl := h.lt j hj
  rw [show s.size + k + 70 = (s.size + k + 60) + 10 by omega, find_head s (by omega) at_ around _ _, alignZ_eq h ha, if_neg (by omega), if_pos rfl, word_at h (by omega) hj around _ (by omega), Option.bind_some]
  cases around <;> rfl
theorem rows_loop (s : ByteArray) (n a f t : Nat) (h : Signs s n) (hs : s.size ≤ 2048) (at_ : Int) (ha : At s n at_ a) (hf : f ≤ a) (hat : a < t) (ht : t ≤ n) (hcl : ∀ i, f ≤ i → i < t → cl s n i = cl s n a)
    (hF : f = rowF s n a) (hT : t = rowT s n a) : ∀ (d i g : Nat), i + d = t → f ≤ i → s.size + d + 90 ≤ g →
    bureaulaw13_ObjectRows.l0 g s at_ ((Ext.st s a : Nat) : Int) ((Ext.st s f : Nat) : Int) ((Ext.st s t : Nat) : Int) ((Ext.st s i : Nat) : Int) = some true
  | _, _, 0, _, _, hg => by omega
  | 0, i, g + 1, e, _, hg => by
    obtain rfl : i = t := by omega
    have hfw := find_word s n a h (by omega) at_ ha (by omega) true (g - s.size - 70)
    rw [show s.size + (g - s.size - 70) + 70 = g by omega, if_pos rfl] at hfw
    rw [bureaulaw13_ObjectRows.l0, if_neg (by omega), hfw, Option.bind_some, if_pos rfl]
    obtain ⟨r1, r2, r3, r4, r5, r6⟩ := row_spec (s := s) (n := n) (j := a) (by omega)
    rw [← hF] at r1 r4 r5
    rw [← hT] at r2 r3 r4 r6
    have wF : wordF s n a = f ∨ (wordF s n a ≤ f ∧ wordT s n a = i) := by
      unfold wordF wordT
      rw [← hF, ← hT]
      split
      · exact .inl rfl
      · split
        · rename_i hh
          exact .inr ⟨by have := (row_spec (s := s) (n := n) (j := f - 1) (by omega)).1; omega, rfl⟩
        · exact .inl rfl
    have wT : i ≤ wordT s n a ∧ wordT s n a ≤ n := by
      unfold wordT
      rw [← hT]
      split
      · rename_i hh
        have hlt : i < n := cl_lt (s := s) (by omega)
        have := row_spec (s := s) hlt
        omega
      · omega
    have m1 := st_mono s wT.1
    rcases wF with hw | ⟨hw, hw2⟩
    · rw [hw]
      simp only
      rw [if_pos (by omega), if_pos (by omega), if_pos trivial]
    · have m2 := st_mono s hw
      simp only
      rw [if_pos (by omega), if_pos (by omega), hw2]
      by_cases q : ((Ext.st s (wordF s n a) : Nat) : Int) = ((Ext.st s f : Nat) : Int)
      · rw [if_pos q]
      · rw [if_neg q]; simp
  | d + 1, i, g + 1, e, hi, hg => by
    have hlt := (st_lt_iff h (show i ≤ n by omega) ht).2 (by omega)
    have c1 := rclass_at h (by omega) (show i ≤ n by omega) (g - s.size - 30)
    have c2 := rclass_at h (by omega) (show a ≤ n by omega) (g - s.size - 30)
    have nx := rnext_at h (by omega) (show i < n by omega) (g - s.size - 22)
    rw [show s.size + (g - s.size - 30) + 30 = g by omega] at c1 c2
    rw [show s.size + (g - s.size - 22) + 22 = g by omega] at nx
    rw [bureaulaw13_ObjectRows.l0, if_pos (by omega), c1, Option.bind_some, c2, Option.bind_some, if_pos (hcl i hi (by omega)), nx, Option.bind_some]
    exact rows_loop s n a f t h hs at_ ha hf hat ht hcl hF hT d (i + 1) g (by omega) (by omega) (by omega)
theorem ObjectRows : bureaulaw13_ObjectRows.Pure := by
  intro s at_ _ _
  refine ⟨2 * s.size + 140 + 60, ?_⟩
  unfold bureaulaw13_ObjectRows.f
  rw [alive_eq (2 * s.size + 140), Option.bind_some, if_pos rfl]
  by_cases hs : (s.size : Int) > 2048
  · rw [if_pos hs]
  rw [if_neg hs]
  obtain ⟨n, h⟩ := signs_ex s
  obtain ⟨a, ha⟩ := At.ex h at_
  have hn := h.le
  have hA := r02align_eq s (by omega) at_ (s.size + 178)
  rw [show s.size + (s.size + 178) + 22 = 2 * s.size + 140 + 60 by omega, alignZ_eq h ha] at hA
  rw [hA, Option.bind_some]
  by_cases hc : a < n
  · have hl := h.lt a hc
    have hfw := find_word s n a h (by omega) at_ ha hc false (s.size + 130)
    rw [show s.size + (s.size + 130) + 70 = 2 * s.size + 140 + 60 by omega, if_neg (by simp)] at hfw
    obtain ⟨r1, r2, r3, r4, r5, r6⟩ := row_spec (s := s) hc
    have m1 := st_mono s r1
    have m2 := (st_lt_iff h (by omega) r3).2 r2
    have m3 := h.le_size r3
    have L := rows_loop s n a (rowF s n a) (rowT s n a) h (by omega) at_ ha r1 r2 r3 r4 rfl rfl (rowT s n a - rowF s n a) (rowF s n a) (2 * s.size + 140 + 59) (by omega) (by omega) (by omega)
    have J : bureaulaw13_ObjectRows.j0 (2 * s.size + 140 + 60) s at_ ((Ext.st s a : Nat) : Int) ((Ext.st s (rowF s n a) : Nat) : Int) ((Ext.st s (rowT s n a) : Nat) : Int) false = some true := by
      rw [show 2 * s.size + 140 + 60 = (2 * s.size + 140 + 59) + 1 by omega, bureaulaw13_ObjectRows.j0, if_neg (by simp)]
      exact L
    have cA := rclass_at h (by omega) (show a ≤ n by omega) (s.size + 170)
    have cT := rclass_at h (by omega) r3 (s.size + 170)
    rw [show s.size + (s.size + 170) + 30 = 2 * s.size + 140 + 60 by omega] at cA cT
    rw [hfw, Option.bind_some, if_pos rfl]
    simp only
    rw [if_pos (by omega), if_neg (by omega), if_neg (by omega), if_neg (by omega), if_neg (by omega)]
    by_cases q : 0 < rowF s n a
    · have hpos := (st_lt_iff h (show 0 ≤ n by omega) (show rowF s n a ≤ n by omega)).2 q
      have pv := rprev_at h (by omega) (show rowF s n a ≤ n by omega) q (s.size + 178)
      have cP := rclass_at h (by omega) (show rowF s n a - 1 ≤ n by omega) (s.size + 170)
      rw [show s.size + (s.size + 170) + 30 = 2 * s.size + 140 + 60 by omega] at cP
      rw [show s.size + (s.size + 178) + 22 = 2 * s.size + 140 + 60 by omega] at pv
      have hne : ¬ cl s n (rowF s n a - 1) = cl s n a := by omega
      rw [if_pos (by omega), pv, Option.bind_some, cP, Option.bind_some, cA, Option.bind_some, if_neg hne, cT, Option.bind_some, Option.bind_some, show (cl s n (rowT s n a) == cl s n a) = false from beq_eq_false_iff_ne.mpr r6]
      exact J
    · have hz : Ext.st s (rowF s n a) = 0 := by rw [show rowF s n a = 0 by omega]; rfl
      rw [if_neg (by omega), cT, Option.bind_some, cA, Option.bind_some, show (cl s n (rowT s n a) == cl s n a) = false from beq_eq_false_iff_ne.mpr r6]
      exact J
  · have hl := h.last
    obtain rfl : a = n := by have := ha.1; omega
    rw [show 2 * s.size + 140 + 60 = (2 * s.size + 190) + 10 by omega, find_head s (by omega) at_ false _ _, alignZ_eq h ha, if_pos (by omega), Option.bind_some, if_neg (by simp), if_neg (by omega)]

end Go.Proofs.YtcinobfflfkmjaaDoor.Pure
