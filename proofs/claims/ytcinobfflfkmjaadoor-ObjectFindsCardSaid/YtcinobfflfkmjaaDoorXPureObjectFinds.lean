/- The bytes of any object about any place of any bytes are the document's: for every text, place and key. -/
import Derived.Test.YtcinobfflfkmjaaDoorXObjectFindsx12
import Derived.Test.YtcinobfflfkmjaaDoorExt13M
import Derived.OpenShut
set_option linter.unusedVariables false
set_option linter.unusedSimpArgs false
namespace Go.Proofs.YtcinobfflfkmjaaDoor.Pure
open Go.RowKit Go.Proofs.YtcinobfflfkmjaaDoor.XObjectFinds Go.Proofs.YtcinobfflfkmjaaDoorW.PrintWords Go.Proofs.YtcinobfflfkmjaaDoorW.PrintMore Go.Proofs.YtcinobfflfkmjaaDoor.Ext

def whole (x : Nat × Nat × Nat) : Bool := !(x.2.1 == 65533 && x.2.2 == 1)
/-! The numbers' bytes. -/
def enc (r : Nat) : List Nat :=
  if r < 128 then [r] else if r < 2048 then [192 + r / 64, 128 + r % 64] else if r < 65536 then [224 + r / 4096, 128 + r / 64 % 64, 128 + r % 64] else [240 + r / 262144, 128 + r / 4096 % 64, 128 + r / 64 % 64, 128 + r % 64]
def mayN (r : Nat) : Bool := r ≤ 1114111 && (r < 55296 || 57344 ≤ r)
theorem enc_lt {r : Nat} (h : r ≤ 1114111) : ∀ x ∈ enc r, x < 256 := by
  unfold enc
  intro x hx
  split at hx
  · simp only [List.mem_cons, List.not_mem_nil, or_false] at hx
    omega
  split at hx
  · simp only [List.mem_cons, List.not_mem_nil, or_false] at hx
    omega
  split at hx
  · simp only [List.mem_cons, List.not_mem_nil, or_false] at hx
    omega
  · simp only [List.mem_cons, List.not_mem_nil, or_false] at hx
    omega
/-! What the document's 'number' reads, and which so many bytes are a sign. -/
def numN (n b0 b1 b2 b3 : Nat) : Nat :=
  if n = 1 then b0 else if n = 2 then b0 % 32 * 64 + b1 % 64 else if n = 3 then (b0 % 16 * 64 + b1 % 64) * 64 + b2 % 64 else ((b0 % 8 * 64 + b1 % 64) * 64 + b2 % 64) * 64 + b3 % 64
theorem num1 (b0 b1 b2 b3 : Nat) : numN 1 b0 b1 b2 b3 = b0 := rfl
theorem num2 (b0 b1 b2 b3 : Nat) : numN 2 b0 b1 b2 b3 = b0 % 32 * 64 + b1 % 64 := rfl
theorem num3 (b0 b1 b2 b3 : Nat) : numN 3 b0 b1 b2 b3 = (b0 % 16 * 64 + b1 % 64) * 64 + b2 % 64 := rfl
theorem num4 (b0 b1 b2 b3 : Nat) : numN 4 b0 b1 b2 b3 = ((b0 % 8 * 64 + b1 % 64) * 64 + b2 % 64) * 64 + b3 % 64 := rfl
def okN (n b0 b1 b2 b3 : Nat) : Bool := mayN (numN n b0 b1 b2 b3) && enc (numN n b0 b1 b2 b3) == [b0, b1, b2, b3].take n
theorem ok1 {b0 : Nat} (b1 b2 b3 : Nat) (h0 : b0 < 256) : okN 1 b0 b1 b2 b3 = decide (b0 < 128) := by
  unfold okN mayN enc numN
  rw [if_pos rfl, Bool.eq_iff_iff]
  simp only [Bool.and_eq_true, Bool.or_eq_true, decide_eq_true_eq, beq_iff_eq, List.take_succ_cons, List.take_zero]
  constructor
  · rintro ⟨_, h⟩
    split at h
    · assumption
    · exfalso
      split at h
      · simp only [List.cons.injEq] at h
        exact absurd h.2 (by simp)
      split at h
      · simp only [List.cons.injEq] at h
        exact absurd h.2 (by simp)
      · simp only [List.cons.injEq] at h
        exact absurd h.2 (by simp)
  · intro h
    exact ⟨by omega, by rw [if_pos h]⟩
theorem ok2 {b0 b1 : Nat} (b2 b3 : Nat) (h0 : b0 < 256) (h1 : b1 < 256) : okN 2 b0 b1 b2 b3 = decide (b0 / 32 = 6 ∧ b1 / 64 = 2 ∧ 128 ≤ b0 % 32 * 64 + b1 % 64) := by
  unfold okN mayN enc numN
  rw [if_neg (by omega), if_pos rfl, Bool.eq_iff_iff]
  simp only [Bool.and_eq_true, Bool.or_eq_true, decide_eq_true_eq, beq_iff_eq, List.take_succ_cons, List.take_zero]
  generalize hr : b0 % 32 * 64 + b1 % 64 = r
  constructor
  · rintro ⟨_, h⟩
    split at h
    · cases h
    split at h
    · simp only [List.cons.injEq, and_true] at h
      omega
    split at h
    · cases h
    · cases h
  · intro h
    refine ⟨by omega, ?_⟩
    rw [if_neg (by omega), if_pos (by omega)]
    simp only [List.cons.injEq, and_true]
    omega
theorem ok3 {b0 b1 b2 : Nat} (b3 : Nat) (h0 : b0 < 256) (h1 : b1 < 256) (h2 : b2 < 256) : okN 3 b0 b1 b2 b3 =
    decide (b0 / 16 = 14 ∧ b1 / 64 = 2 ∧ b2 / 64 = 2 ∧ 2048 ≤ b0 % 16 * 4096 + b1 % 64 * 64 + b2 % 64 ∧ (b0 % 16 * 4096 + b1 % 64 * 64 + b2 % 64 < 55296 ∨ 57344 ≤ b0 % 16 * 4096 + b1 % 64 * 64 + b2 % 64)) := by
  unfold okN mayN enc numN
  rw [if_neg (by omega), if_neg (by omega), if_pos rfl, Bool.eq_iff_iff]
  simp only [Bool.and_eq_true, Bool.or_eq_true, decide_eq_true_eq, beq_iff_eq, List.take_succ_cons, List.take_zero]
  rw [show (b0 % 16 * 64 + b1 % 64) * 64 + b2 % 64 = b0 % 16 * 4096 + b1 % 64 * 64 + b2 % 64 by omega]
  generalize hr : b0 % 16 * 4096 + b1 % 64 * 64 + b2 % 64 = r
  constructor
  · rintro ⟨_, h⟩
    split at h
    · cases h
    split at h
    · cases h
    split at h
    · simp only [List.cons.injEq, and_true] at h
      omega
    · cases h
  · intro h
    refine ⟨by omega, ?_⟩
    rw [if_neg (by omega), if_neg (by omega), if_pos (by omega)]
    simp only [List.cons.injEq, and_true]
    omega
theorem ok4 {b0 b1 b2 b3 : Nat} (h0 : b0 < 256) (h1 : b1 < 256) (h2 : b2 < 256) (h3 : b3 < 256) : okN 4 b0 b1 b2 b3 =
    decide (b0 / 8 = 30 ∧ b1 / 64 = 2 ∧ b2 / 64 = 2 ∧ b3 / 64 = 2 ∧ 65536 ≤ b0 % 8 * 262144 + b1 % 64 * 4096 + b2 % 64 * 64 + b3 % 64 ∧ b0 % 8 * 262144 + b1 % 64 * 4096 + b2 % 64 * 64 + b3 % 64 ≤ 1114111) := by
  unfold okN mayN enc numN
  rw [if_neg (by omega), if_neg (by omega), if_neg (by omega), Bool.eq_iff_iff]
  simp only [Bool.and_eq_true, Bool.or_eq_true, decide_eq_true_eq, beq_iff_eq, List.take_succ_cons, List.take_zero]
  rw [show ((b0 % 8 * 64 + b1 % 64) * 64 + b2 % 64) * 64 + b3 % 64 = b0 % 8 * 262144 + b1 % 64 * 4096 + b2 % 64 * 64 + b3 % 64 by omega]
  generalize hr : b0 % 8 * 262144 + b1 % 64 * 4096 + b2 % 64 * 64 + b3 % 64 = r
  constructor
  · rintro ⟨_, h⟩
    split at h
    · cases h
    split at h
    · cases h
    split at h
    · cases h
    · simp only [List.cons.injEq, and_true] at h
      omega
  · intro h
    refine ⟨by omega, ?_⟩
    rw [if_neg (by omega), if_neg (by omega), if_neg (by omega)]
    simp only [List.cons.injEq, and_true]
    omega
/-- The model's decoding, by which so many bytes are a sign. -/
def firstOk (m b0 b1 b2 b3 : Nat) : Nat × Nat × Bool :=
  if okN 1 b0 b1 b2 b3 = true then (numN 1 b0 b1 b2 b3, 1, true)
  else if 2 ≤ m ∧ okN 2 b0 b1 b2 b3 = true then (numN 2 b0 b1 b2 b3, 2, true)
  else if 3 ≤ m ∧ okN 3 b0 b1 b2 b3 = true then (numN 3 b0 b1 b2 b3, 3, true)
  else if 4 ≤ m ∧ okN 4 b0 b1 b2 b3 = true then (numN 4 b0 b1 b2 b3, 4, true)
  else (65533, 1, false)
theorem first_decode {m b0 b1 b2 b3 : Nat} (h0 : b0 < 256) (h1 : b1 < 256) (h2 : b2 < 256) (h3 : b3 < 256) :
    firstOk m b0 b1 b2 b3 = ((Lib.decodeN m b0 b1 b2 b3).1, (Lib.decodeN m b0 b1 b2 b3).2, whole (0, Lib.decodeN m b0 b1 b2 b3)) := by
  unfold firstOk
  rw [ok1 b1 b2 b3 h0, ok2 b2 b3 h0 h1, ok3 b3 h0 h1 h2, ok4 h0 h1 h2 h3]
  simp only [decide_eq_true_eq]
  have n1 : numN 1 b0 b1 b2 b3 = b0 := rfl
  have n2 : numN 2 b0 b1 b2 b3 = b0 % 32 * 64 + b1 % 64 := rfl
  have n3 : numN 3 b0 b1 b2 b3 = b0 % 16 * 4096 + b1 % 64 * 64 + b2 % 64 := by unfold numN; rw [if_neg (by omega), if_neg (by omega), if_pos rfl]; omega
  have n4 : numN 4 b0 b1 b2 b3 = b0 % 8 * 262144 + b1 % 64 * 4096 + b2 % 64 * 64 + b3 % 64 := by unfold numN; rw [if_neg (by omega), if_neg (by omega), if_neg (by omega)]; omega
  rw [n1, n2, n3, n4]
  unfold Lib.decodeN
  by_cases c1 : b0 < 128
  · rw [if_pos c1, if_pos c1]
    have : (b0 == 65533) = false := by rw [beq_eq_false_iff_ne]; omega
    simp [whole, this]
  rw [if_neg c1, if_neg c1]
  by_cases c2 : b0 / 32 = 6 ∧ (1 < m ∧ b1 / 64 = 2)
  · rw [if_pos c2]
    by_cases d2 : b0 % 32 * 64 + b1 % 64 ≥ 128
    · rw [if_pos d2, if_pos (by omega)]
      simp [whole]
    · rw [if_neg d2, if_neg (by omega), if_neg (by omega), if_neg (by omega)]
      rfl
  rw [if_neg c2, if_neg (by omega)]
  by_cases c3 : b0 / 16 = 14 ∧ (1 < m ∧ b1 / 64 = 2) ∧ (2 < m ∧ b2 / 64 = 2)
  · rw [if_pos c3]
    by_cases d3 : b0 % 16 * 4096 + b1 % 64 * 64 + b2 % 64 ≥ 2048 ∧ (b0 % 16 * 4096 + b1 % 64 * 64 + b2 % 64 < 55296 ∨ (57344 ≤ b0 % 16 * 4096 + b1 % 64 * 64 + b2 % 64 ∧ b0 % 16 * 4096 + b1 % 64 * 64 + b2 % 64 ≤ 1114111))
    · rw [if_pos d3, if_pos (by omega)]
      simp [whole]
    · rw [if_neg d3, if_neg (by omega), if_neg (by omega)]
      rfl
  rw [if_neg c3, if_neg (by omega)]
  by_cases c4 : b0 / 8 = 30 ∧ (1 < m ∧ b1 / 64 = 2) ∧ (2 < m ∧ b2 / 64 = 2) ∧ (3 < m ∧ b3 / 64 = 2)
  · rw [if_pos c4]
    by_cases d4 : b0 % 8 * 262144 + b1 % 64 * 4096 + b2 % 64 * 64 + b3 % 64 ≥ 65536 ∧ (b0 % 8 * 262144 + b1 % 64 * 4096 + b2 % 64 * 64 + b3 % 64 < 55296 ∨ (57344 ≤ b0 % 8 * 262144 + b1 % 64 * 4096 + b2 % 64 * 64 + b3 % 64 ∧ b0 % 8 * 262144 + b1 % 64 * 4096 + b2 % 64 * 64 + b3 % 64 ≤ 1114111))
    · rw [if_pos d4, if_pos (by omega)]
      simp [whole]
    · rw [if_neg d4, if_neg (by omega)]
      rfl
  rw [if_neg c4, if_neg (by omega)]
  rfl
theorem may_eq (r : Nat) : bureauref02_May.f (r : Int) = some (mayN r) := by
  unfold bureauref02_May.f mayN
  rw [if_pos (Int.natCast_nonneg r)]
  by_cases h1 : r ≤ 1114111
  · rw [if_pos (by omega)]
    by_cases h2 : r < 55296
    · rw [if_pos (by omega)]
      simp [h1, h2]
    · rw [if_neg (by omega)]
      congr 1
      rw [Bool.eq_iff_iff]
      simp only [decide_eq_true_eq, Bool.and_eq_true, Bool.or_eq_true]
      omega
  · rw [if_neg (by omega)]
    simp [h1]
theorem lowK (K : Int) (k x : Nat) (hK : K = (k : Int)) (h : k + x < 256) : UInt8.ofNat (wrap64 (K + (x : Int)) % 256).toNat = UInt8.ofNat (k + x) := by
  congr 1
  unfold wrap64
  omega
theorem lowA (x : Nat) (h : x < 256) : UInt8.ofNat ((x : Int) % 256).toNat = UInt8.ofNat x := by
  congr 1
  omega
theorem l2 {a b a' b' : UInt8} (h1 : a = a') (h2 : b = b') : [a, b] = [a', b'] := by rw [h1, h2]
theorem l3 {a b c a' b' c' : UInt8} (h1 : a = a') (h2 : b = b') (h3 : c = c') : [a, b, c] = [a', b', c'] := by rw [h1, h2, h3]
theorem l4 {a b c d a' b' c' d' : UInt8} (h1 : a = a') (h2 : b = b') (h3 : c = c') (h4 : d = d') : [a, b, c, d] = [a', b', c', d'] := by rw [h1, h2, h3, h4]
theorem bytes_eq {r : Nat} (h : r ≤ 1114111) : bureauref02_Bytes.f (r : Int) = some ⟨((enc r).map UInt8.ofNat).toArray⟩ := by
  have e64 : Int.tdiv (r : Int) 64 = ((r / 64 : Nat) : Int) := rfl
  have e4096 : Int.tdiv (r : Int) 4096 = ((r / 4096 : Nat) : Int) := rfl
  have e262144 : Int.tdiv (r : Int) 262144 = ((r / 262144 : Nat) : Int) := rfl
  have m64 : Int.tmod (r : Int) 64 = ((r % 64 : Nat) : Int) := rfl
  have w1 := wrapN (r / 64) (by omega)
  have w2 := wrapN (r / 4096) (by omega)
  have w3 := wrapN (r / 262144) (by omega)
  have m1 : Int.tmod ((r / 64 : Nat) : Int) 64 = ((r / 64 % 64 : Nat) : Int) := rfl
  have m2 : Int.tmod ((r / 4096 : Nat) : Int) 64 = ((r / 4096 % 64 : Nat) : Int) := rfl
  unfold bureauref02_Bytes.f enc
  rw [e64, e4096, e262144, m64, w1, w2, w3, m1, m2]
  clear e64 e4096 e262144 m64 w1 w2 w3 m1 m2
  by_cases h1 : r < 128
  · rw [if_pos (by omega), if_pos h1]
    simp only [strOfNums, List.map_cons, List.map_nil, lowA r (by omega)]
  rw [if_neg (by omega), if_neg h1]
  by_cases h2 : r < 2048
  · rw [if_pos (by omega), if_pos h2]
    simp only [strOfNums, List.map_cons, List.map_nil]
    exact congrArg (fun l : List UInt8 => some (⟨l.toArray⟩ : ByteArray)) (l2 (lowK 192 192 (r / 64) rfl (by omega)) (lowK 128 128 (r % 64) rfl (by omega)))
  rw [if_neg (by omega), if_neg h2]
  by_cases h3 : r < 65536
  · rw [if_pos (by omega), if_pos h3]
    simp only [strOfNums, List.map_cons, List.map_nil]
    exact congrArg (fun l : List UInt8 => some (⟨l.toArray⟩ : ByteArray)) (l3 (lowK 224 224 (r / 4096) rfl (by omega)) (lowK 128 128 (r / 64 % 64) rfl (by omega)) (lowK 128 128 (r % 64) rfl (by omega)))
  · rw [if_neg (by omega), if_neg h3]
    simp only [strOfNums, List.map_cons, List.map_nil]
    exact congrArg (fun l : List UInt8 => some (⟨l.toArray⟩ : ByteArray)) (l4 (lowK 240 240 (r / 262144) rfl (by omega)) (lowK 128 128 (r / 4096 % 64) rfl (by omega)) (lowK 128 128 (r / 64 % 64) rfl (by omega)) (lowK 128 128 (r % 64) rfl (by omega)))
theorem num_step (k : Nat) (x : ByteArray) (a j : Nat) (hj : j < x.size) (ha : a < 1000000) (hs : x.size < 100) :
    bureauref02_number.l0 (k + 1) x (a : Int) (j : Int) = bureauref02_number.l0 k x ((a * 64 + gb x j % 64 : Nat) : Int) ((j + 1 : Nat) : Int) := by
  have hb := gb_lt x j
  rw [bureauref02_number.l0, if_pos (by omega), if_pos (by omega), bt_gb x j hj, wrapN (gb x j) (by omega)]
  have e : Int.tmod ((gb x j : Nat) : Int) 64 = ((gb x j % 64 : Nat) : Int) := rfl
  rw [e]
  congr 1
  · unfold wrap64
    omega
  · unfold wrap64
    omega
theorem num_end (k : Nat) (x : ByteArray) (a : Int) : bureauref02_number.l0 (k + 1) x a (x.size : Int) = some a := by
  rw [bureauref02_number.l0, if_neg (by omega)]
theorem number_eq (k : Nat) (x : ByteArray) (n : Nat) (hn : x.size = n) (h1 : 1 ≤ n) (h4 : n ≤ 4) :
    bureauref02_number.f (k + 6) x = some ((numN n (gb x 0) (gb x 1) (gb x 2) (gb x 3) : Nat) : Int) := by
  have h0 := gb_lt x 0
  have e0 : wrap64 (bt x 0) = ((gb x 0 : Nat) : Int) := by rw [show (0 : Int) = ((0 : Nat) : Int) from rfl, bt_gb x 0 (by omega), wrapN _ (by omega)]
  unfold bureauref02_number.f
  rw [if_pos (by omega), e0]
  have e32 : Int.tmod ((gb x 0 : Nat) : Int) 32 = ((gb x 0 % 32 : Nat) : Int) := rfl
  have e16 : Int.tmod ((gb x 0 : Nat) : Int) 16 = ((gb x 0 % 16 : Nat) : Int) := rfl
  have e8 : Int.tmod ((gb x 0 : Nat) : Int) 8 = ((gb x 0 % 8 : Nat) : Int) := rfl
  rw [e32, e16, e8]
  have e1 : (1 : Int) = ((1 : Nat) : Int) := rfl
  rcases (by omega : n = 1 ∨ n = 2 ∨ n = 3 ∨ n = 4) with hc | hc | hc | hc
  · rw [if_neg (by omega), if_neg (by omega), if_neg (by omega), bureauref02_number.j0]
    have := num_end (k + 4) x ((gb x 0 : Nat) : Int)
    rw [hn, hc] at this
    rw [e1, this, hc]
    rfl
  · rw [if_pos (by omega), bureauref02_number.j0, e1, num_step _ x _ 1 (by omega) (by omega) (by omega)]
    have := num_end (k + 3) x ((gb x 0 % 32 * 64 + gb x 1 % 64 : Nat) : Int)
    rw [hn, hc] at this
    rw [this, hc]
    rfl
  · rw [if_neg (by omega), if_pos (by omega), bureauref02_number.j0, e1, num_step _ x _ 1 (by omega) (by omega) (by omega), num_step _ x _ 2 (by omega) (by omega) (by omega)]
    have := num_end (k + 2) x (((gb x 0 % 16 * 64 + gb x 1 % 64) * 64 + gb x 2 % 64 : Nat) : Int)
    rw [hn, hc] at this
    rw [this, hc]
    rfl
  · rw [if_neg (by omega), if_neg (by omega), if_pos (by omega), bureauref02_number.j0, e1, num_step _ x _ 1 (by omega) (by omega) (by omega), num_step _ x _ 2 (by omega) (by omega) (by omega), num_step _ x _ 3 (by omega) (by omega) (by omega)]
    have := num_end (k + 1) x ((((gb x 0 % 8 * 64 + gb x 1 % 64) * 64 + gb x 2 % 64) * 64 + gb x 3 % 64 : Nat) : Int)
    rw [hn, hc] at this
    rw [this, hc]
    rfl
/-! 'one': the sign at a place. -/
theorem list_eq_gb {s : ByteArray} {i n r : Nat} (hn : i + n ≤ s.size) (h1 : 1 ≤ n) (h4 : n ≤ 4) (hr : r ≤ 1114111) :
    ((⟨((enc r).map UInt8.ofNat).toArray⟩ : ByteArray).toList = (s.extract i (i + n)).toList) ↔ enc r = [gb s i, gb s (i + 1), gb s (i + 2), gb s (i + 3)].take n := by
  rw [ByteArray.toList_eq, ByteArray.toList_eq, list_bytes (s.extract i (i + n)), size_ext s i n hn]
  have hm : (List.range n).map (fun j => (s.extract i (i + n)).get! j) = ([gb s i, gb s (i + 1), gb s (i + 2), gb s (i + 3)].take n).map UInt8.ofNat := by
    rw [List.map_congr_left (g := fun j => s.get! (i + j)) (fun j hj => get_ext s i n j hn (List.mem_range.1 hj))]
    have g0 (j : Nat) : UInt8.ofNat (gb s j) = s.get! j := by unfold gb; exact UInt8.ofNat_toNat
    rcases (by omega : n = 1 ∨ n = 2 ∨ n = 3 ∨ n = 4) with rfl | rfl | rfl | rfl <;> simp [List.range_succ, g0]
  rw [hm]
  have inj : ∀ (x y : List Nat), (∀ a ∈ x, a < 256) → (∀ a ∈ y, a < 256) → x.map UInt8.ofNat = y.map UInt8.ofNat → x = y := by
    intro x
    induction x with
    | nil => intro y _ _ h; cases y with | nil => rfl | cons a y => cases h
    | cons a x ih =>
      intro y hx hy h
      cases y with
      | nil => cases h
      | cons b y =>
        simp only [List.map_cons, List.cons.injEq] at h
        have hab := congrArg UInt8.toNat h.1
        rw [UInt8.toNat_ofNat', UInt8.toNat_ofNat'] at hab
        have ha := hx a (by simp)
        have hb := hy b (by simp)
        rw [ih y (fun a ha => hx a (by simp [ha])) (fun a ha => hy a (by simp [ha])) h.2]
        congr 1
        omega
  constructor
  · intro h
    refine inj _ _ (enc_lt hr) (fun a ha => ?_) h
    have := List.mem_of_mem_take ha
    simp only [List.mem_cons, List.not_mem_nil, or_false] at this
    have b0 := gb_lt s i
    have b1 := gb_lt s (i + 1)
    have b2 := gb_lt s (i + 2)
    have b3 := gb_lt s (i + 3)
    omega
  · intro h
    rw [h]
theorem one_step (k : Nat) (s : ByteArray) (i n : Nat) (hs : s.size < 1000000000) (h1 : 1 ≤ n) (h4 : n ≤ 4) (hn : i + n ≤ s.size) :
    bureauref02_one.l0 (k + 12) s (i : Int) (n : Int) =
      if okN n (gb s i) (gb s (i + 1)) (gb s (i + 2)) (gb s (i + 3)) = true then some ((i : Int), (n : Int), ((numN n (gb s i) (gb s (i + 1)) (gb s (i + 2)) (gb s (i + 3)) : Nat) : Int), true) else bureauref02_one.l0 (k + 10) s (i : Int) ((n + 1 : Nat) : Int) := by
  have hw : wrap64 ((s.size : Int) - (i : Int)) = (s.size : Int) - (i : Int) := wrapZ _ (by omega) (by omega)
  have hw2 : wrap64 ((i : Int) + (n : Int)) = ((i + n : Nat) : Int) := by rw [wrapZ _ (by omega) (by omega)]; omega
  have hw3 : wrap64 ((n : Int) + 1) = ((n + 1 : Nat) : Int) := by rw [wrapZ _ (by omega) (by omega)]; omega
  have c4 : (n : Int) ≤ 4 := by omega
  have cd : decide ((n : Int) ≤ (s.size : Int) - (i : Int)) = true := decide_eq_true (by omega)
  have ci : (0 : Int) ≤ (i : Int) := by omega
  have cn : (i : Int) ≤ ((i + n : Nat) : Int) := by omega
  have cs : ((i + n : Nat) : Int) ≤ (s.size : Int) := by omega
  rw [bureauref02_one.l0, if_pos c4, hw, cd, bureauref02_one.j1, if_pos rfl, if_pos ci, hw2, if_pos cn, if_pos cs, hw3, Int.toNat_natCast, Int.toNat_natCast]
  clear hw hw2 hw3 c4 cd ci cn cs
  have hx := size_ext s i n hn
  have hlt0 := gb_lt (s.extract i (i + n)) 0
  rw [number_eq (k + 4) (s.extract i (i + n)) n hx h1 h4, Option.bind_some]
  have hg (j : Nat) (hj : j < n) : gb (s.extract i (i + n)) j = gb s (i + j) := by unfold gb; rw [get_ext s i n j hn hj]
  have hg0 : gb (s.extract i (i + n)) 0 = gb s i := hg 0 (by omega)
  have hnum : numN n (gb (s.extract i (i + n)) 0) (gb (s.extract i (i + n)) 1) (gb (s.extract i (i + n)) 2) (gb (s.extract i (i + n)) 3) = numN n (gb s i) (gb s (i + 1)) (gb s (i + 2)) (gb s (i + 3)) := by
    rcases (by omega : n = 1 ∨ n = 2 ∨ n = 3 ∨ n = 4) with rfl | rfl | rfl | rfl
    · rw [num1, num1, hg0]
    · rw [num2, num2, hg0, hg 1 (by omega)]
    · rw [num3, num3, hg0, hg 1 (by omega), hg 2 (by omega)]
    · rw [num4, num4, hg0, hg 1 (by omega), hg 2 (by omega), hg 3 (by omega)]
  rw [hnum]
  generalize hr : numN n (gb s i) (gb s (i + 1)) (gb s (i + 2)) (gb s (i + 3)) = r
  rw [may_eq, Option.bind_some]
  unfold okN
  rw [hr]
  cases hm : mayN r with
  | false => simp
  | true =>
    have hr2 : r ≤ 1114111 := by simp [mayN] at hm; omega
    rw [if_pos rfl, bytes_eq hr2, Option.bind_some]
    have hl := list_eq_gb (r := r) hn h1 h4 hr2
    by_cases he : enc r = [gb s i, gb s (i + 1), gb s (i + 2), gb s (i + 3)].take n
    · rw [if_pos (hl.2 he), if_pos (by simp [he])]
    · rw [if_neg (fun h => he (hl.1 h)), if_neg (by simp [he])]
theorem one_last (k : Nat) (s : ByteArray) (i n : Nat) (hs : s.size < 1000000000) (hi : i < s.size) (hn : 4 < n ∨ s.size < i + n) :
    bureauref02_one.l0 (k + 2) s (i : Int) (n : Int) = some ((i : Int), 1, 65533, false) := by
  have hw : wrap64 ((s.size : Int) - (i : Int)) = (s.size : Int) - (i : Int) := wrapZ _ (by omega) (by omega)
  rw [bureauref02_one.l0]
  by_cases h4 : n ≤ 4
  · rw [if_pos (by omega), hw, decide_eq_false (by omega), bureauref02_one.j1, if_neg (by decide)]
  · rw [if_neg (by omega), bureauref02_one.j1, if_neg (by decide)]
theorem one_eq (k : Nat) (s : ByteArray) (i : Nat) (hs : s.size < 1000000000) (hi : i < s.size) :
    bureauref02_one.f (k + 20) s (i : Int) = some ((i : Int), (((Utf8.decode s i).2 : Nat) : Int), (((Utf8.decode s i).1 : Nat) : Int), whole (0, Utf8.decode s i)) := by
  have b0 := gb_lt s i
  have b1 := gb_lt s (i + 1)
  have b2 := gb_lt s (i + 2)
  have b3 := gb_lt s (i + 3)
  have hd : Utf8.decode s i = Lib.decodeN (s.size - i) (gb s i) (gb s (i + 1)) (gb s (i + 2)) (gb s (i + 3)) := Lib.decode_at s i
  have hf := first_decode (m := s.size - i) b0 b1 b2 b3
  rw [← hd] at hf
  have h1 := congrArg (fun x : Nat × Nat × Bool => x.1) hf
  have h2 := congrArg (fun x : Nat × Nat × Bool => x.2.1) hf
  have h3 := congrArg (fun x : Nat × Nat × Bool => x.2.2) hf
  simp only at h1 h2 h3
  rw [← h1, ← h2, ← h3]
  clear h1 h2 h3 hf hd
  unfold bureauref02_one.f firstOk
  rw [show (1 : Int) = ((1 : Nat) : Int) from rfl, one_step (k + 8) s i 1 hs (by omega) (by omega) (by omega)]
  split
  · rfl
  by_cases m2 : i + 2 ≤ s.size
  · rw [one_step (k + 6) s i 2 hs (by omega) (by omega) m2]
    split
    · rw [if_pos ⟨by omega, by assumption⟩]
    rw [if_neg (fun h => by rename_i h' ; exact h' h.2)]
    by_cases m3 : i + 3 ≤ s.size
    · rw [one_step (k + 4) s i 3 hs (by omega) (by omega) m3]
      split
      · rw [if_pos ⟨by omega, by assumption⟩]
      rw [if_neg (fun h => by rename_i h' ; exact h' h.2)]
      by_cases m4 : i + 4 ≤ s.size
      · rw [one_step (k + 2) s i 4 hs (by omega) (by omega) m4]
        split
        · rw [if_pos ⟨by omega, by assumption⟩]
        rw [if_neg (fun h => by rename_i h' ; exact h' h.2), one_last (k + 10) s i 5 hs hi (by omega)]
        rfl
      · rw [one_last (k + 12) s i 4 hs hi (by omega), if_neg (by omega)]
        rfl
    · rw [one_last (k + 14) s i 3 hs hi (by omega), if_neg (by omega), if_neg (by omega)]
      rfl
  · rw [one_last (k + 16) s i 2 hs hi (by omega), if_neg (by omega), if_neg (by omega), if_neg (by omega)]
    rfl
/-- A sign, as the document has it. -/
def sig (x : Nat × Nat × Nat) : S63 := ⟨(x.1 : Int), (x.2.2 : Int), (x.2.1 : Int), whole x⟩
theorem whole_at (i j : Nat) (d : Nat × Nat) : whole (i, d) = whole (j, d) := rfl
theorem signs_loop (s : ByteArray) (hs : s.size < 1000000) : ∀ (b k i : Nat) (acc : List S63), s.size ≤ i + b → i ≤ s.size → acc.length ≤ i →
    bureauref02_Signs.l0 (b + k + 22) s acc (i : Int) = some (acc ++ (scan s b i).map sig) := by
  intro b
  induction b with
  | zero =>
    intro k i acc h hi ha
    rw [show (0 + k + 22 : Nat) = (k + 21) + 1 by omega, bureauref02_Signs.l0, if_neg (by omega)]
    simp [scan]
  | succ b ih =>
    intro k i acc h hi ha
    rw [show (b + 1 + k + 22 : Nat) = (b + k + 22) + 1 by omega, bureauref02_Signs.l0]
    by_cases hc : i < s.size
    · have hw := width_pos s i hc
      have hf := width_fits s i hc
      have h4 := width_le4 s i
      rw [if_pos (by omega), show b + k + 22 = (b + k + 2) + 20 by omega, one_eq (b + k + 2) s i (by omega) hc, Option.bind_some]
      have hlen : acc.length < 4398046511104 := by omega
      rw [if_pos hlen]
      have hw64 : wrap64 ((i : Int) + (((Utf8.decode s i).2 : Nat) : Int)) = ((i + (Utf8.decode s i).2 : Nat) : Int) := by rw [wrapZ _ (by omega) (by omega)]; omega
      simp only []
      rw [hw64, show b + k + 2 + 20 = b + k + 22 by omega, ih k _ _ (by omega) hf (by simp; omega), scan, if_pos hc, List.append_assoc]
      rfl
    · rw [if_neg (by omega), scan, if_neg hc]
      simp
theorem signs_eq (s : ByteArray) (hs : s.size < 1000000) (k : Nat) : bureauref02_Signs.f (s.size + k + 22) s = some ((scan s s.size 0).map sig) := by
  unfold bureauref02_Signs.f
  have := signs_loop s hs s.size k 0 [] (by omega) (by omega) (by simp)
  rw [show (0 : Int) = ((0 : Nat) : Int) from rfl, this]
  rfl
theorem rd_T63_nat (xs : List S63) (i : Nat) (h : i < xs.length) : rd_T63 xs (i : Int) = xs[i] := by
  unfold rd_T63
  rw [Int.toNat_natCast, List.getD_eq_getElem?_getD, List.getElem?_eq_getElem h]
  rfl
theorem which_loop {s : ByteArray} {n j : Nat} (h : Signs s n) (hs : s.size < 1000000) {a : Int} (ha : At s n a j) (xs : List S63) (hx : xs = (List.range n).map (fun t => sig (st s t, Utf8.decode s (st s t)))) :
    ∀ (c k i : Nat), j ≤ i + c → i ≤ j → bureauref02_which.l0 (c + k + 1) xs a (i : Int) = some (j : Int) := by
  have hlen : xs.length = n := by rw [hx]; simp
  have hn := h.le
  obtain ⟨hj, h1, h2, h3⟩ := ha
  have hat (i : Nat) (hi : i < n) : rd_T63 xs (i : Int) = sig (st s i, Utf8.decode s (st s i)) := by
    rw [rd_T63_nat xs i (by omega)]
    subst hx
    simp
  have hsum (i : Nat) (hi : i < n) : wrap64 ((sig (st s i, Utf8.decode s (st s i))).f0 + (sig (st s i, Utf8.decode s (st s i))).f1) = ((st s (i + 1) : Nat) : Int) := by
    have := h.le_size (show i + 1 ≤ n by omega)
    simp only [sig, st] at this ⊢
    rw [wrapZ _ (by omega) (by omega)]
    omega
  have stop (k : Nat) : bureauref02_which.l0 (k + 1) xs a (j : Int) = some (j : Int) := by
    rw [bureauref02_which.l0]
    by_cases hc : j < n
    · rw [if_pos (by omega), if_pos (by omega), hat j hc, hsum j hc, if_pos]
      have := h.step hc
      by_cases h0 : a < 0
      · omega
      · by_cases hz : a < (s.size : Int)
        · have := h2 (by omega) hz
          omega
        · have := h3 (by omega)
          omega
    · rw [if_neg (by omega), hlen]
      congr 1
      omega
  intro c
  induction c with
  | zero =>
    intro k i hc hi
    obtain rfl : i = j := by omega
    exact stop _
  | succ c ih =>
    intro k i hc hi
    by_cases he : i = j
    · subst he
      exact stop _
    · rw [show c + 1 + k + 1 = (c + k + 1) + 1 by omega, bureauref02_which.l0, if_pos (by omega), if_pos (by omega), hat i (by omega), hsum i (by omega), if_neg]
      · have hw : wrap64 ((i : Int) + 1) = ((i + 1 : Nat) : Int) := by rw [wrapZ _ (by omega) (by omega)]; omega
        rw [hw]
        exact ih k (i + 1) (by omega) (by omega)
      · have hm := st_mono s (show i + 1 ≤ j by omega)
        have := h.le_size hj
        by_cases h0 : a < 0
        · have := h1 h0
          omega
        · by_cases hz : a < (s.size : Int)
          · have := h2 (by omega) hz
            omega
          · omega
theorem map_sig {s : ByteArray} {n : Nat} (h : Signs s n) : (scan s s.size 0).map sig = (List.range n).map (fun t => sig (st s t, Utf8.decode s (st s t))) := by
  rw [h.eq, List.map_map]
  rfl
theorem which_eq {s : ByteArray} {n j : Nat} (h : Signs s n) (hs : s.size < 1000000) {a : Int} (ha : At s n a j) (k : Nat) : bureauref02_which.f (s.size + k + 1) ((scan s s.size 0).map sig) a = some (j : Int) := by
  have hn := h.le
  have hj := ha.1
  unfold bureauref02_which.f
  rw [map_sig h]
  exact which_loop h hs ha _ rfl s.size k 0 (by omega) (by omega)
theorem begins_eq {s : ByteArray} {n i : Nat} (h : Signs s n) (hs : s.size < 1000000) : bureauref02_begins.f s ((scan s s.size 0).map sig) (i : Int) = some (if i < n then ((st s i : Nat) : Int) else (s.size : Int)) := by
  unfold bureauref02_begins.f
  have hlen : ((scan s s.size 0).map sig).length = n := by rw [map_sig h]; simp
  rw [if_pos (by omega), hlen]
  by_cases hc : i < n
  · rw [if_pos (by omega), if_pos (by omega), if_pos hc, rd_T63_nat _ i (by omega)]
    simp only [map_sig h, List.getElem_map, List.getElem_range]
    rfl
  · rw [if_neg (by omega), if_neg hc]
theorem r02align_eq (s : ByteArray) (hs : s.size < 1000000) (a : Int) (k : Nat) : bureauref02_Align.f (s.size + k + 22) s a = some (alignZ s a : Int) := by
  obtain ⟨n, h⟩ := signs_ex s
  obtain ⟨j, ha⟩ := At.ex h a
  have hj := ha.1
  unfold bureauref02_Align.f
  have hW : bureauref02_which.f (s.size + k + 22) ((scan s s.size 0).map sig) a = some (j : Int) := which_eq h hs ha (k + 21)
  rw [signs_eq s hs k, Option.bind_some, hW, Option.bind_some, begins_eq h hs, Option.bind_some, alignZ_eq h ha]
  by_cases hc : j < n
  · rw [if_pos hc]
  · rw [if_neg hc, show j = n by omega, h.last]
theorem class_eq (k : Nat) (r : Int) : glyph_Class.f (k + 4) r = some (classZ r) := by
  unfold classZ glyph_Class.f
  have j3 (k : Nat) (x : Bool) : glyph_Class.j3 (k + 1) r x = some (if x = true then 1 else if 128 ≤ r ∧ r ≤ 1114111 ∧ r ≠ 65533 then 1 else 2) := by
    rw [glyph_Class.j3]
    by_cases hx : x = true
    · rw [if_pos hx, if_pos hx]
    rw [if_neg hx, if_neg hx]
    by_cases h1 : r ≥ 128
    · rw [if_pos h1]
      by_cases h2 : r ≤ 1114111
      · rw [if_pos h2]
        by_cases h3 : r = 65533
        · rw [if_pos h3, if_neg (by omega)]
        · rw [if_neg h3, if_pos ⟨h1, h2, h3⟩]
      · rw [if_neg h2, if_neg (by omega)]
    · rw [if_neg h1, if_neg (by omega)]
  have j2 (k : Nat) (x : Bool) : glyph_Class.j2 (k + 2) r x = some (if x = true ∨ (65 ≤ r ∧ r ≤ 90) ∨ r = 95 then 1 else if 128 ≤ r ∧ r ≤ 1114111 ∧ r ≠ 65533 then 1 else 2) := by
    rw [glyph_Class.j2]
    by_cases hx : x = true
    · rw [if_pos hx, j3, if_pos hx, if_pos (Or.inl hx)]
    rw [if_neg hx]
    by_cases h1 : r ≥ 65
    · rw [if_pos h1]
      by_cases h2 : r ≤ 90
      · rw [if_pos h2, decide_eq_true h2, j3, if_pos rfl, if_pos (Or.inr (Or.inl ⟨h1, h2⟩))]
      · rw [if_neg h2, j3]
        by_cases h3 : r = 95
        · rw [if_pos (by simp [h3]), if_pos (Or.inr (Or.inr h3))]
        · rw [if_neg (by simp [h3]), if_neg (c := x = true ∨ _) (by rintro (h | h | h); exact hx h; omega; omega)]
    · rw [if_neg h1, j3]
      rw [if_neg (by simp; omega), if_neg (c := x = true ∨ _) (by rintro (h | h | h); exact hx h; omega; omega)]
  have j1 (k : Nat) (x : Bool) : glyph_Class.j1 (k + 3) r x = some (if x = true ∨ (97 ≤ r ∧ r ≤ 122) ∨ (65 ≤ r ∧ r ≤ 90) ∨ r = 95 then 1 else if 128 ≤ r ∧ r ≤ 1114111 ∧ r ≠ 65533 then 1 else 2) := by
    rw [glyph_Class.j1]
    by_cases hx : x = true
    · rw [if_pos hx, j3, if_pos hx, if_pos (Or.inl hx)]
    rw [if_neg hx]
    by_cases h1 : r ≥ 97
    · rw [if_pos h1, j2]
      by_cases h2 : r ≤ 122
      · rw [if_pos (Or.inl (decide_eq_true h2)), if_pos (Or.inr (Or.inl ⟨h1, h2⟩))]
      · rw [if_neg (by rintro (h | h | h); exact h2 (of_decide_eq_true h); omega; omega), if_neg (c := x = true ∨ _) (by rintro (h | h | h | h); exact hx h; omega; omega; omega)]
    · rw [if_neg h1, j2]
      by_cases h3 : (65 ≤ r ∧ r ≤ 90) ∨ r = 95
      · rw [if_pos (Or.inr h3), if_pos (Or.inr (Or.inr h3))]
      · rw [if_neg (by rintro (h | h); cases h; exact h3 h), if_neg (c := x = true ∨ _) (by rintro (h | h | h); exact hx h; omega; exact h3 h)]
  have j0 (k : Nat) (x : Bool) : glyph_Class.j0 (k + 4) r x = some (if x = true then 0 else if r = 10 then 3 else if (48 ≤ r ∧ r ≤ 57) ∨ (97 ≤ r ∧ r ≤ 122) ∨ (65 ≤ r ∧ r ≤ 90) ∨ r = 95 then 1 else if 128 ≤ r ∧ r ≤ 1114111 ∧ r ≠ 65533 then 1 else 2) := by
    rw [glyph_Class.j0]
    by_cases hx : x = true
    · rw [if_pos hx, if_pos hx]
    rw [if_neg hx, if_neg hx]
    by_cases h10 : r = 10
    · rw [if_pos h10, if_pos h10]
    rw [if_neg h10, if_neg h10]
    by_cases h1 : r ≥ 48
    · rw [if_pos h1, j1]
      by_cases h2 : r ≤ 57
      · rw [if_pos (Or.inl (decide_eq_true h2)), if_pos (Or.inl ⟨h1, h2⟩)]
      · by_cases h3 : (97 ≤ r ∧ r ≤ 122) ∨ (65 ≤ r ∧ r ≤ 90) ∨ r = 95
        · rw [if_pos (Or.inr h3), if_pos (Or.inr h3)]
        · rw [if_neg (by rintro (h | h); exact h2 (of_decide_eq_true h); exact h3 h), if_neg (c := (48 ≤ r ∧ r ≤ 57) ∨ _) (by rintro (h | h); omega; exact h3 h)]
    · rw [if_neg h1, j1]
      rw [if_neg (by rintro (h | h | h | h); cases h; omega; omega; omega), if_neg (c := (48 ≤ r ∧ r ≤ 57) ∨ _) (by rintro (h | h | h | h); omega; omega; omega; omega)]
  by_cases h32 : r = 32
  · rw [if_pos h32, j0, if_pos rfl, if_pos (Or.inl h32)]
  · rw [if_neg h32, j0]
    by_cases h9 : r = 9
    · rw [if_pos (by simp [h9]), if_pos (Or.inr h9)]
    · rw [if_neg (by simp [h9]), if_neg (c := r = 32 ∨ _) (by rintro (h | h); exact h32 h; exact h9 h)]
theorem ext_drop (s : ByteArray) (p : Nat) : (s.extract p s.size).data.toList = s.data.toList.drop p := by
  rw [ByteArray.data_extract, Array.toList_extract, List.extract_eq_take_drop, List.take_of_length_le]
  rw [List.length_drop, size_list]
  exact Nat.le_refl _
theorem ext_take (s : ByteArray) (q : Nat) : (s.extract 0 q).data.toList = s.data.toList.take q := by
  rw [ByteArray.data_extract, Array.toList_extract, List.extract_eq_take_drop, List.drop_zero, Nat.sub_zero]
theorem strcount_eq (s : ByteArray) : strings_Count.f s (⟨#[10]⟩ : ByteArray) = some ((s.data.toList.count 10 : Nat) : Int) := rfl
theorem index_eq (s : ByteArray) (p : Nat) : strings_IndexByte.f (s.extract p s.size) 10 = some (Lib.indexByte (s.data.toList.drop p) 10) := by
  unfold strings_IndexByte.f
  rw [ext_drop]
  rfl
theorem nE_count (s : ByteArray) : nE s = s.data.toList.count 10 + 1 := eL_len _ _
theorem nE_pos (s : ByteArray) : 1 ≤ nE s := ends_pos s
theorem nE_le (s : ByteArray) : nE s ≤ s.size + 1 := ends_le s
theorem count_eq (s : ByteArray) (hs : s.size ≤ 1000000) : line_Count.f s = some (nE s : Int) := by
  unfold line_Count.f
  have := nE_le s
  rw [strcount_eq, Option.bind_some, nE_count] at *
  congr 1
  rw [wrapZ _ (by omega) (by omega)]
  omega
theorem of_eq (s : ByteArray) (a : Int) : line_Of.f s a = some (ofZ s a : Int) := by
  unfold line_Of.f
  have hm : mn (mx a 0) (s.size : Int) = min (max a 0) (s.size : Int) := by unfold mn mx; omega
  rw [hm, if_pos (by omega), if_pos (by omega), strcount_eq, Option.bind_some, ext_take]
  rfl
theorem bounds_loop (s : ByteArray) (hs : s.size ≤ 1000000) (m : Nat) (hm : m < nE s) : ∀ (c i k : Nat), i + c = m →
    line_Bounds.l0 (c + k + 1) s (bF s i : Int) (m : Int) (i : Int) = some ((bF s m : Int), (bT s m : Int), 0) := by
  have hn := nE_le s
  intro c
  induction c with
  | zero =>
    intro i k hi
    have hi : i = m := by omega
    subst hi
    have h1 := (bF_tail s i hm).1
    rw [show 0 + k + 1 = k + 1 by omega, line_Bounds.l0, if_neg (by omega), if_pos (by omega), if_pos (by omega), Int.toNat_natCast, index_eq, Option.bind_some]
    rcases bT_index s i hm with ⟨h2, h3, h4⟩ | ⟨j, h2, h3, h4, h5, h6⟩
    · rw [h2, if_pos (by decide), h4]
    · rw [h2, if_neg (by omega), wrapZ _ (by omega) (by omega), h4]
      rfl
  | succ c ih =>
    intro i k hi
    have him : i < nE s := by omega
    have h1 := (bF_tail s i him).1
    have hw : wrap64 ((i : Int) + 1) = ((i + 1 : Nat) : Int) := by rw [wrapZ _ (by omega) (by omega)]; omega
    rw [show c + 1 + k + 1 = (c + k + 1) + 1 by omega, line_Bounds.l0, if_pos (by omega), if_pos (by omega), if_pos (by omega), Int.toNat_natCast, index_eq, Option.bind_some, hw]
    rcases bT_index s i him with ⟨h2, h3, h4⟩ | ⟨j, h2, h3, h4, h5, h6⟩
    · exfalso
      unfold nE at hm
      omega
    · have e1 : wrap64 ((j : Int) + 1) = (j : Int) + 1 := wrapZ _ (by omega) (by omega)
      have e2 : wrap64 ((bF s i : Int) + ((j : Int) + 1)) = ((bF s (i + 1) : Nat) : Int) := by rw [wrapZ _ (by omega) (by omega), h6]; omega
      rw [h2, e1, e2]
      exact ih (i + 1) k (by omega)
def boundsZ (s : ByteArray) (n : Int) : Int × Int × Int := if 0 ≤ n ∧ n < (nE s : Int) then ((bF s n.toNat : Int), (bT s n.toNat : Int), 0) else (0, 0, 2)
theorem bounds_eq (s : ByteArray) (hs : s.size ≤ 1000000) (n : Int) (k : Nat) : line_Bounds.f (s.size + k + 4) s n = some (boundsZ s n) := by
  have hn := nE_le s
  unfold line_Bounds.f boundsZ
  by_cases h0 : n < 0
  · rw [if_pos h0, show s.size + k + 4 = (s.size + k + 3) + 1 from rfl, line_Bounds.j0, if_pos rfl, if_neg (by omega)]
  rw [if_neg h0, count_eq s hs, Option.bind_some, show s.size + k + 4 = (s.size + k + 3) + 1 from rfl, line_Bounds.j0]
  by_cases h1 : n ≥ (nE s : Int)
  · rw [decide_eq_true h1, if_pos rfl, if_neg (by omega)]
  · rw [decide_eq_false h1, if_neg (by decide), if_pos (by omega)]
    obtain ⟨m, rfl⟩ : ∃ m : Nat, n = (m : Int) := ⟨n.toNat, by omega⟩
    have := bounds_loop s hs m (by omega) m 0 (s.size + k + 2 - m) (by omega)
    rw [show m + (s.size + k + 2 - m) + 1 = s.size + k + 3 by omega] at this
    exact this
theorem suffix_dec (s : ByteArray) (i : Nat) (h : i < s.size) : utf8_DecodeRuneInString.f (s.extract i s.size) = some ((((Utf8.decode s i).1 : Nat) : Int), (((Utf8.decode s i).2 : Nat) : Int)) := by
  unfold utf8_DecodeRuneInString.f
  rw [suffix_decode s i h]
theorem align_loop (s : ByteArray) (a : Nat) (ha : a < s.size) (hs : s.size < 1000000) : ∀ (n b k : Nat), n + b = 4 → glyph_Align.l0 (n * 2 + k + 2) s (a : Int) (b : Int) = some ((al s a n b : Nat) : Int) := by
  intro n
  induction n with
  | zero =>
    intro b k hb
    rw [show 0 * 2 + k + 2 = (k + 1) + 1 by omega, glyph_Align.l0, if_neg (by omega), glyph_Align.j1, if_neg (by decide)]
    rfl
  | succ n ih =>
    intro b k hb
    rw [show (n + 1) * 2 + k + 2 = ((n * 2 + k + 2) + 1) + 1 by omega, glyph_Align.l0, if_pos (by omega)]
    have hal : al s a (n + 1) b = if b ≤ a then (if gb s (a - b) / 64 = 2 then al s a n (b + 1) else if b < (Utf8.decode s (a - b)).2 then a - b else a) else a := rfl
    rw [hal]
    by_cases hc : b ≤ a
    · have hd : decide ((b : Int) ≤ (a : Int)) = true := decide_eq_true (by omega)
      have hw : wrap64 ((a : Int) - (b : Int)) = ((a - b : Nat) : Int) := by rw [wrapZ _ (by omega) (by omega)]; omega
      have hw1 : wrap64 ((b : Int) + 1) = ((b + 1 : Nat) : Int) := by rw [wrapZ _ (by omega) (by omega)]; omega
      have c1 : (0 : Int) ≤ ((a - b : Nat) : Int) := by omega
      have c2 : ((a - b : Nat) : Int) < (s.size : Int) := by omega
      have c3 : ((a - b : Nat) : Int) ≤ (s.size : Int) := by omega
      rw [hd, glyph_Align.j1, if_pos rfl, hw, hw1, if_pos c1, if_pos c2, bt_gb s (a - b) (by omega)]
      unfold utf8_RuneStart.f
      rw [Ext.start_eq _ (gb_lt s _), Option.bind_some, if_pos hc]
      by_cases hg : gb s (a - b) / 64 = 2
      · rw [if_neg (by simp [hg]), if_pos hg]
        exact ih (b + 1) k (by omega)
      · rw [if_pos (by simp [hg]), if_neg hg, if_pos c3, Int.toNat_natCast, suffix_dec s (a - b) (by omega), Option.bind_some]
        simp only []
        by_cases hl : b < (Utf8.decode s (a - b)).2
        · rw [if_pos hl, if_pos (by omega)]
        · rw [if_neg hl, if_neg (by omega)]
    · have hd : decide ((b : Int) ≤ (a : Int)) = false := decide_eq_false (by omega)
      rw [hd, glyph_Align.j1, if_neg (by decide), if_neg hc]
theorem align_eq {s : ByteArray} {n j : Nat} (h : Signs s n) (hs : s.size < 1000000) {a : Int} (ha : At s n a j) (k : Nat) : glyph_Align.f (k + 10) s a = some ((st s j : Nat) : Int) := by
  obtain ⟨hj, h1, h2, h3⟩ := ha
  unfold glyph_Align.f
  by_cases c0 : a < 0
  · rw [if_pos c0, h1 c0]
    rfl
  rw [if_neg c0]
  by_cases c1 : a ≥ (s.size : Int)
  · rw [if_pos c1, h3 c1, h.last]
  rw [if_neg c1]
  obtain ⟨e1, e2, e3⟩ := h2 (by omega) (by omega)
  obtain ⟨a, rfl⟩ : ∃ a' : Nat, a = a' := ⟨a.toNat, by omega⟩
  have := align_loop s a (by omega) hs 4 0 k (by omega)
  rw [show 4 * 2 + k + 2 = k + 10 by omega] at this
  rw [show (0 : Int) = ((0 : Nat) : Int) from rfl, this, al_eq h e1 (by omega) (by omega)]
theorem alignP_eq (s : ByteArray) (hs : s.size < 1000000) (a : Int) (k : Nat) : glyph_Align.f (k + 10) s a = some (alignZ s a : Int) := by
  obtain ⟨n, h⟩ := signs_ex s
  obtain ⟨j, hj⟩ := At.ex h a
  rw [align_eq h hs hj k, alignZ_eq h hj]
theorem ofZ_lt (s : ByteArray) (a : Int) : ofZ s a < nE s := by
  rw [nE_count]
  unfold ofZ
  have := List.Sublist.count_le (10 : UInt8) (List.take_sublist (min (max a 0) (s.size : Int)).toNat s.data.toList)
  omega
theorem at_eq {s : ByteArray} {n j : Nat} (h : Signs s n) (hs : s.size < 1000000) {a : Int} (ha : At s n a j) (k : Nat) :
    glyph_At.f (k + 10) s a = some (if j < n then ((((Utf8.decode s (st s j)).1 : Nat) : Int), (((Utf8.decode s (st s j)).2 : Nat) : Int)) else (0, 0)) := by
  unfold glyph_At.f
  rw [align_eq h hs ha k, Option.bind_some]
  by_cases hc : j < n
  · have hl := h.lt j hc
    rw [if_neg (by omega), if_pos (by omega), if_pos (by omega), Int.toNat_natCast, suffix_dec s _ hl, Option.bind_some, if_pos hc]
  · have : j = n := by have := ha.1; omega
    rw [this, h.last, if_pos rfl, if_neg (by omega)]
theorem next_eq {s : ByteArray} {n j : Nat} (h : Signs s n) (hs : s.size < 1000000) {a : Int} (ha : At s n a j) (k : Nat) :
    glyph_Next.f (k + 10) s a = some (if j < n then ((st s (j + 1) : Nat) : Int) else (s.size : Int)) := by
  unfold glyph_Next.f
  rw [at_eq h hs ha k, Option.bind_some, align_eq h hs ha k, Option.bind_some]
  by_cases hc : j < n
  · have hl := h.le_size (show j + 1 ≤ n by omega)
    rw [if_pos hc, if_pos hc]
    simp only [st] at hl ⊢
    congr 1
    rw [wrapZ _ (by omega) (by omega)]
    omega
  · have : j = n := by have := ha.1; omega
    rw [if_neg hc, if_neg hc, this, h.last]
    congr 1
    rw [wrapZ _ (by omega) (by omega)]
    simp
theorem prev_eq {s : ByteArray} {n j : Nat} (h : Signs s n) (hs : s.size < 1000000) {a : Int} (ha : At s n a j) (k : Nat) :
    glyph_Prev.f (k + 10) s a = some (if j = 0 then 0 else ((st s (j - 1) : Nat) : Int)) := by
  unfold glyph_Prev.f
  have hsz := h.le_size ha.1
  have hw : wrap64 ((st s j : Int) - 1) = (st s j : Int) - 1 := wrapZ _ (by omega) (by omega)
  rw [align_eq h hs ha k, Option.bind_some, hw]
  by_cases hc : j = 0
  · subst hc
    rw [if_pos rfl, align_eq h hs (j := 0) ⟨by omega, fun _ => rfl, fun h0 => by simp [st] at h0, fun h0 => by simp [st] at h0; omega⟩ k]
    rfl
  · have hj := ha.1
    have hst := h.step (t := j - 1) (by omega)
    rw [show j - 1 + 1 = j by omega] at hst
    rw [if_neg hc, align_eq h hs (At.of h (m := j - 1) (by omega) (by omega) (by rw [show j - 1 + 1 = j by omega]; omega)) k]
    rfl
theorem rd_nat (xs : List Int) (i : Nat) (h : i < xs.length) : rd xs (i : Int) = xs[i] := by
  unfold rd
  rw [Int.toNat_natCast, List.getD_eq_getElem?_getD, List.getElem?_eq_getElem h]
  rfl
theorem rends_loop (s : ByteArray) (hs : s.size < 1000000) : ∀ (c i k : Nat) (acc : List Int), i + c = s.size → acc.length ≤ i →
    bureauref06_Ends.l0 (c + k + 1) s acc (i : Int) = some (acc ++ (eL (s.data.toList.drop i) i).map (fun x : Nat => (x : Int))) := by
  intro c
  induction c with
  | zero =>
    intro i k acc hi ha
    have hlen : acc.length < 17592186044416 := by omega
    rw [show 0 + k + 1 = k + 1 by omega, bureauref06_Ends.l0, if_neg (by omega), if_pos hlen, List.drop_of_length_le (by rw [← size_list]; omega)]
    show _ = some (acc ++ [(i : Int)])
    rw [show s.size = i by omega]
  | succ c ih =>
    intro i k acc hi ha
    have hlen : acc.length < 17592186044416 := by omega
    have hlt : i < s.data.toList.length := by rw [← size_list]; omega
    have hw : wrap64 ((i : Int) + 1) = ((i + 1 : Nat) : Int) := by rw [wrapZ _ (by omega) (by omega)]; omega
    have hgb := gb_list s i _ (List.getElem?_eq_getElem hlt)
    rw [show c + 1 + k + 1 = (c + k + 1) + 1 by omega, bureauref06_Ends.l0, if_pos (by omega), if_pos (by omega), bt_gb s i (by omega), hgb, if_pos hlen, hw, List.drop_eq_getElem_cons hlt]
    by_cases h10 : s.data.toList[i] = 10
    · rw [h10, eL_hit, if_pos (by decide), ih (i + 1) k _ (by omega) (by simp; omega), List.map_cons, List.append_assoc]
      rfl
    · have hne : ¬ ((s.data.toList[i].toNat : Nat) : Int) = 10 := by
        intro h
        apply h10
        apply UInt8.toNat_inj.1
        show s.data.toList[i].toNat = 10
        omega
      rw [if_neg hne, eL_miss h10, ih (i + 1) k _ (by omega) (by omega)]
def endsI (s : ByteArray) : List Int := (ends s).map (fun x : Nat => (x : Int))
theorem endsI_len (s : ByteArray) : (endsI s).length = nE s := by unfold endsI nE; simp
theorem rends_eq (s : ByteArray) (hs : s.size < 1000000) (k : Nat) : bureauref06_Ends.f (s.size + k + 1) s = some (endsI s) := by
  unfold bureauref06_Ends.f
  have := rends_loop s hs s.size 0 k [] (by omega) (by simp)
  rw [show (0 : Int) = ((0 : Nat) : Int) from rfl, this]
  rfl
theorem endsI_get (s : ByteArray) (i : Nat) (h : i < nE s) : rd (endsI s) (i : Int) = ((bT s i : Nat) : Int) := by
  rw [rd_nat _ i (by rw [endsI_len]; exact h)]
  unfold endsI bT
  rw [List.getElem_map, List.getD_eq_getElem?_getD, List.getElem?_eq_getElem (show i < (ends s).length from h)]
  rfl
theorem rbounds_eq (s : ByteArray) (hs : s.size < 1000000) (n : Int) (k : Nat) : bureauref06_Bounds.f (s.size + k + 2) s n = some (boundsZ s n) := by
  have hn := nE_le s
  have hp := nE_pos s
  unfold bureauref06_Bounds.f boundsZ
  rw [show s.size + k + 2 = (s.size + (k + 1)) + 1 by omega, rends_eq s hs (k + 1), Option.bind_some, endsI_len]
  by_cases h0 : n < 0
  · rw [if_pos h0, bureauref06_Bounds.j0, if_pos rfl, if_neg (by omega)]
  rw [if_neg h0]
  by_cases h1 : n ≥ (nE s : Int)
  · rw [decide_eq_true h1, bureauref06_Bounds.j0, if_pos rfl, if_neg (by omega)]
  rw [decide_eq_false h1, bureauref06_Bounds.j0, if_neg (by decide), if_pos (c := 0 ≤ n ∧ _) (by omega)]
  obtain ⟨m, rfl⟩ : ∃ m : Nat, n = (m : Int) := ⟨n.toNat, by omega⟩
  rw [Int.toNat_natCast, endsI_len]
  cases m with
  | zero =>
    rw [if_pos (show ((0 : Nat) : Int) = 0 from rfl), if_pos (by omega), show (0 : Int) = ((0 : Nat) : Int) from rfl, endsI_get s 0 (by omega)]
    rfl
  | succ m =>
    have hw : wrap64 (((m + 1 : Nat) : Int) - 1) = (m : Int) := by rw [wrapZ _ (by omega) (by omega)]; omega
    have hle := bT_le s m (by unfold nE at *; omega)
    rw [if_neg (by omega), hw, if_pos (by omega), if_pos (by omega), if_pos (by omega), if_pos (by omega), endsI_get s m (by omega), endsI_get s (m + 1) (by omega), wrapZ _ (by omega) (by omega)]
    rfl
theorem rof_loop (s : ByteArray) (hs : s.size < 1000000) (a : Int) : ∀ (c i k n : Nat), i + c = s.size → n ≤ i →
    bureauref06_Of.l0 (c * 2 + k + 2) s a (n : Int) (i : Int) = some ((n + ((s.data.toList.drop i).take ((min a (s.size : Int)).toNat - i)).count 10 : Nat) : Int) := by
  intro c
  induction c with
  | zero =>
    intro i k n hi hn
    rw [show 0 * 2 + k + 2 = (k + 1) + 1 by omega, bureauref06_Of.l0, if_neg (by omega), bureauref06_Of.j1, if_neg (by decide), show (min a (s.size : Int)).toNat - i = 0 by omega, List.take_zero, List.count_nil]
    rfl
  | succ c ih =>
    intro i k n hi hn
    have hlt : i < s.data.toList.length := by rw [← size_list]; omega
    have hw : wrap64 ((i : Int) + 1) = ((i + 1 : Nat) : Int) := by rw [wrapZ _ (by omega) (by omega)]; omega
    have hwn : wrap64 ((n : Int) + 1) = ((n + 1 : Nat) : Int) := by rw [wrapZ _ (by omega) (by omega)]; omega
    have hgb := gb_list s i _ (List.getElem?_eq_getElem hlt)
    rw [show (c + 1) * 2 + k + 2 = (c * 2 + k + 2 + 1) + 1 by omega, bureauref06_Of.l0, if_pos (by omega)]
    by_cases ha : (i : Int) < a
    · have e1 : (min a (s.size : Int)).toNat - i = ((min a (s.size : Int)).toNat - (i + 1)) + 1 := by omega
      rw [decide_eq_true ha, bureauref06_Of.j1, if_pos rfl, if_pos (by omega), if_pos (by omega), bt_gb s i (by omega), hgb, hw, hwn, e1, List.drop_eq_getElem_cons hlt, List.take_succ_cons]
      by_cases h10 : s.data.toList[i] = 10
      · rw [h10, if_pos (by decide), ih (i + 1) k (n + 1) (by omega) (by omega), List.count_cons_self]
        congr 2
        omega
      · have hne : ¬ ((s.data.toList[i].toNat : Nat) : Int) = 10 := by
          intro h
          apply h10
          apply UInt8.toNat_inj.1
          show s.data.toList[i].toNat = 10
          omega
        rw [if_neg hne, ih (i + 1) k n (by omega) (by omega), List.count_cons_of_ne h10]
    · rw [decide_eq_false ha, bureauref06_Of.j1, if_neg (by decide), show (min a (s.size : Int)).toNat - i = 0 by omega, List.take_zero, List.count_nil]
      rfl
theorem rof_eq (s : ByteArray) (hs : s.size < 1000000) (a : Int) (k : Nat) : bureauref06_Of.f (s.size * 2 + k + 2) s a = some (ofZ s a : Int) := by
  unfold bureauref06_Of.f
  have := rof_loop s hs a s.size 0 k 0 (by omega) (by omega)
  rw [show (0 : Int) = ((0 : Nat) : Int) from rfl, this]
  unfold ofZ
  rw [List.drop_zero, Nat.sub_zero, Nat.zero_add, show (min a (s.size : Int)).toNat = (min (max a 0) (s.size : Int)).toNat by omega]
/-- In: by a text's bytes from a place on. -/
theorem in_l0 (x : Int) (s : ByteArray) (hs : s.size < 1000) : ∀ (d i f : Nat), i + d = s.size → d < f →
    bureauref11_In.l0 f x s (i : Int) = some ((s.data.toList.drop i).any fun b => decide ((b.toNat : Int) = x))
  | _, _, 0, _, hf => by omega
  | 0, i, f + 1, e, _ => by
    have hc : ¬ ((i : Int) < (s.size : Int)) := by omega
    have hd : s.data.toList.drop i = [] := List.drop_eq_nil_of_le (by rw [Array.length_toList]; show s.size ≤ i; omega)
    rw [bureauref11_In.l0, if_neg hc, hd]
    rfl
  | d + 1, i, f + 1, e, hf => by
    have hc : ((i : Int) < (s.size : Int)) := by omega
    have hi : i < s.size := by omega
    have hil : i < s.data.toList.length := by rw [Array.length_toList]; exact hi
    have hb : bt s (i : Int) = ((s.data.toList[i]).toNat : Int) := by
      unfold bt
      rw [dif_pos (show (i : Int).toNat < s.size by simpa using hi)]
      rfl
    have hlt : (s.data.toList[i]).toNat < 256 := UInt8.toNat_lt _
    have hw : wrap64 (bt s (i : Int)) = ((s.data.toList[i]).toNat : Int) := by rw [hb, wrapZ _ (by omega) (by omega)]
    have hw2 : wrap64 ((i : Int) + 1) = ((i + 1 : Nat) : Int) := by rw [wrapZ _ (by omega) (by omega)]; omega
    rw [bureauref11_In.l0, if_pos hc, if_pos (by omega), hw, hw2, List.drop_eq_getElem_cons hil, List.any_cons]
    by_cases q : ((s.data.toList[i]).toNat : Int) = x
    · rw [if_pos q, decide_eq_true q]; rfl
    · rw [if_neg q, decide_eq_false q, Bool.false_or]
      exact in_l0 x s hs d (i + 1) f (by omega) (by omega)
theorem in_eq (k : Nat) (x : Int) (s : ByteArray) (hs : s.size < 1000) (hk : s.size < k) : bureauref11_In.f k x s = some (s.data.toList.any fun b => decide ((b.toNat : Int) = x)) := by
  have := in_l0 x s hs s.size 0 k (by omega) hk
  rw [List.drop_zero] at this
  exact this
def castL (r : List Nat) : List Int := r.map (fun x : Nat => (x : Int))
theorem castL_len (r : List Nat) : (castL r).length = r.length := by simp [castL]
/-! ### what Find makes of a pair -/
def fin3 (around : Bool) (z : Int × Int × Bool) : Int × Int × Bool := if z.2.2 = true then (if around = true then (z.1, z.2.1 + 1, true) else (z.1 + 1, z.2.1, true)) else (0, 0, false)
theorem j3_eq (k : Nat) (around : Bool) (z : Int × Int × Bool) (h0 : -1000000 < z.1 ∧ z.1 < 1000000) (h1 : -1000000 < z.2.1 ∧ z.2.1 < 1000000) : object_Find.j3 (k + 1) around z.1 z.2.1 z.2.2 = some (fin3 around z) := by
  have w0 : wrap64 (z.1 + 1) = z.1 + 1 := wrapZ _ (by omega) (by omega)
  have w1 : wrap64 (z.2.1 + 1) = z.2.1 + 1 := wrapZ _ (by omega) (by omega)
  rw [object_Find.j3, w0, w1]
  unfold fin3
  cases z.2.2
  · rfl
  · cases around <;> rfl
theorem find_head (s : ByteArray) (hs : s.size < 1000000) (at_ : Int) (around : Bool) (key : Int) (k : Nat) : object_Find.f (k + 10) s at_ around key =
    (if ((alignZ s at_ : Nat) : Int) = (s.size : Int) then (some (0, 0, false)) else (if key = 119 then ((object_word.f (k + 10) s ((alignZ s at_ : Nat) : Int) around).bind fun bt153 => (some (bt153.1, bt153.2, true))) else (if key = 40 then (object_Find.j0 (k + 10) s ((alignZ s at_ : Nat) : Int) around key 0 0 false key (key == 40)) else (if key = 41 then (object_Find.j0 (k + 10) s ((alignZ s at_ : Nat) : Int) around key 0 0 false key (key == 41)) else (object_Find.j0 (k + 10) s ((alignZ s at_ : Nat) : Int) around key 0 0 false key (key == 98)))))) := by
  unfold object_Find.f
  rw [alignP_eq s hs at_ k, Option.bind_some]
theorem alive_eq (k : Nat) : bureaulaw13_alive.f (k + 60) = some true := by
  have h : bureaulaw13_alive.f 60 = some true := by decide +kernel
  induction k with
  | zero => exact h
  | succ k ih =>
    have := bureaulaw13_alive.mono (k + 60) true ih
    rwa [show k + 1 + 60 = k + 60 + 1 by omega]
/-! ### all pairs, and the one that is told -/
def hitB (a : Nat) (x : Nat × Nat) : Bool := decide (a ≤ x.2) && decide (x.1 ≤ a)
def brkL (g : Nat → Nat) (o c : Nat) : Nat → Nat → List Nat → List (Nat × Nat)
  | 0, _, _ => []
  | d + 1, i, r => if g i = o then brkL g o c d (i + 1) (i :: r) else if g i = c then (match r with | [] => brkL g o c d (i + 1) [] | p :: r' => (p, i) :: brkL g o c d (i + 1) r') else brkL g o c d (i + 1) r
def ansZ : Option (Nat × Nat) → Int × Int × Bool
  | none => (0, 0, false)
  | some x => ((x.1 : Int), (x.2 : Int), true)
theorem brk_val (s : ByteArray) (hs : s.size < 1000000) (a o c : Nat) (hoc : o ≠ c) : ∀ (d i : Nat) (r : List Nat) (f : Nat), i + d = s.size → r.length ≤ i → 2 * d + 1 ≤ f →
    object_brackets.l0 f s (a : Int) (o : Int) (c : Int) (castL r.reverse) (s.size : Int) (i : Int) = some (ansZ ((brkL (gb s) o c d i r).find? (hitB a)))
  | _, _, _, 0, _, _, hf => by omega
  | 0, i, r, f + 1, e, _, _ => by
    rw [object_brackets.l0, if_neg (by omega)]
    rfl
  | d + 1, i, r, 1, e, hlen, hf => by omega
  | d + 1, i, r, f + 2, e, hlen, hf => by
    have hb := bt_gb s i (by omega)
    have hw : wrap64 ((i : Int) + 1) = ((i + 1 : Nat) : Int) := by rw [wrapZ _ (by omega) (by omega)]; omega
    have jf : object_brackets.j1 (f + 1) s (a : Int) (o : Int) (c : Int) (castL r.reverse) (i : Int) (s.size : Int) (i : Int) false = object_brackets.l0 f s (a : Int) (o : Int) (c : Int) (castL r.reverse) (s.size : Int) ((i + 1 : Nat) : Int) := by
      rw [object_brackets.j1, if_neg (by simp), hw]
    rw [object_brackets.l0, if_pos (by omega), if_pos (by omega), if_pos (by omega), hb, hw]
    unfold brkL
    by_cases c1 : gb s i = o
    · rw [if_pos (by omega), if_pos c1, if_pos (by rw [castL_len, List.length_reverse]; omega)]
      have := brk_val s hs a o c hoc d (i + 1) (i :: r) (f + 1) (by omega) (by simp only [List.length_cons]; omega) (by omega)
      rw [← this]
      congr 1
      simp [castL]
    · rw [if_neg (by omega), if_neg c1]
      by_cases c2 : gb s i = c
      · rw [if_pos (by omega), if_pos c2]
        cases r with
        | nil =>
          rw [show decide (((castL ([] : List Nat).reverse).length : Int) > 0) = false from by simp [castL], jf]
          exact brk_val s hs a o c hoc d (i + 1) [] f (by omega) (by simp) (by omega)
        | cons p r =>
          have hl1 : (castL (p :: r).reverse).length = r.length + 1 := by rw [castL_len]; simp
          have hpos : decide (((castL (p :: r).reverse).length : Int) > 0) = true := by rw [hl1]; exact decide_eq_true (by omega)
          have hl2 := hlen
          simp only [List.length_cons] at hl2
          have hwl : wrap64 (((castL (p :: r).reverse).length : Int) - 1) = (r.length : Int) := by rw [hl1, wrapZ _ (by omega) (by omega)]; omega
          have hcl : castL (p :: r).reverse = castL r.reverse ++ [(p : Int)] := by simp [castL]
          have hrd : rd (castL (p :: r).reverse) (r.length : Int) = (p : Int) := by
            unfold rd
            rw [Int.toNat_natCast, hcl, List.getD_eq_getElem?_getD, List.getElem?_append_right (by rw [castL_len, List.length_reverse]; omega), castL_len, List.length_reverse, Nat.sub_self]
            rfl
          have htk : (castL (p :: r).reverse).take r.length = castL r.reverse := by
            rw [hcl, List.take_append_of_le_length (by rw [castL_len, List.length_reverse]; omega), List.take_of_length_le (by rw [castL_len, List.length_reverse]; omega)]
          have ih := brk_val s hs a o c hoc d (i + 1) r f (by omega) (by omega) (by omega)
          rw [hpos, object_brackets.j1, if_pos rfl, hwl, hrd, hw, Int.toNat_natCast, htk, hl1, if_pos (by omega), if_pos (by omega), if_pos (by omega), Option.bind_some]
          simp only [List.find?]
          by_cases q1 : a ≤ i
          · rw [if_pos (show (i : Int) ≥ (a : Int) by omega)]
            by_cases q2 : p ≤ a
            · rw [if_pos (show (p : Int) ≤ (a : Int) by omega), show hitB a (p, i) = true by simp [hitB, q1, q2]]
              rfl
            · rw [if_neg (show ¬ (p : Int) ≤ (a : Int) by omega), show hitB a (p, i) = false by simp [hitB, q2]]
              exact ih
          · rw [if_neg (show ¬ (i : Int) ≥ (a : Int) by omega), show hitB a (p, i) = false by simp [hitB, q1]]
            exact ih
      · rw [if_neg (by omega), if_neg c2, jf]
        exact brk_val s hs a o c hoc d (i + 1) r f (by omega) (by omega) (by omega)
def mk41 (x : Nat × Nat) : S41 := ⟨(x.1 : Int), (x.2 : Int), 0⟩
theorem rbrk_val (s : ByteArray) (hs : s.size < 1000000) (o c : Nat) (hoc : o ≠ c) : ∀ (d i : Nat) (r : List Nat) (acc : List S41) (f : Nat), i + d = s.size → r.length ≤ i → acc.length ≤ i → d + 1 ≤ f →
    bureauref13_Brackets.l0 f s (o : Int) (c : Int) acc (castL r.reverse) (i : Int) = some (acc ++ (brkL (gb s) o c d i r).map mk41)
  | _, _, _, _, 0, _, _, _, hf => by omega
  | 0, i, r, acc, f + 1, e, _, _, _ => by
    rw [bureauref13_Brackets.l0, if_neg (by omega)]
    simp [brkL]
  | d + 1, i, r, acc, f + 1, e, hlen, hacc, hf => by
    have hb := bt_gb s i (by omega)
    have hw : wrap64 ((i : Int) + 1) = ((i + 1 : Nat) : Int) := by rw [wrapZ _ (by omega) (by omega)]; omega
    rw [bureauref13_Brackets.l0, if_pos (by omega), if_pos (by omega), hb, hw]
    unfold brkL
    by_cases c1 : gb s i = o
    · rw [if_pos (by omega), if_pos c1, if_pos (by rw [castL_len, List.length_reverse]; omega)]
      have := rbrk_val s hs o c hoc d (i + 1) (i :: r) acc f (by omega) (by simp only [List.length_cons]; omega) (by omega) (by omega)
      rw [← this]
      congr 1
      simp [castL]
    · rw [if_neg (by omega), if_neg c1]
      by_cases c2 : gb s i = c
      · rw [if_pos (by omega), if_pos c2]
        cases r with
        | nil =>
          rw [if_neg (by simp [castL])]
          exact rbrk_val s hs o c hoc d (i + 1) [] acc f (by omega) (by simp) (by omega) (by omega)
        | cons p r =>
          have hl1 : (castL (p :: r).reverse).length = r.length + 1 := by rw [castL_len]; simp
          have hl2 := hlen
          simp only [List.length_cons] at hl2
          have hwl : wrap64 (((castL (p :: r).reverse).length : Int) - 1) = (r.length : Int) := by rw [hl1, wrapZ _ (by omega) (by omega)]; omega
          have hcl : castL (p :: r).reverse = castL r.reverse ++ [(p : Int)] := by simp [castL]
          have hrd : rd (castL (p :: r).reverse) (r.length : Int) = (p : Int) := by
            unfold rd
            rw [Int.toNat_natCast, hcl, List.getD_eq_getElem?_getD, List.getElem?_append_right (by rw [castL_len, List.length_reverse]; omega), castL_len, List.length_reverse, Nat.sub_self]
            rfl
          have htk : (castL (p :: r).reverse).take r.length = castL r.reverse := by
            rw [hcl, List.take_append_of_le_length (by rw [castL_len, List.length_reverse]; omega), List.take_of_length_le (by rw [castL_len, List.length_reverse]; omega)]
          have ih := rbrk_val s hs o c hoc d (i + 1) r (acc ++ [mk41 (p, i)]) f (by omega) (by omega) (by simp; omega) (by omega)
          rw [hwl, hrd, Int.toNat_natCast, htk, hl1, if_pos (by omega), if_pos (by omega), if_pos (by omega), if_pos (by omega), if_pos (by omega)]
          refine Eq.trans ih ?_
          simp
      · rw [if_neg (by omega), if_neg c2]
        exact rbrk_val s hs o c hoc d (i + 1) r acc f (by omega) (by omega) (by omega) (by omega)
/-- The best pair about a place, one by one. -/
def abt (a : Nat) : Option (Nat × Nat) → List (Nat × Nat) → Option (Nat × Nat)
  | b, [] => b
  | none, x :: l => if x.1 ≤ a ∧ a ≤ x.2 then abt a (some x) l else abt a none l
  | some b, x :: l => if x.1 ≤ a ∧ a ≤ x.2 ∧ b.1 < x.1 then abt a (some x) l else abt a (some b) l
def abtZ : Option (Nat × Nat) → Int × Int × Int × Bool
  | none => (0, 0, 0, false)
  | some x => ((x.1 : Int), (x.2 : Int), 0, true)
theorem rd41 (xs : List S41) (i : Nat) (h : i < xs.length) : rd_T41 xs (i : Int) = xs[i] := by
  simp only [rd_T41, Int.toNat_natCast, List.getD_eq_getElem?_getD, List.getElem?_eq_getElem h, Option.getD_some]
theorem about_val (a : Nat) (L : List (Nat × Nat)) (hL : L.length < 1000000) : ∀ (d i f : Nat) (b : Option (Nat × Nat)), i + d = L.length → d + 1 ≤ f →
    bureauref13_about.l0 f (L.map mk41) (a : Int) (abtZ b).2.2.2 (i : Int) (abtZ b).1 (abtZ b).2.1 (abtZ b).2.2.1 = some (abtZ (abt a b (L.drop i)))
  | _, _, 0, _, _, hf => by omega
  | 0, i, f + 1, b, e, _ => by
    have hd : L.drop i = [] := List.drop_eq_nil_of_le (by omega)
    rw [bureauref13_about.l0, if_neg (by rw [List.length_map]; omega), hd]
    cases b <;> rfl
  | d + 1, i, f + 1, b, e, hf => by
    have hi : i < L.length := by omega
    have hw : wrap64 ((i : Int) + 1) = ((i + 1 : Nat) : Int) := by rw [wrapZ _ (by omega) (by omega)]; omega
    have hr : rd_T41 (L.map mk41) (i : Int) = mk41 L[i] := by rw [rd41 _ i (by rw [List.length_map]; exact hi), List.getElem_map]
    rw [bureauref13_about.l0, if_pos (by rw [List.length_map]; omega), if_pos (by omega), hr, hw, List.drop_eq_getElem_cons hi]
    have f0 : (mk41 L[i]).f0 = ((L[i]).1 : Int) := rfl
    have f1 : (mk41 L[i]).f1 = ((L[i]).2 : Int) := rfl
    rw [f0, f1]
    have ih := fun b => about_val a L hL d (i + 1) f b (by omega) (by omega)
    cases b with
    | none =>
      unfold abt
      by_cases c1 : (L[i]).1 ≤ a
      · rw [if_pos (by omega)]
        by_cases c2 : a ≤ (L[i]).2
        · rw [if_pos (by omega)]
          show (if false = true then _ else _) = _
          rw [if_neg (by simp), if_pos ⟨c1, c2⟩]
          exact ih (some L[i])
        · rw [if_neg (by omega), if_neg (fun h => c2 h.2)]
          exact ih none
      · rw [if_neg (by omega), if_neg (fun h => c1 h.1)]
        exact ih none
    | some b =>
      unfold abt
      by_cases c1 : (L[i]).1 ≤ a
      · rw [if_pos (by omega)]
        by_cases c2 : a ≤ (L[i]).2
        · rw [if_pos (by omega)]
          show (if true = true then _ else _) = _
          rw [if_pos rfl]
          by_cases c3 : b.1 < (L[i]).1
          · rw [if_pos (show ((L[i]).1 : Int) > (abtZ (some b)).1 by show ((L[i]).1 : Int) > (b.1 : Int); omega), if_pos ⟨c1, c2, c3⟩]
            exact ih (some L[i])
          · rw [if_neg (show ¬ ((L[i]).1 : Int) > (abtZ (some b)).1 by show ¬ ((L[i]).1 : Int) > (b.1 : Int); omega), if_neg (fun h => c3 h.2.2)]
            exact ih (some b)
        · rw [if_neg (by omega), if_neg (fun h => c2 h.2.1)]
          exact ih (some b)
      · rw [if_neg (by omega), if_neg (fun h => c1 h.1)]
        exact ih (some b)
theorem brkL_len (g : Nat → Nat) (o c : Nat) : ∀ (d i : Nat) (r : List Nat), (brkL g o c d i r).length ≤ d
  | 0, _, _ => by simp [brkL]
  | d + 1, i, r => by
    unfold brkL
    split
    · have := brkL_len g o c d (i + 1) (i :: r); omega
    · split
      · cases r with
        | nil => have := brkL_len g o c d (i + 1) []; simp only; omega
        | cons p r => have := brkL_len g o c d (i + 1) r; simp only [List.length_cons]; omega
      · have := brkL_len g o c d (i + 1) r; omega
/-- Behind the pair that is told there is none that opens behind it, and is about the place. -/
theorem abt_after (g : Nat → Nat) (o c a : Nat) (b : Nat × Nat) : ∀ (d i : Nat) (r : List Nat), a < i → (∀ x ∈ r, x < b.1 ∨ a < x) → abt a (some b) (brkL g o c d i r) = some b
  | 0, _, _, _, _ => rfl
  | d + 1, i, r, hi, hr => by
    unfold brkL
    split
    · exact abt_after g o c a b d (i + 1) (i :: r) (by omega) (fun x hx => by
        rcases List.mem_cons.1 hx with rfl | h
        · exact .inr hi
        · exact hr x h)
    · split
      · cases r with
        | nil => exact abt_after g o c a b d (i + 1) [] (by omega) (fun x hx => by simp at hx)
        | cons p r =>
          simp only
          unfold abt
          have hp := hr p (by simp)
          rw [if_neg (by omega)]
          exact abt_after g o c a b d (i + 1) r (by omega) (fun x hx => hr x (by simp [hx]))
      · exact abt_after g o c a b d (i + 1) r (by omega) hr
theorem abt_find (g : Nat → Nat) (o c a : Nat) : ∀ (d i : Nat) (r : List Nat), (r.Pairwise (· > ·)) → (∀ x ∈ r, x < i) → abt a none (brkL g o c d i r) = (brkL g o c d i r).find? (hitB a)
  | 0, _, _, _, _ => rfl
  | d + 1, i, r, hp, hr => by
    unfold brkL
    split
    · exact abt_find g o c a d (i + 1) (i :: r) (List.pairwise_cons.2 ⟨fun x hx => hr x hx, hp⟩) (fun x hx => by
        rcases List.mem_cons.1 hx with rfl | h
        · omega
        · have := hr x h; omega)
    · split
      · cases r with
        | nil => exact abt_find g o c a d (i + 1) [] List.Pairwise.nil (fun x hx => by simp at hx)
        | cons p r =>
          obtain ⟨h1, h2⟩ := List.pairwise_cons.1 hp
          simp only [List.find?]
          unfold abt
          by_cases q : p ≤ a ∧ a ≤ i
          · rw [if_pos q, show hitB a (p, i) = true by simp [hitB, q.1, q.2]]
            exact abt_after g o c a (p, i) d (i + 1) r (by omega) (fun x hx => .inl (h1 x hx))
          · rw [if_neg q, show hitB a (p, i) = false by
              unfold hitB
              by_cases q1 : p ≤ a
              · have : ¬ a ≤ i := fun h => q ⟨q1, h⟩
                simp [this]
              · simp [q1]]
            exact abt_find g o c a d (i + 1) r h2 (fun x hx => by have := hr x (by simp [hx]); omega)
      · exact abt_find g o c a d (i + 1) r hp (fun x hx => by have := hr x hx; omega)
/-! ### a byte between two places -/
theorem list_gb (s : ByteArray) (i : Nat) (h : i < s.size) : ∃ b : UInt8, s.data.toList[i]? = some b ∧ b.toNat = gb s i := by
  have hl : i < s.data.toList.length := by rw [← size_list]; exact h
  refine ⟨s.data.toList[i], List.getElem?_eq_getElem hl, ?_⟩
  exact (gb_list s i _ (List.getElem?_eq_getElem hl)).symm
theorem idx_eq (s : ByteArray) (p e q : Nat) (hp : p ≤ e) (he : e ≤ s.size) (hq : q < 256) :
    (strings_IndexByte.f (s.extract p e) (q : Int) = some (-1) ∧ ∀ t, p ≤ t → t < e → gb s t ≠ q) ∨
    ∃ o : Nat, strings_IndexByte.f (s.extract p e) (q : Int) = some ((o : Int) - (p : Int)) ∧ p ≤ o ∧ o < e ∧ gb s o = q ∧ ∀ t, p ≤ t → t < o → gb s t ≠ q := by
  have hsz := size_sub s p e he hp
  have hqb : ((q : Int).toNat.toUInt8).toNat = q := by
    rw [Int.toNat_natCast]
    show q % 256 = q
    omega
  have at' : ∀ t, t < e - p → ∃ b : UInt8, (s.extract p e).data.toList[t]? = some b ∧ b.toNat = gb s (p + t) := fun t ht => by
    obtain ⟨b, h1, h2⟩ := list_gb (s.extract p e) t (by omega)
    exact ⟨b, h1, by rw [h2, gb_sub s p e t he hp ht]⟩
  have eqb : ∀ b : UInt8, b.toNat = q → b = (q : Int).toNat.toUInt8 := fun b hb => UInt8.toNat_inj.1 (by rw [hqb, hb])
  unfold strings_IndexByte.f
  have hge := Lib.indexByte_ge (s.extract p e).data.toList (q : Int).toNat.toUInt8
  by_cases hr : Lib.indexByte (s.extract p e).data.toList (q : Int).toNat.toUInt8 = -1
  · left
    refine ⟨by rw [hr], fun t h1 h2 hg => ?_⟩
    obtain ⟨b, hb, hbq⟩ := at' (t - p) (by omega)
    rw [show p + (t - p) = t by omega, hg] at hbq
    exact Lib.indexByte_none hr (t - p) (by rw [hb, eqb b hbq])
  · right
    obtain ⟨j, hj⟩ : ∃ j : Nat, Lib.indexByte (s.extract p e).data.toList (q : Int).toNat.toUInt8 = (j : Int) := ⟨(Lib.indexByte (s.extract p e).data.toList (q : Int).toNat.toUInt8).toNat, by omega⟩
    obtain ⟨h1, h2⟩ := Lib.indexByte_some hj
    have hlt : j < e - p := by
      have := (List.getElem?_eq_some_iff.1 h1).1
      rw [← size_list] at this
      omega
    refine ⟨p + j, by rw [hj]; congr 1; omega, by omega, by omega, ?_, fun t g1 g2 hg => ?_⟩
    · obtain ⟨b, hb, hbq⟩ := at' j hlt
      rw [h1] at hb
      rw [← hbq, ← Option.some.inj hb, hqb]
    · obtain ⟨b, hb, hbq⟩ := at' (t - p) (by omega)
      rw [show p + (t - p) = t by omega, hg] at hbq
      exact h2 (t - p) (by omega) (by rw [hb, eqb b hbq])
theorem line_nonl (s : ByteArray) (n t : Nat) (hn : n < nE s) (h1 : bF s n ≤ t) (h2 : t < bT s n) : gb s t ≠ 10 := by
  intro hg
  have hle := bT_le s n hn
  obtain ⟨b, hb, hbq⟩ := list_gb s t (by omega)
  have hb10 : b = 10 := UInt8.toNat_inj.1 (by rw [hbq, hg]; rfl)
  have hd : (s.data.toList.drop (bF s n))[t - bF s n]? = some 10 := by rw [List.getElem?_drop, show bF s n + (t - bF s n) = t by omega, hb, hb10]
  rcases bT_index s n hn with ⟨h3, _, _⟩ | ⟨i, h3, _, h5, _, _⟩
  · exact Lib.indexByte_none h3 _ hd
  · exact (Lib.indexByte_some h3).2 (t - bF s n) (by omega) hd
/-! ### all pairs of quotes, and the one that is told -/
def quoL (g : Nat → Nat) (q : Nat) : Nat → Nat → Option Nat → List (Nat × Nat)
  | 0, _, _ => []
  | d + 1, i, op => if g i = q then (match op with | some o => (o, i) :: quoL g q d (i + 1) none | none => quoL g q d (i + 1) (some i)) else quoL g q d (i + 1) op
theorem quoL_skip (g : Nat → Nat) (q d : Nat) (op : Option Nat) : ∀ (m i : Nat), (∀ t, i ≤ t → t < i + m → g t ≠ q) → quoL g q (m + d) i op = quoL g q d (i + m) op
  | 0, i, _ => by rw [Nat.zero_add]; rfl
  | m + 1, i, h => by
    rw [show m + 1 + d = (m + d) + 1 by omega]
    unfold quoL
    rw [if_neg (h i (Nat.le_refl _) (by omega)), quoL_skip g q d op m (i + 1) (fun t h1 h2 => h t (by omega) (by omega)), show i + 1 + m = i + (m + 1) by omega]
    cases d <;> rfl
def hitQ (a : Nat) (x : Nat × Nat) : Bool := decide (a ≤ x.2)
set_option maxHeartbeats 2000000 in
theorem quo_val (s : ByteArray) (hs : s.size < 1000000) (a q E : Nat) (hq : q < 256) (hE : E ≤ s.size) : ∀ (d p f : Nat), p + d = E → d + 1 ≤ f →
    object_quotes.l0 f s (a : Int) (q : Int) (p : Int) (E : Int) = some (ansZ ((quoL (gb s) q d p none).find? (hitQ a))) := by
  intro d
  induction d using Nat.strongRecOn with
  | ind d ih =>
    intro p f e hf
    obtain ⟨f, rfl⟩ : ∃ g, f = g + 1 := ⟨f - 1, by omega⟩
    rcases idx_eq s p E q (by omega) hE hq with ⟨h1, hn⟩ | ⟨o, h1, hpo, hoE, hg, hno⟩
    · have e0 : quoL (gb s) q d p none = [] := by
        have := quoL_skip (gb s) q 0 none d p (fun t a1 a2 => hn t a1 (by omega))
        rw [Nat.add_zero] at this
        rw [this]; rfl
      rw [object_quotes.l0, if_pos (by omega), if_pos (by omega), if_pos (by omega), Int.toNat_natCast, Int.toNat_natCast, h1, Option.bind_some, if_pos (by omega), e0]
      rfl
    · have w1 : Aside0 (wrap64 ((p : Int) + ((o : Int) - (p : Int))) = (o : Int)) := ⟨by rw [wrapZ _ (by omega) (by omega)]; omega⟩
      have w2 : Aside0 (wrap64 ((o : Int) + 1) = ((o + 1 : Nat) : Int)) := ⟨by rw [wrapZ _ (by omega) (by omega)]; omega⟩
      have e1 : quoL (gb s) q d p none = quoL (gb s) q (E - (o + 1)) (o + 1) (some o) := by
        have := quoL_skip (gb s) q (E - o) none (o - p) p (fun t a1 a2 => hno t a1 (by omega))
        rw [show o - p + (E - o) = d by omega, show p + (o - p) = o by omega] at this
        rw [this, show E - o = (E - (o + 1)) + 1 by omega]
        conv => lhs; unfold quoL
        rw [if_pos hg]
      rcases idx_eq s (o + 1) E q (by omega) hE hq with ⟨h2, hn2⟩ | ⟨c, h2, hoc, hcE, hg2, hno2⟩
      · have e2 : quoL (gb s) q (E - (o + 1)) (o + 1) (some o) = [] := by
          have := quoL_skip (gb s) q 0 (some o) (E - (o + 1)) (o + 1) (fun t a1 a2 => hn2 t a1 (by omega))
          rw [Nat.add_zero] at this
          rw [this]; rfl
        rw [object_quotes.l0, if_pos (by omega), if_pos (by omega), if_pos (by omega), Int.toNat_natCast, Int.toNat_natCast, h1, Option.bind_some, if_neg (by omega)]
        simp only [w1.out, w2.out]
        rw [if_pos (by omega), if_pos (by omega), Int.toNat_natCast, h2, Option.bind_some, if_pos (by omega), e1, e2]
        rfl
      · have w3 : Aside0 (wrap64 (((o + 1 : Nat) : Int) + ((c : Int) - ((o + 1 : Nat) : Int))) = (c : Int)) := ⟨by rw [wrapZ _ (by omega) (by omega)]; omega⟩
        have w4 : Aside0 (wrap64 ((c : Int) + 1) = ((c + 1 : Nat) : Int)) := ⟨by rw [wrapZ _ (by omega) (by omega)]; omega⟩
        have e2 : quoL (gb s) q (E - (o + 1)) (o + 1) (some o) = (o, c) :: quoL (gb s) q (E - (c + 1)) (c + 1) none := by
          have := quoL_skip (gb s) q (E - c) (some o) (c - (o + 1)) (o + 1) (fun t a1 a2 => hno2 t a1 (by omega))
          rw [show c - (o + 1) + (E - c) = E - (o + 1) by omega, show o + 1 + (c - (o + 1)) = c by omega] at this
          rw [this, show E - c = (E - (c + 1)) + 1 by omega]
          conv => lhs; unfold quoL
          rw [if_pos hg2]
        rw [object_quotes.l0, if_pos (by omega), if_pos (by omega), if_pos (by omega), Int.toNat_natCast, Int.toNat_natCast, h1, Option.bind_some, if_neg (by omega)]
        simp only [w1.out, w2.out]
        rw [if_pos (by omega), if_pos (by omega), Int.toNat_natCast, h2, Option.bind_some, if_neg (by omega)]
        simp only [w3.out]
        rw [e1, e2]
        simp only [List.find?]
        by_cases hit : a ≤ c
        · rw [if_pos (by omega), show hitQ a (o, c) = true by simp [hitQ, hit]]
          rfl
        · rw [if_neg (by omega), show hitQ a (o, c) = false by simp [hitQ, hit]]
          simp only [w4.out]
          exact ih (E - (c + 1)) (by omega) (c + 1) f (by omega) (by omega)
def opZ2 : Option Nat → Int
  | none => -1
  | some o => (o : Int)
theorem rquo_val (s : ByteArray) (hs : s.size < 1000000) (q E : Nat) (hE : E ≤ s.size) : ∀ (d i : Nat) (op : Option Nat) (acc : List S41) (f : Nat), i + d = E → acc.length ≤ i → d + 1 ≤ f →
    bureauref13_quotes.l0 f s (q : Int) (E : Int) acc (opZ2 op) (i : Int) = some (acc ++ (quoL (gb s) q d i op).map mk41)
  | _, _, _, _, 0, _, _, hf => by omega
  | 0, i, op, acc, f + 1, e, _, _ => by
    rw [bureauref13_quotes.l0, if_neg (by omega)]
    simp [quoL]
  | d + 1, i, op, acc, f + 1, e, hacc, hf => by
    have hb := bt_gb s i (by omega)
    have hw : wrap64 ((i : Int) + 1) = ((i + 1 : Nat) : Int) := by rw [wrapZ _ (by omega) (by omega)]; omega
    rw [bureauref13_quotes.l0, if_pos (by omega), if_pos (by omega), if_pos (by omega), hb, hw]
    unfold quoL
    by_cases c1 : gb s i = q
    · rw [if_pos (by omega), if_pos c1]
      cases op with
      | none =>
        rw [if_neg (by show ¬ (-1 : Int) ≥ 0; omega)]
        exact rquo_val s hs q E hE d (i + 1) (some i) acc f (by omega) (by omega) (by omega)
      | some o =>
        rw [if_pos (by show (o : Int) ≥ 0; omega), if_pos (by omega)]
        have ih := rquo_val s hs q E hE d (i + 1) none (acc ++ [mk41 (o, i)]) f (by omega) (by simp; omega) (by omega)
        refine Eq.trans ih ?_
        simp
    · rw [if_neg (by omega), if_neg c1]
      exact rquo_val s hs q E hE d (i + 1) op acc f (by omega) (by omega) (by omega)
theorem quoL_len (g : Nat → Nat) (q : Nat) : ∀ (d i : Nat) (op : Option Nat), (quoL g q d i op).length ≤ d
  | 0, _, _ => by simp [quoL]
  | d + 1, i, op => by
    unfold quoL
    split
    · cases op with
      | none => have := quoL_len g q d (i + 1) (some i); simp only; omega
      | some o => have := quoL_len g q d (i + 1) none; simp only [List.length_cons]; omega
    · have := quoL_len g q d (i + 1) op; omega
theorem quoL_from (g : Nat → Nat) (q : Nat) : ∀ (d i : Nat) (op : Option Nat), ∀ x ∈ quoL g q d i op, i ≤ x.1 ∨ op = some x.1
  | 0, _, _, x, h => by simp [quoL] at h
  | d + 1, i, op, x, h => by
    unfold quoL at h
    split at h
    · cases op with
      | none =>
        rcases quoL_from g q d (i + 1) (some i) x h with h1 | h1
        · left; omega
        · left; have := Option.some.inj h1; omega
      | some o =>
        rcases List.mem_cons.1 h with rfl | h
        · exact .inr rfl
        · rcases quoL_from g q d (i + 1) none x h with h1 | h1
          · left; omega
          · cases h1
    · rcases quoL_from g q d (i + 1) op x h with h1 | h1
      · left; omega
      · exact .inr h1
theorem abt_far (a : Nat) : ∀ (L : List (Nat × Nat)) (b : Option (Nat × Nat)), (∀ x ∈ L, a < x.1) → abt a b L = b
  | [], b, _ => by cases b <;> rfl
  | x :: L, b, h => by
    have hx := h x (by simp)
    cases b with
    | none => unfold abt; rw [if_neg (by omega)]; exact abt_far a L none (fun y hy => h y (by simp [hy]))
    | some b => unfold abt; rw [if_neg (by omega)]; exact abt_far a L (some b) (fun y hy => h y (by simp [hy]))
def hitA (a : Nat) (x : Nat × Nat) : Bool := decide (a < x.1)
theorem quoL_unf (g : Nat → Nat) (q d i : Nat) (op : Option Nat) : quoL g q (d + 1) i op = if g i = q then (match op with | some o => (o, i) :: quoL g q d (i + 1) none | none => quoL g q d (i + 1) (some i)) else quoL g q d (i + 1) op := rfl
theorem quo_find (g : Nat → Nat) (q a : Nat) : ∀ (d i : Nat) (op : Option Nat), (∀ o, op = some o → o < i) →
    (match abt a none (quoL g q d i op) with | some x => some x | none => (quoL g q d i op).find? (hitA a)) = (quoL g q d i op).find? (hitQ a)
  | 0, _, _, _ => rfl
  | d + 1, i, op, h => by
    rw [quoL_unf]
    by_cases c : g i = q
    · rw [if_pos c]
      cases op with
      | none => exact quo_find g q a d (i + 1) (some i) (fun o ho => by have := Option.some.inj ho; omega)
      | some o =>
        have ho := h o rfl
        have hf : ∀ x ∈ quoL g q d (i + 1) none, i + 1 ≤ x.1 := fun x hx => by
          rcases quoL_from g q d (i + 1) none x hx with h1 | h1
          · exact h1
          · cases h1
        simp only [List.find?]
        by_cases c1 : a ≤ i
        · rw [show hitQ a (o, i) = true by simp [hitQ, c1]]
          by_cases c2 : o ≤ a
          · have e : abt a none ((o, i) :: quoL g q d (i + 1) none) = some (o, i) := by
              unfold abt
              rw [if_pos ⟨c2, c1⟩]
              exact abt_far a _ _ (fun x hx => by have := hf x hx; omega)
            rw [e]
          · have e : abt a none ((o, i) :: quoL g q d (i + 1) none) = none := by
              unfold abt
              rw [if_neg (fun hh => c2 hh.1)]
              exact abt_far a _ _ (fun x hx => by have := hf x hx; omega)
            rw [e, show hitA a (o, i) = true by simp [hitA]; omega]
        · have e : abt a none ((o, i) :: quoL g q d (i + 1) none) = abt a none (quoL g q d (i + 1) none) := by
            conv => lhs; unfold abt
            rw [if_neg (fun hh => c1 hh.2)]
          rw [show hitQ a (o, i) = false by simp [hitQ, c1], e, show hitA a (o, i) = false by simp [hitA]; omega]
          exact quo_find g q a d (i + 1) none (fun o ho => by cases ho)
    · rw [if_neg c]
      exact quo_find g q a d (i + 1) op (fun o ho => by have := h o ho; omega)
theorem rclass_eq (k : Nat) (r : Int) : bureauref02_Class.f (k + 3) r = some (classZ r) := by
  have j1 (k : Nat) (x : Bool) : bureauref02_Class.j1 (k + 1) r x = some (if x = true then 1 else if 128 ≤ r ∧ r ≤ 1114111 ∧ r ≠ 65533 then 1 else 2) := by
    rw [bureauref02_Class.j1]
    by_cases hx : x = true
    · rw [if_pos hx, if_pos hx]
    rw [if_neg hx, if_neg hx]
    by_cases h1 : r ≥ 128
    · rw [if_pos h1]
      by_cases h2 : r ≤ 1114111
      · rw [if_pos h2]
        by_cases h3 : r = 65533
        · rw [if_pos h3, if_neg (by omega)]
        · rw [if_neg h3, if_pos ⟨h1, h2, h3⟩]
      · rw [if_neg h2, if_neg (by omega)]
    · rw [if_neg h1, if_neg (by omega)]
  have j95 (k : Nat) : bureauref02_Class.j1 (k + 1) r (r == 95) = some (if r = 95 then 1 else if 128 ≤ r ∧ r ≤ 1114111 ∧ r ≠ 65533 then 1 else 2) := by
    rw [j1]
    by_cases h : r = 95
    · rw [if_pos (by simp [h]), if_pos h]
    · rw [if_neg (by simp [h]), if_neg h]
  have jt (k : Nat) : bureauref02_Class.j1 (k + 1) r true = some 1 := by rw [j1, if_pos rfl]
  have j0 (k : Nat) (x : Bool) : bureauref02_Class.j0 (k + 2) r x = some (if x = true then 0 else if r = 10 then 3 else if (48 ≤ r ∧ r ≤ 57) ∨ (97 ≤ r ∧ r ≤ 122) ∨ (65 ≤ r ∧ r ≤ 90) ∨ r = 95 then 1 else if 128 ≤ r ∧ r ≤ 1114111 ∧ r ≠ 65533 then 1 else 2) := by
    rw [bureauref02_Class.j0]
    simp only [jt, j95]
    by_cases hx : x = true
    · rw [if_pos hx, if_pos hx]
    rw [if_neg hx, if_neg hx]
    by_cases h10 : r = 10
    · rw [if_pos h10, if_pos h10]
    rw [if_neg h10, if_neg h10]
    by_cases hm : (48 ≤ r ∧ r ≤ 57) ∨ (97 ≤ r ∧ r ≤ 122) ∨ (65 ≤ r ∧ r ≤ 90) ∨ r = 95
    · rw [if_pos hm]
      repeat' split
      all_goals first | rfl | (exfalso; omega)
    · rw [if_neg hm, if_neg (c := r = 95) (fun h => hm (Or.inr (Or.inr (Or.inr h))))]
      repeat' split
      all_goals first | rfl | (exfalso; omega)
  unfold bureauref02_Class.f classZ
  by_cases h32 : r = 32
  · rw [if_pos h32, j0 (k + 1), if_pos rfl, if_pos (Or.inl h32)]
  · rw [if_neg h32, j0 (k + 1)]
    by_cases h9 : r = 9
    · rw [if_pos (by simp [h9]), if_pos (Or.inr h9)]
    · rw [if_neg (by simp [h9]), if_neg (c := r = 32 ∨ _) (by rintro (h | h); exact h32 h; exact h9 h)]
/-! ### rows -/
/-- The class of a sign, by its number; -1: there is none. -/
def cl (s : ByteArray) (n j : Nat) : Int := if j < n then classZ (((Utf8.decode s (st s j)).1 : Nat) : Int) else -1
theorem classZ_nonneg (r : Int) : 0 ≤ classZ r := by unfold classZ; repeat' split <;> try omega
theorem cl_in {s : ByteArray} {n j : Nat} (h : j < n) : 0 ≤ cl s n j := by unfold cl; rw [if_pos h]; exact classZ_nonneg _
theorem cl_out {s : ByteArray} {n j : Nat} (h : ¬ j < n) : cl s n j = -1 := by unfold cl; rw [if_neg h]
theorem At.st {s : ByteArray} {n j : Nat} (h : Signs s n) (hj : j ≤ n) : At s n ((Ext.st s j : Nat) : Int) j := by
  by_cases c : j < n
  · exact At.of h c (Int.le_refl _) (Int.ofNat_lt.2 (h.step c))
  · obtain rfl : j = n := by omega
    refine ⟨Nat.le_refl _, fun h0 => by omega, fun _ h1 => ?_, fun _ => rfl⟩
    rw [h.last] at h1
    omega
theorem st_lt_iff {s : ByteArray} {n a b : Nat} (h : Signs s n) (ha : a ≤ n) (hb : b ≤ n) : Ext.st s a < Ext.st s b ↔ a < b := by
  constructor
  · intro hl
    by_cases c : a < b
    · exact c
    · have := st_mono s (show b ≤ a by omega)
      omega
  · intro hl
    have h1 := h.step (show a < n by omega)
    have h2 := st_mono s (show a + 1 ≤ b by omega)
    omega
theorem st_inj {s : ByteArray} {n a b : Nat} (h : Signs s n) (ha : a ≤ n) (hb : b ≤ n) (e : Ext.st s a = Ext.st s b) : a = b := by
  have h1 := st_lt_iff h ha hb
  have h2 := st_lt_iff h hb ha
  omega
theorem class_at {s : ByteArray} {n j : Nat} (h : Signs s n) (hs : s.size < 1000000) (hj : j ≤ n) (k : Nat) : object_class.f (k + 20) s ((Ext.st s j : Nat) : Int) = some (cl s n j) := by
  have hsz := h.le_size hj
  unfold object_class.f
  rw [if_neg (by omega), show k + 20 = (k + 9 + 10) + 1 by omega, object_class.j0]
  by_cases c : j < n
  · have hl := h.lt j c
    rw [decide_eq_false (by omega), if_neg (by simp), at_eq h hs (At.st h hj) (k + 9), Option.bind_some, if_pos c, show k + 9 + 10 = (k + 15) + 4 by omega, class_eq, Option.bind_some]
    unfold cl
    rw [if_pos c]
  · have hl := h.last
    obtain rfl : j = n := by omega
    rw [decide_eq_true (by omega), if_pos rfl, cl_out c]
/-- The first sign of a row, from one of its signs down. -/
def dn (s : ByteArray) (n : Nat) (c : Int) : Nat → Nat
  | 0 => 0
  | j + 1 => if cl s n j = c then dn s n c j else j + 1
/-- The first sign behind a row, from one of its signs up. -/
def up (s : ByteArray) (n : Nat) (c : Int) : Nat → Nat → Nat
  | 0, j => j
  | d + 1, j => if cl s n j = c then up s n c d (j + 1) else j
theorem dn_spec (s : ByteArray) (n : Nat) (c : Int) : ∀ j, dn s n c j ≤ j ∧ (∀ i, dn s n c j ≤ i → i < j → cl s n i = c) ∧ (dn s n c j = 0 ∨ cl s n (dn s n c j - 1) ≠ c)
  | 0 => ⟨Nat.le_refl _, fun i _ h => by omega, .inl rfl⟩
  | j + 1 => by
    obtain ⟨h1, h2, h3⟩ := dn_spec s n c j
    unfold dn
    by_cases e : cl s n j = c
    · rw [if_pos e]
      refine ⟨by omega, fun i a b => ?_, h3⟩
      by_cases q : i = j
      · rw [q, e]
      · exact h2 i a (by omega)
    · rw [if_neg e]
      exact ⟨Nat.le_refl _, fun i _ _ => by omega, .inr (by simpa using e)⟩
theorem up_spec (s : ByteArray) (n : Nat) (c : Int) (hc : 0 ≤ c) : ∀ d j, j + d = n → j ≤ up s n c d j ∧ up s n c d j ≤ n ∧ (∀ i, j ≤ i → i < up s n c d j → cl s n i = c) ∧ cl s n (up s n c d j) ≠ c
  | 0, j, e => ⟨Nat.le_refl _, by unfold up; omega, fun i _ h => by unfold up at h; omega, by unfold up; rw [cl_out (by omega)]; omega⟩
  | d + 1, j, e => by
    unfold up
    by_cases q : cl s n j = c
    · rw [if_pos q]
      obtain ⟨h1, h2, h3, h4⟩ := up_spec s n c hc d (j + 1) (by omega)
      refine ⟨by omega, h2, fun i a b => ?_, h4⟩
      by_cases qi : i = j
      · rw [qi, q]
      · exact h3 i (by omega) b
    · rw [if_neg q]
      exact ⟨Nat.le_refl _, by omega, fun i _ _ => by omega, q⟩
theorem row_up {s : ByteArray} {n : Nat} (h : Signs s n) (hs : s.size < 1000000) (c : Int) (hc : 0 ≤ c) (x : Int) : ∀ (d j f : Nat), j + d = n → d + 30 ≤ f →
    object_row.l1 f s c x ((Ext.st s j : Nat) : Int) = some (x, ((Ext.st s (up s n c d j) : Nat) : Int))
  | d, j, 0, e, hf => by omega
  | 0, j, f + 1, e, hf => by
    have hcl := class_at h hs (show j ≤ n by omega) (f - 20)
    rw [show f - 20 + 20 = f by omega] at hcl
    rw [object_row.l1, hcl, Option.bind_some, cl_out (by omega), if_neg (by omega)]
    rfl
  | d + 1, j, f + 1, e, hf => by
    have hcl := class_at h hs (show j ≤ n by omega) (f - 20)
    rw [show f - 20 + 20 = f by omega] at hcl
    rw [object_row.l1, hcl, Option.bind_some]
    unfold up
    by_cases q : cl s n j = c
    · have hnx := next_eq h hs (At.st h (show j ≤ n by omega)) (f - 10)
      rw [show f - 10 + 10 = f by omega, if_pos (by omega)] at hnx
      rw [if_pos q, if_pos q, hnx, Option.bind_some]
      exact row_up h hs c hc x d (j + 1) f (by omega) (by omega)
    · rw [if_neg q, if_neg q]
theorem row_dn {s : ByteArray} {n : Nat} (h : Signs s n) (hs : s.size < 1000000) (c : Int) (hc : 0 ≤ c) (m : Nat) (hm : m ≤ n) : ∀ (j f : Nat), j ≤ n → j + (n - m) + 33 ≤ f →
    object_row.l0 f s c ((Ext.st s j : Nat) : Int) ((Ext.st s m : Nat) : Int) = some (((Ext.st s (dn s n c j) : Nat) : Int), ((Ext.st s (up s n c (n - m) m) : Nat) : Int))
  | j, 0, hj, hf => by omega
  | j, 1, hj, hf => by omega
  | 0, f + 2, hj, hf => by
    rw [object_row.l0, if_neg (by simp [Ext.st]), object_row.j1]
    exact row_up h hs c hc _ (n - m) m f (by omega) (by omega)
  | j + 1, f + 2, hj, hf => by
    have hpos : 0 < Ext.st s (j + 1) := by have := (st_lt_iff h (show 0 ≤ n by omega) hj).2 (by omega); omega
    have hpv := prev_eq h hs (At.st h hj) (f + 1 - 10)
    rw [show f + 1 - 10 + 10 = f + 1 by omega, if_neg (by omega), show j + 1 - 1 = j by omega] at hpv
    have hcl := class_at h hs (show j ≤ n by omega) (f + 1 - 20)
    rw [show f + 1 - 20 + 20 = f + 1 by omega] at hcl
    rw [object_row.l0, if_pos (by omega), hpv, Option.bind_some, hcl, Option.bind_some]
    by_cases q : cl s n j = c
    · rw [if_pos q, Option.bind_some]
      rw [show dn s n c (j + 1) = dn s n c j by rw [dn, if_pos q]]
      exact row_dn h hs c hc m hm j (f + 1) (by omega) (by omega)
    · rw [if_neg q, object_row.j1, show dn s n c (j + 1) = j + 1 by rw [dn, if_neg q]]
      exact row_up h hs c hc _ (n - m) m f (by omega) (by omega)
def rowF (s : ByteArray) (n j : Nat) : Nat := dn s n (cl s n j) j
def rowT (s : ByteArray) (n j : Nat) : Nat := up s n (cl s n j) (n - j) j
theorem row_at {s : ByteArray} {n j : Nat} (h : Signs s n) (hs : s.size < 1000000) (hj : j < n) (f : Nat) (hf : s.size + 40 ≤ f) :
    object_row.f f s ((Ext.st s j : Nat) : Int) = some (((Ext.st s (rowF s n j) : Nat) : Int), ((Ext.st s (rowT s n j) : Nat) : Int)) := by
  have hn := h.le
  have hcl := class_at h hs (show j ≤ n by omega) (f - 20)
  rw [show f - 20 + 20 = f by omega] at hcl
  unfold object_row.f
  rw [hcl, Option.bind_some]
  exact row_dn h hs _ (cl_in hj) j (by omega) j f (by omega) (by omega)
theorem row_spec {s : ByteArray} {n j : Nat} (hj : j < n) : rowF s n j ≤ j ∧ j < rowT s n j ∧ rowT s n j ≤ n ∧ (∀ i, rowF s n j ≤ i → i < rowT s n j → cl s n i = cl s n j) ∧ (rowF s n j = 0 ∨ cl s n (rowF s n j - 1) ≠ cl s n j) ∧ cl s n (rowT s n j) ≠ cl s n j := by
  obtain ⟨a1, a2, a3⟩ := dn_spec s n (cl s n j) j
  obtain ⟨b1, b2, b3, b4⟩ := up_spec s n (cl s n j) (cl_in hj) (n - j) j (by omega)
  have hlt : j < rowT s n j := by
    have : rowT s n j ≠ j := fun e => b4 (by rw [show up s n (cl s n j) (n - j) j = j from e])
    have : j ≤ rowT s n j := b1
    omega
  refine ⟨a1, hlt, b2, fun i x y => ?_, a3, b4⟩
  by_cases q : i < j
  · exact a2 i x q
  · exact b3 i (by omega) y
/-- A word's signs, or those with the blanks beside it. -/
def wordF (s : ByteArray) (n j : Nat) : Nat :=
  if (cl s n j = 0 ∧ (cl s n (rowT s n j) = 1 ∨ cl s n (rowT s n j) = 2)) ∨ (cl s n j ≠ 0 ∧ cl s n (rowT s n j) = 0) then rowF s n j
  else if cl s n j ≠ 0 ∧ 0 < rowF s n j ∧ cl s n (rowF s n j - 1) = 0 then rowF s n (rowF s n j - 1) else rowF s n j
def wordT (s : ByteArray) (n j : Nat) : Nat :=
  if (cl s n j = 0 ∧ (cl s n (rowT s n j) = 1 ∨ cl s n (rowT s n j) = 2)) ∨ (cl s n j ≠ 0 ∧ cl s n (rowT s n j) = 0) then rowT s n (rowT s n j) else rowT s n j
theorem cl_lt {s : ByteArray} {n j : Nat} (h : 0 ≤ cl s n j) : j < n := by
  by_cases c : j < n
  · exact c
  · rw [cl_out c] at h; omega
theorem word_at {s : ByteArray} {n j : Nat} (h : Signs s n) (hs : s.size < 1000000) (hj : j < n) (around : Bool) (f : Nat) (hf : s.size + 60 ≤ f) :
    object_word.f f s ((Ext.st s j : Nat) : Int) around = some (if around = true then (((Ext.st s (wordF s n j) : Nat) : Int), ((Ext.st s (wordT s n j) : Nat) : Int)) else (((Ext.st s (rowF s n j) : Nat) : Int), ((Ext.st s (rowT s n j) : Nat) : Int))) := by
  obtain ⟨r1, r2, r3, r4, r5, r6⟩ := row_spec (s := s) hj
  have C : ∀ (i g : Nat), i ≤ n → 20 ≤ g → object_class.f g s ((Ext.st s i : Nat) : Int) = some (cl s n i) := fun i g hi hg => by
    have := class_at h hs hi (g - 20)
    rwa [show g - 20 + 20 = g by omega] at this
  have P : ∀ (i g : Nat), i ≤ n → 0 < i → 10 ≤ g → glyph_Prev.f g s ((Ext.st s i : Nat) : Int) = some ((Ext.st s (i - 1) : Nat) : Int) := fun i g hi h0 hg => by
    have := prev_eq h hs (At.st h hi) (g - 10)
    rwa [show g - 10 + 10 = g by omega, if_neg (by omega)] at this
  have j2t : ∀ g, s.size + 41 ≤ g → 0 < rowF s n j → object_word.j2 g s ((Ext.st s (rowF s n j) : Nat) : Int) ((Ext.st s (rowT s n j) : Nat) : Int) true = some (((Ext.st s (rowF s n (rowF s n j - 1)) : Nat) : Int), ((Ext.st s (rowT s n j) : Nat) : Int)) := fun g hg h0 => by
    obtain ⟨g', rfl⟩ : ∃ g', g = g' + 1 := ⟨g - 1, by omega⟩
    rw [object_word.j2, if_pos rfl, P _ _ (by omega) h0 (by omega), Option.bind_some, row_at h hs (by omega) g' (by omega), Option.bind_some]
  have j2f : ∀ g, 1 ≤ g → object_word.j2 g s ((Ext.st s (rowF s n j) : Nat) : Int) ((Ext.st s (rowT s n j) : Nat) : Int) false = some (((Ext.st s (rowF s n j) : Nat) : Int), ((Ext.st s (rowT s n j) : Nat) : Int)) := fun g hg => by
    obtain ⟨g', rfl⟩ : ∃ g', g = g' + 1 := ⟨g - 1, by omega⟩
    rw [object_word.j2, if_neg (by simp)]
  have j1t : ∀ g, s.size + 41 ≤ g → rowT s n j < n → object_word.j1 g s ((Ext.st s j : Nat) : Int) ((Ext.st s (rowF s n j) : Nat) : Int) ((Ext.st s (rowT s n j) : Nat) : Int) true = some (((Ext.st s (rowF s n j) : Nat) : Int), ((Ext.st s (rowT s n (rowT s n j)) : Nat) : Int)) := fun g hg h0 => by
    obtain ⟨g', rfl⟩ : ∃ g', g = g' + 1 := ⟨g - 1, by omega⟩
    rw [object_word.j1, if_pos rfl, row_at h hs h0 g' (by omega), Option.bind_some]
  have j1f : ∀ g, s.size + 42 ≤ g → object_word.j1 g s ((Ext.st s j : Nat) : Int) ((Ext.st s (rowF s n j) : Nat) : Int) ((Ext.st s (rowT s n j) : Nat) : Int) false =
      some (((Ext.st s (if cl s n j ≠ 0 ∧ 0 < rowF s n j ∧ cl s n (rowF s n j - 1) = 0 then rowF s n (rowF s n j - 1) else rowF s n j) : Nat) : Int), ((Ext.st s (rowT s n j) : Nat) : Int)) := fun g hg => by
    obtain ⟨g', rfl⟩ : ∃ g', g = g' + 1 := ⟨g - 1, by omega⟩
    rw [object_word.j1, if_neg (by simp), C j g' (by omega) (by omega), Option.bind_some]
    by_cases q : cl s n j = 0
    · rw [if_pos q, if_neg (c := cl s n j ≠ 0 ∧ 0 < rowF s n j ∧ cl s n (rowF s n j - 1) = 0) (fun hh => hh.1 q), j2f g' (by omega)]
    · rw [if_neg q]
      by_cases q2 : 0 < rowF s n j
      · have hpos : 0 < Ext.st s (rowF s n j) := by have := (st_lt_iff h (show 0 ≤ n by omega) (show rowF s n j ≤ n by omega)).2 q2; omega
        rw [if_pos (by omega), P _ _ (by omega) q2 (by omega), Option.bind_some, C _ g' (by omega) (by omega), Option.bind_some]
        by_cases q3 : cl s n (rowF s n j - 1) = 0
        · rw [if_pos (c := _ ∧ _) ⟨q, q2, q3⟩, show (cl s n (rowF s n j - 1) == 0) = true from beq_iff_eq.mpr q3, j2t g' (by omega) q2]
        · rw [if_neg (c := cl s n j ≠ 0 ∧ 0 < rowF s n j ∧ cl s n (rowF s n j - 1) = 0) (fun hh => q3 hh.2.2), show (cl s n (rowF s n j - 1) == 0) = false from beq_eq_false_iff_ne.mpr q3, j2f g' (by omega)]
      · have e0 : rowF s n j = 0 := by omega
        have hz : Ext.st s (rowF s n j) = 0 := by rw [e0]; rfl
        rw [if_neg (by omega), if_neg (c := cl s n j ≠ 0 ∧ 0 < rowF s n j ∧ cl s n (rowF s n j - 1) = 0) (fun hh => q2 hh.2.1), j2f g' (by omega)]
  unfold object_word.f
  rw [row_at h hs hj f (by omega), Option.bind_some]
  cases around
  · rw [if_neg (by simp), if_neg (by simp)]
  · rw [if_pos rfl, if_pos rfl, C _ f r3 (by omega), Option.bind_some, C j f (by omega) (by omega), Option.bind_some]
    obtain ⟨g, rfl⟩ : ∃ g, f = g + 1 := ⟨f - 1, by omega⟩
    have j0t : object_word.j0 (g + 1) s ((Ext.st s j : Nat) : Int) ((Ext.st s (rowF s n j) : Nat) : Int) ((Ext.st s (rowT s n j) : Nat) : Int) (cl s n (rowT s n j)) true = object_word.j1 g s ((Ext.st s j : Nat) : Int) ((Ext.st s (rowF s n j) : Nat) : Int) ((Ext.st s (rowT s n j) : Nat) : Int) true := by
      rw [object_word.j0, if_pos rfl]
    have j0f : object_word.j0 (g + 1) s ((Ext.st s j : Nat) : Int) ((Ext.st s (rowF s n j) : Nat) : Int) ((Ext.st s (rowT s n j) : Nat) : Int) (cl s n (rowT s n j)) false = if cl s n j = 0 then object_word.j1 g s ((Ext.st s j : Nat) : Int) ((Ext.st s (rowF s n j) : Nat) : Int) ((Ext.st s (rowT s n j) : Nat) : Int) false else object_word.j1 g s ((Ext.st s j : Nat) : Int) ((Ext.st s (rowF s n j) : Nat) : Int) ((Ext.st s (rowT s n j) : Nat) : Int) (cl s n (rowT s n j) == 0) := by
      rw [object_word.j0, if_neg (by simp), C j g (by omega) (by omega), Option.bind_some]
    unfold wordF wordT
    by_cases q : cl s n j = 0
    · rw [if_pos q]
      by_cases b1 : cl s n (rowT s n j) = 1
      · rw [if_pos b1, j0t, j1t g (by omega) (cl_lt (s := s) (by omega)), if_pos (c := _ ∨ _) (.inl ⟨q, .inl b1⟩), if_pos (c := _ ∨ _) (.inl ⟨q, .inl b1⟩)]
      · rw [if_neg b1]
        by_cases b2 : cl s n (rowT s n j) = 2
        · rw [show (cl s n (rowT s n j) == 2) = true from beq_iff_eq.mpr b2, j0t, j1t g (by omega) (cl_lt (s := s) (by omega)), if_pos (c := _ ∨ _) (.inl ⟨q, .inr b2⟩), if_pos (c := _ ∨ _) (.inl ⟨q, .inr b2⟩)]
        · have hno : ¬ ((cl s n j = 0 ∧ (cl s n (rowT s n j) = 1 ∨ cl s n (rowT s n j) = 2)) ∨ (cl s n j ≠ 0 ∧ cl s n (rowT s n j) = 0)) := by omega
          rw [show (cl s n (rowT s n j) == 2) = false from beq_eq_false_iff_ne.mpr b2, j0f, if_pos q, j1f g (by omega), if_neg hno, if_neg hno]
    · rw [if_neg q, j0f, if_neg q]
      by_cases b0 : cl s n (rowT s n j) = 0
      · rw [show (cl s n (rowT s n j) == 0) = true from beq_iff_eq.mpr b0, j1t g (by omega) (cl_lt (s := s) (by omega)), if_pos (c := _ ∨ _) (.inr ⟨q, b0⟩), if_pos (c := _ ∨ _) (.inr ⟨q, b0⟩)]
      · have hno : ¬ ((cl s n j = 0 ∧ (cl s n (rowT s n j) = 1 ∨ cl s n (rowT s n j) = 2)) ∨ (cl s n j ≠ 0 ∧ cl s n (rowT s n j) = 0)) := by omega
        rw [show (cl s n (rowT s n j) == 0) = false from beq_eq_false_iff_ne.mpr b0, j1f g (by omega), if_neg hno, if_neg hno]
/-! ### the list of rows -/
def rowsP (s : ByteArray) (n : Nat) : Nat → List (Nat × Nat)
  | 0 => []
  | i + 1 => match rowsP s n i with
    | [] => [(i, i + 1)]
    | x :: r => if cl s n x.1 = cl s n i then (x.1, i + 1) :: r else (i, i + 1) :: x :: r
def mkR (s : ByteArray) (n : Nat) (x : Nat × Nat) : S41 := ⟨((Ext.st s x.1 : Nat) : Int), ((Ext.st s x.2 : Nat) : Int), cl s n x.1⟩
def RP (s : ByteArray) (n : Nat) : Nat → List (Nat × Nat) → Prop
  | i, [] => i = 0
  | i, x :: r => x.2 = i ∧ x.1 < i ∧ (∀ t, x.1 ≤ t → t < i → cl s n t = cl s n x.1) ∧ (x.1 = 0 ∨ cl s n (x.1 - 1) ≠ cl s n x.1) ∧ RP s n x.1 r
theorem rowsP_rp (s : ByteArray) (n : Nat) : ∀ i, RP s n i (rowsP s n i)
  | 0 => rfl
  | i + 1 => by
    have ih := rowsP_rp s n i
    have unf : rowsP s n (i + 1) = match rowsP s n i with | [] => [(i, i + 1)] | x :: r => if cl s n x.1 = cl s n i then (x.1, i + 1) :: r else (i, i + 1) :: x :: r := rfl
    rw [unf]
    cases hL : rowsP s n i with
    | nil =>
      rw [hL] at ih
      have h0 : i = 0 := ih
      subst h0
      refine ⟨rfl, Nat.zero_lt_one, ?_, Or.inl rfl, rfl⟩
      intro t a b
      simp only at a b ⊢
      rw [show t = 0 by omega]
    | cons x r =>
      rw [hL] at ih
      obtain ⟨h1, h2, h3, h4, h5⟩ := ih
      simp only
      by_cases c : cl s n x.1 = cl s n i
      · rw [if_pos c]
        refine ⟨rfl, by simp only; omega, fun t a b => ?_, h4, h5⟩
        simp only at a b ⊢
        by_cases q : t = i
        · rw [q, c]
        · exact h3 t a (by omega)
      · rw [if_neg c]
        refine ⟨rfl, by simp only; omega, fun t a b => ?_, .inr ?_, h1, h2, h3, h4, h5⟩
        · simp only at a b ⊢
          rw [show t = i by omega]
        · simp only
          rw [h3 (i - 1) (by omega) (by omega)]
          exact c
theorem RP_le (s : ByteArray) (n : Nat) : ∀ (L : List (Nat × Nat)) (i : Nat), RP s n i L → ∀ y ∈ L, y.2 ≤ i
  | [], _, _, y, hy => by simp at hy
  | x :: r, i, h, y, hy => by
    rcases List.mem_cons.1 hy with rfl | hy
    · exact Nat.le_of_eq h.1
    · have := RP_le s n r x.1 h.2.2.2.2 y hy
      have := h.2.1
      omega
theorem RP_len (s : ByteArray) (n : Nat) : ∀ (L : List (Nat × Nat)) (i : Nat), RP s n i L → L.length ≤ i
  | [], _, _ => by simp
  | x :: r, i, h => by
    have := RP_len s n r x.1 h.2.2.2.2
    have := h.2.1
    simp only [List.length_cons]
    omega
theorem dn_uniq (s : ByteArray) (n : Nat) (c : Int) {j f : Nat} (h1 : f ≤ j) (h2 : ∀ t, f ≤ t → t < j → cl s n t = c) (h3 : f = 0 ∨ cl s n (f - 1) ≠ c) : f = dn s n c j := by
  obtain ⟨a1, a2, a3⟩ := dn_spec s n c j
  by_cases q : f < dn s n c j
  · exfalso
    rcases a3 with a3 | a3
    · omega
    · exact a3 (h2 (dn s n c j - 1) (by omega) (by omega))
  · by_cases q2 : dn s n c j < f
    · exfalso
      rcases h3 with h3 | h3
      · omega
      · exact h3 (a2 (f - 1) (by omega) (by omega))
    · omega
theorem up_uniq (s : ByteArray) (n : Nat) (c : Int) (hc : 0 ≤ c) {j t : Nat} (hj : j ≤ n) (h1 : j ≤ t) (h2 : ∀ x, j ≤ x → x < t → cl s n x = c) (h3 : cl s n t ≠ c) : t = up s n c (n - j) j := by
  obtain ⟨b1, b2, b3, b4⟩ := up_spec s n c hc (n - j) j (by omega)
  by_cases q : t < up s n c (n - j) j
  · exact absurd (b3 t h1 q) h3
  · by_cases q2 : up s n c (n - j) j < t
    · exact absurd (h2 _ b1 q2) b4
    · omega
theorem locate (s : ByteArray) (n j : Nat) : ∀ (L : List (Nat × Nat)) (i : Nat), RP s n i L → (i = n ∨ cl s n i ≠ cl s n (i - 1)) → i ≤ n → j < i →
    ∃ A x B, L = A ++ x :: B ∧ x.1 = rowF s n j ∧ x.2 = rowT s n j ∧ (∀ y ∈ B, y.2 ≤ j) ∧ (A = [] → rowT s n j = i) ∧ (∀ A' y, A = A' ++ [y] → y.1 = rowT s n j ∧ y.2 = rowT s n (rowT s n j) ∧ rowT s n j < i) ∧
      (∀ z B', B = z :: B' → z.1 = rowF s n (rowF s n j - 1) ∧ 0 < rowF s n j) ∧ (B = [] → rowF s n j = 0)
  | [], i, h, _, _, hj => by have h0 : i = 0 := h; omega
  | x :: r, i, h, hend, hin, hj => by
    obtain ⟨h1, h2, h3, h4, h5⟩ := h
    have hendx : ∀ k, x.1 ≤ k → k < i → cl s n i ≠ cl s n k := fun k a b => by
      rw [h3 k a b]
      rcases hend with e | e
      · rw [e, cl_out (by omega)]
        have := cl_in (s := s) (n := n) (j := x.1) (by omega)
        omega
      · rw [h3 (i - 1) (by omega) (by omega)] at e
        exact e
    by_cases c : x.1 ≤ j
    · have hcj := h3 j c hj
      have hF : x.1 = rowF s n j := dn_uniq s n (cl s n j) c (fun t a b => by rw [h3 t a (by omega), hcj]) (by rw [hcj]; exact h4)
      have hT : i = rowT s n j := up_uniq s n (cl s n j) (cl_in (by omega)) (by omega) (by omega) (fun t a b => by rw [h3 t (by omega) b, hcj]) (hendx j c hj)
      refine ⟨[], x, r, rfl, hF, by rw [h1, hT], fun y hy => ?_, fun _ => hT.symm, fun A' y e => by simp at e, fun z B' e => ?_, fun e => ?_⟩
      · have := RP_le s n r x.1 h5 y hy
        omega
      · subst e
        obtain ⟨g1, g2, g3, g4, g5⟩ := h5
        refine ⟨?_, by omega⟩
        rw [← hF]
        have hcz := g3 (x.1 - 1) (by omega) (by omega)
        exact dn_uniq s n (cl s n (x.1 - 1)) (by omega) (fun t a b => by rw [g3 t a (by omega), hcz]) (by rw [hcz]; exact g4)
      · subst e
        have : x.1 = 0 := h5
        omega
    · have hb : x.1 = n ∨ cl s n x.1 ≠ cl s n (x.1 - 1) := by
        rcases h4 with h4 | h4
        · omega
        · exact .inr (fun e => h4 e.symm)
      obtain ⟨A, y, B, e1, e2, e3, e4, e5, e6, e7, e8⟩ := locate s n j r x.1 h5 hb (by omega) (by omega)
      refine ⟨x :: A, y, B, by rw [e1]; rfl, e2, e3, e4, fun e => by simp at e, fun A' y' e => ?_, e7, e8⟩
      cases A with
      | nil =>
        cases A' with
        | nil =>
          simp only [List.nil_append, List.cons.injEq] at e
          obtain ⟨rfl, _⟩ := e
          have ht := e5 rfl
          refine ⟨ht.symm, ?_, by omega⟩
          rw [ht, h1]
          exact up_uniq s n (cl s n x.1) (cl_in (by omega)) (by omega) (by omega) h3 (hendx x.1 (Nat.le_refl _) h2)
        | cons w A'' => simp at e
      | cons w A2 =>
        cases A' with
        | nil => simp at e
        | cons w' A'' =>
          simp only [List.cons_append, List.cons.injEq] at e
          have := e6 A'' y' e.2
          exact ⟨this.1, this.2.1, by omega⟩
theorem rows_val {s : ByteArray} {n : Nat} (h : Signs s n) (hs : s.size < 1000000) : ∀ (d i f : Nat), i + d = n → d + 10 ≤ f →
    bureauref13_Rows.l0 f ((scan s s.size 0).map sig) ((rowsP s n i).reverse.map (mkR s n)) (i : Int) = some ((rowsP s n n).reverse.map (mkR s n))
  | _, _, 0, _, hf => by omega
  | 0, i, f + 1, e, _ => by
    have hlen : ((scan s s.size 0).map sig).length = n := by rw [map_sig h]; simp
    obtain rfl : i = n := by omega
    rw [bureauref13_Rows.l0, hlen, if_neg (by omega)]
  | d + 1, i, f + 1, e, hf => by
    have hlen : ((scan s s.size 0).map sig).length = n := by rw [map_sig h]; simp
    have hn := h.le
    have hw : wrap64 ((i : Int) + 1) = ((i + 1 : Nat) : Int) := by rw [wrapZ _ (by omega) (by omega)]; omega
    have hr : rd_T63 ((scan s s.size 0).map sig) (i : Int) = sig (Ext.st s i, Utf8.decode s (Ext.st s i)) := by
      rw [rd_T63_nat _ i (by omega)]
      simp only [map_sig h, List.getElem_map, List.getElem_range]
    have hcls : bureauref02_Class.f f (((Utf8.decode s (Ext.st s i)).1 : Nat) : Int) = some (cl s n i) := by
      rw [show f = (f - 3) + 3 by omega, rclass_eq]
      unfold cl
      rw [if_pos (by omega)]
    have hsz := h.le_size (show i + 1 ≤ n by omega)
    have hst : wrap64 (((Ext.st s i : Nat) : Int) + (((Utf8.decode s (Ext.st s i)).2 : Nat) : Int)) = ((Ext.st s (i + 1) : Nat) : Int) := by
      have e1 : Ext.st s (i + 1) = Ext.st s i + (Utf8.decode s (Ext.st s i)).2 := rfl
      rw [wrapZ _ (by omega) (by omega), e1]
      omega
    have g0 : (sig (Ext.st s i, Utf8.decode s (Ext.st s i))).f0 = ((Ext.st s i : Nat) : Int) := rfl
    have g1 : (sig (Ext.st s i, Utf8.decode s (Ext.st s i))).f1 = (((Utf8.decode s (Ext.st s i)).2 : Nat) : Int) := rfl
    have g2 : (sig (Ext.st s i, Utf8.decode s (Ext.st s i))).f2 = (((Utf8.decode s (Ext.st s i)).1 : Nat) : Int) := rfl
    have hrp := rowsP_rp s n i
    have hl := RP_len s n _ _ hrp
    have ih := rows_val h hs d (i + 1) f (by omega) (by omega)
    have unf : rowsP s n (i + 1) = match rowsP s n i with | [] => [(i, i + 1)] | x :: r => if cl s n x.1 = cl s n i then (x.1, i + 1) :: r else (i, i + 1) :: x :: r := rfl
    rw [unf] at ih
    rw [bureauref13_Rows.l0, hlen, if_pos (by omega), if_pos (by omega), hr, g0, g1, g2, hcls, Option.bind_some, hw]
    simp only [hst]
    cases hL : rowsP s n i with
    | nil =>
      rw [hL] at ih
      rw [if_neg (by simp), if_pos (by simp)]
      exact ih
    | cons x r =>
      rw [hL] at ih hl
      simp only [List.length_cons] at hl
      have hlw : (((x :: r).reverse.map (mkR s n)).length : Int) = (r.length : Int) + 1 := by simp
      have hwl : wrap64 ((r.length : Int) + 1 - 1) = (r.length : Int) := by rw [wrapZ _ (by omega) (by omega)]; omega
      have hlist : (x :: r).reverse.map (mkR s n) = r.reverse.map (mkR s n) ++ [mkR s n x] := by simp
      have hrd : rd_T41 ((x :: r).reverse.map (mkR s n)) (r.length : Int) = mkR s n x := by
        rw [rd41 _ _ (by simp)]
        simp only [hlist]
        rw [List.getElem_append_right (by simp)]
        simp
      simp only [hlw, hwl, hrd]
      rw [if_pos (by omega), if_pos (by omega), if_pos (by omega)]
      by_cases c : cl s n x.1 = cl s n i
      · rw [if_pos (show (mkR s n x).f2 = cl s n i from c)]
        simp only [if_pos c] at ih
        refine Eq.trans ?_ ih
        congr 1
        rw [Int.toNat_natCast, hlist, List.set_append_right _ _ (by simp)]
        simp [mkR]
      · rw [if_neg (show ¬ (mkR s n x).f2 = cl s n i from c), if_pos (by simp; omega)]
        simp only [if_neg c] at ih
        refine Eq.trans ?_ ih
        congr 1
        simp [mkR]
theorem Rows_eq {s : ByteArray} {n : Nat} (h : Signs s n) (hs : s.size < 1000000) (f : Nat) (hf : s.size + 40 ≤ f) : bureauref13_Rows.f f s = some ((rowsP s n n).reverse.map (mkR s n)) := by
  have hn := h.le
  have hS := signs_eq s hs (f - s.size - 22)
  rw [show s.size + (f - s.size - 22) + 22 = f by omega] at hS
  unfold bureauref13_Rows.f
  rw [hS, Option.bind_some]
  exact rows_val h hs n 0 f (by omega) (by omega)
theorem cl_range (s : ByteArray) (n j : Nat) : cl s n j = -1 ∨ cl s n j = 0 ∨ cl s n j = 1 ∨ cl s n j = 2 ∨ cl s n j = 3 := by
  unfold cl classZ
  repeat' split
  all_goals omega
/-! ### the document's word -/
structure At41 (s : ByteArray) (n j m : Nat) (W : List S41) : Prop where
  lt : m < W.length
  small : W.length < 1000000
  here : rd_T41 W (m : Int) = ⟨((Ext.st s (rowF s n j) : Nat) : Int), ((Ext.st s (rowT s n j) : Nat) : Int), cl s n j⟩
  next : m + 1 < W.length → (rd_T41 W ((m + 1 : Nat) : Int)).f1 = ((Ext.st s (rowT s n (rowT s n j)) : Nat) : Int) ∧ (rd_T41 W ((m + 1 : Nat) : Int)).f2 = cl s n (rowT s n j)
  last : ¬ m + 1 < W.length → rowT s n j = n
  prev : 0 < m → (rd_T41 W ((m - 1 : Nat) : Int)).f0 = ((Ext.st s (rowF s n (rowF s n j - 1)) : Nat) : Int) ∧ (rd_T41 W ((m - 1 : Nat) : Int)).f2 = cl s n (rowF s n j - 1) ∧ 0 < rowF s n j
  first : m = 0 → rowF s n j = 0
  ahead : ∀ i, i < m → (rd_T41 W (i : Int)).f1 ≤ ((Ext.st s j : Nat) : Int)
theorem word_loop {s : ByteArray} {n j m : Nat} {W : List S41} (h : At41 s n j m W) (hlt : Ext.st s j < Ext.st s (rowT s n j)) (around : Bool) (g : Nat) : ∀ (d i : Nat), i + d = m →
    bureauref13_word.l0 (d + g + 1) ((Ext.st s j : Nat) : Int) around W (i : Int) = bureauref13_word.j1 g around W (m : Int)
  | 0, i, e => by
    have hm := h.lt
    have hsm := h.small
    obtain rfl : i = m := by omega
    have hw : wrap64 ((i : Int) + 1) = ((i + 1 : Nat) : Int) := by rw [wrapZ _ (by omega) (by omega)]; omega
    rw [show 0 + g + 1 = g + 1 by omega, bureauref13_word.l0, hw]
    by_cases c : i + 1 < W.length
    · rw [if_pos (by omega), if_pos (by omega), if_pos (by omega), h.here, if_neg (by simp only; omega)]
    · rw [if_neg (by omega)]
  | d + 1, i, e => by
    have hm := h.lt
    have hsm := h.small
    have ha := h.ahead i (by omega)
    have hw : wrap64 ((i : Int) + 1) = ((i + 1 : Nat) : Int) := by rw [wrapZ _ (by omega) (by omega)]; omega
    rw [show d + 1 + g + 1 = (d + g + 1) + 1 by omega, bureauref13_word.l0, hw, if_pos (by omega), if_pos (by omega), if_pos (by omega), if_pos ha]
    exact word_loop h hlt around g d (i + 1) (by omega)
theorem word_j1 {s : ByteArray} {n j m : Nat} {W : List S41} (h : At41 s n j m W) (hj : j < n) (around : Bool) (g : Nat) :
    bureauref13_word.j1 (g + 4) around W (m : Int) = some (if around = true then (((Ext.st s (wordF s n j) : Nat) : Int), ((Ext.st s (wordT s n j) : Nat) : Int)) else (((Ext.st s (rowF s n j) : Nat) : Int), ((Ext.st s (rowT s n j) : Nat) : Int))) := by
  obtain ⟨r1, r2, r3, r4, r5, r6⟩ := row_spec (s := s) hj
  have hm := h.lt
  have hsm := h.small
  have hw1 : wrap64 ((m : Int) + 1) = ((m + 1 : Nat) : Int) := by rw [wrapZ _ (by omega) (by omega)]; omega
  have W1 := Aside0.mk hw1
  clear hw1
  have hcj := cl_in (s := s) hj
  have hr := cl_range s n (rowT s n j)
  -- the end
  have j4 : ∀ (b : Bool) (ah : Int), (b = true → m + 1 < W.length) → (0 < m ∧ ah = cl s n (rowF s n j - 1) ∨ m = 0 ∧ ah = -1) → (cl s n (rowT s n j) = 0 → m + 1 < W.length) →
      bureauref13_word.j4 (g + 1) W (m : Int) ((Ext.st s (rowF s n j) : Nat) : Int) ((Ext.st s (rowT s n j) : Nat) : Int) (cl s n (rowT s n j)) ah b =
      some (if b = true then (((Ext.st s (rowF s n j) : Nat) : Int), ((Ext.st s (rowT s n (rowT s n j)) : Nat) : Int)) else if cl s n j = 0 then (((Ext.st s (rowF s n j) : Nat) : Int), ((Ext.st s (rowT s n j) : Nat) : Int))
        else if cl s n (rowT s n j) = 0 then (((Ext.st s (rowF s n j) : Nat) : Int), ((Ext.st s (rowT s n (rowT s n j)) : Nat) : Int))
        else if ah = 0 then (((Ext.st s (rowF s n (rowF s n j - 1)) : Nat) : Int), ((Ext.st s (rowT s n j) : Nat) : Int)) else (((Ext.st s (rowF s n j) : Nat) : Int), ((Ext.st s (rowT s n j) : Nat) : Int))) := by
    intro b ah hb hah h0
    rw [bureauref13_word.j4]
    simp only [W1.out, h.here]
    cases b
    · simp only [Bool.false_eq_true, if_false]
      rw [if_pos (by omega), if_pos (by omega)]
      by_cases q : cl s n j = 0
      · rw [if_pos q, if_pos q]
      · rw [if_neg q, if_neg q]
        by_cases q0 : cl s n (rowT s n j) = 0
        · have hl := h0 q0
          rw [if_pos q0, if_pos q0, if_pos (by omega), if_pos (by omega), (h.next hl).1]
        · rw [if_neg q0, if_neg q0]
          by_cases qa : ah = 0
          · rcases hah with ⟨m0, _⟩ | ⟨_, e⟩
            · have hw2 : wrap64 ((m : Int) - 1) = ((m - 1 : Nat) : Int) := by rw [wrapZ _ (by omega) (by omega)]; omega
              rw [if_pos qa, if_pos qa]
              simp only [hw2]
              rw [if_pos (by omega), if_pos (by omega), (h.prev m0).1]
            · omega
          · rw [if_neg qa, if_neg qa]
    · have hl := hb rfl
      rw [if_pos rfl, if_pos rfl, if_pos (by omega), if_pos (by omega), (h.next hl).1]
  have hbl : 0 ≤ cl s n (rowT s n j) → m + 1 < W.length := fun hh => by
    by_cases c : m + 1 < W.length
    · exact c
    · have e := h.last c
      rw [e, cl_out (by omega)] at hh
      omega
  have j3 : ∀ ah : Int, (0 < m ∧ ah = cl s n (rowF s n j - 1) ∨ m = 0 ∧ ah = -1) →
      bureauref13_word.j3 (g + 2) W (m : Int) ((Ext.st s (rowF s n j) : Nat) : Int) ((Ext.st s (rowT s n j) : Nat) : Int) (cl s n (rowT s n j)) ah = some (((Ext.st s (wordF s n j) : Nat) : Int), ((Ext.st s (wordT s n j) : Nat) : Int)) := by
    intro ah hah
    rw [bureauref13_word.j3]
    simp only [h.here]
    rw [if_pos (by omega), if_pos (by omega)]
    have h3 : 0 < rowF s n j ↔ 0 < m := by
      constructor
      · intro hh
        by_cases c : 0 < m
        · exact c
        · have := h.first (by omega); omega
      · intro hh; exact (h.prev hh).2.2
    unfold wordF wordT
    by_cases q : cl s n j = 0
    · rw [if_pos q]
      have hne : cl s n (rowT s n j) ≠ 0 := by omega
      by_cases b0 : cl s n (rowT s n j) ≥ 0
      · rw [if_pos b0]
        by_cases b3 : cl s n (rowT s n j) = 3
        · rw [show (cl s n (rowT s n j) != 3) = false by simp [b3], j4 false ah (by simp) hah (fun e => hbl (by omega)), if_neg (by simp), if_pos q]
          have hno : ¬ ((cl s n j = 0 ∧ (cl s n (rowT s n j) = 1 ∨ cl s n (rowT s n j) = 2)) ∨ (cl s n j ≠ 0 ∧ cl s n (rowT s n j) = 0)) := by omega
          rw [if_neg hno, if_neg hno, if_neg (c := cl s n j ≠ 0 ∧ 0 < rowF s n j ∧ cl s n (rowF s n j - 1) = 0) (fun hh => hh.1 q)]
        · rw [show (cl s n (rowT s n j) != 3) = true by simp [b3], j4 true ah (fun _ => hbl b0) hah (fun e => hbl (by omega)), if_pos rfl]
          have hyes : (cl s n j = 0 ∧ (cl s n (rowT s n j) = 1 ∨ cl s n (rowT s n j) = 2)) ∨ (cl s n j ≠ 0 ∧ cl s n (rowT s n j) = 0) := by omega
          rw [if_pos hyes, if_pos hyes]
      · rw [if_neg b0, j4 false ah (by simp) hah (fun e => hbl (by omega)), if_neg (by simp), if_pos q]
        have hno : ¬ ((cl s n j = 0 ∧ (cl s n (rowT s n j) = 1 ∨ cl s n (rowT s n j) = 2)) ∨ (cl s n j ≠ 0 ∧ cl s n (rowT s n j) = 0)) := by omega
        rw [if_neg hno, if_neg hno, if_neg (c := cl s n j ≠ 0 ∧ 0 < rowF s n j ∧ cl s n (rowF s n j - 1) = 0) (fun hh => hh.1 q)]
    · rw [if_neg q, j4 false ah (by simp) hah (fun e => hbl (by omega)), if_neg (by simp), if_neg q]
      by_cases b0 : cl s n (rowT s n j) = 0
      · have hyes : (cl s n j = 0 ∧ (cl s n (rowT s n j) = 1 ∨ cl s n (rowT s n j) = 2)) ∨ (cl s n j ≠ 0 ∧ cl s n (rowT s n j) = 0) := by omega
        rw [if_pos b0, if_pos hyes, if_pos hyes]
      · have hno : ¬ ((cl s n j = 0 ∧ (cl s n (rowT s n j) = 1 ∨ cl s n (rowT s n j) = 2)) ∨ (cl s n j ≠ 0 ∧ cl s n (rowT s n j) = 0)) := by omega
        rw [if_neg b0, if_neg hno, if_neg hno]
        rcases hah with ⟨m0, e⟩ | ⟨m0, e⟩
        · subst e
          by_cases qa : cl s n (rowF s n j - 1) = 0
          · rw [if_pos qa, if_pos (c := cl s n j ≠ 0 ∧ 0 < rowF s n j ∧ cl s n (rowF s n j - 1) = 0) ⟨q, h3.2 m0, qa⟩]
          · rw [if_neg qa, if_neg (c := cl s n j ≠ 0 ∧ 0 < rowF s n j ∧ cl s n (rowF s n j - 1) = 0) (fun hh => qa hh.2.2)]
        · rw [if_neg (by omega), if_neg (c := cl s n j ≠ 0 ∧ 0 < rowF s n j ∧ cl s n (rowF s n j - 1) = 0) (fun hh => by have := h3.1 hh.2.1; omega)]
  have j2 : bureauref13_word.j2 (g + 3) W (m : Int) ((Ext.st s (rowF s n j) : Nat) : Int) ((Ext.st s (rowT s n j) : Nat) : Int) (cl s n (rowT s n j)) (-1) = some (((Ext.st s (wordF s n j) : Nat) : Int), ((Ext.st s (wordT s n j) : Nat) : Int)) := by
    rw [bureauref13_word.j2]
    by_cases m0 : 0 < m
    · have hw2 : wrap64 ((m : Int) - 1) = ((m - 1 : Nat) : Int) := by rw [wrapZ _ (by omega) (by omega)]; omega
      simp only [hw2]
      rw [if_pos (by omega), if_pos (by omega), if_pos (by omega), (h.prev m0).2.1]
      exact j3 _ (.inl ⟨m0, rfl⟩)
    · rw [if_neg (by omega)]
      exact j3 _ (.inr ⟨by omega, rfl⟩)
  rw [bureauref13_word.j1]
  simp only [W1.out, h.here]
  rw [if_pos (by omega), if_pos (by omega)]
  cases around
  · rw [if_neg (by simp), if_neg (by simp)]
  · rw [if_pos rfl, if_pos rfl]
    by_cases c : m + 1 < W.length
    · rw [if_pos (by omega), if_pos (by omega), (h.next c).2]
      exact j2
    · rw [if_neg (by omega)]
      have e := h.last c
      have e1 : cl s n (rowT s n j) = -1 := by rw [e]; exact cl_out (by omega)
      rw [e1] at j2
      exact j2
theorem at41 {s : ByteArray} {n j : Nat} (h : Signs s n) (hs : s.size < 1000000) (hj : j < n) : ∃ m, m < n ∧ At41 s n j m ((rowsP s n n).reverse.map (mkR s n)) := by
  have hn := h.le
  have hrp := rowsP_rp s n n
  have hlen := RP_len s n _ _ hrp
  obtain ⟨r1, r2, r3, r4, r5, r6⟩ := row_spec (s := s) hj
  obtain ⟨A, x, B, e1, e2, e3, e4, e5, e6, e7, e8⟩ := locate s n j _ n hrp (.inl rfl) (Nat.le_refl _) hj
  have hW : (rowsP s n n).reverse.map (mkR s n) = B.reverse.map (mkR s n) ++ mkR s n x :: A.reverse.map (mkR s n) := by rw [e1]; simp
  have hll : (B.reverse.map (mkR s n)).length = B.length := by simp
  have hlw : ((rowsP s n n).reverse.map (mkR s n)).length = B.length + 1 + A.length := by rw [hW]; simp; omega
  have hlw2 : ((rowsP s n n).reverse.map (mkR s n)).length ≤ n := by simpa using hlen
  refine ⟨B.length, by omega, ⟨by omega, by omega, ?_, fun hc => ?_, fun hc => ?_, fun hc => ?_, fun hc => ?_, fun i hi => ?_⟩⟩
  · rw [rd41 _ _ (by omega)]
    simp only [hW]
    rw [List.getElem_append_right (by omega)]
    simp only [hll, Nat.sub_self, List.getElem_cons_zero]
    unfold mkR
    rw [e2, e3, r4 (rowF s n j) (Nat.le_refl _) (by omega)]
  · cases hA : A.reverse with
    | nil =>
      have : A.length = 0 := by rw [← List.length_reverse, hA]; rfl
      omega
    | cons y A' =>
      have hAA : A = A'.reverse ++ [y] := by rw [← List.reverse_reverse A, hA]; simp
      obtain ⟨g1, g2, g3⟩ := e6 _ _ hAA
      have hr : rd_T41 ((rowsP s n n).reverse.map (mkR s n)) ((B.length + 1 : Nat) : Int) = mkR s n y := by
        rw [rd41 _ _ hc]
        simp only [hW, hA]
        rw [List.getElem_append_right (by omega)]
        simp
      rw [hr]
      unfold mkR
      rw [g1, g2]
      exact ⟨rfl, rfl⟩
  · exact e5 (List.eq_nil_of_length_eq_zero (by omega))
  · cases B with
    | nil => simp at hc
    | cons z B' =>
      obtain ⟨g1, g2⟩ := e7 z B' rfl
      have hr : rd_T41 ((rowsP s n n).reverse.map (mkR s n)) (((z :: B').length - 1 : Nat) : Int) = mkR s n z := by
        rw [rd41 _ _ (by omega)]
        simp only [hW]
        rw [List.getElem_append_left (by simp)]
        simp
      rw [hr]
      obtain ⟨t1, t2, t3, t4, t5, t6⟩ := row_spec (s := s) (n := n) (j := rowF s n j - 1) (by omega)
      unfold mkR
      rw [g1, t4 _ (Nat.le_refl _) (by omega)]
      exact ⟨rfl, rfl, g2⟩
  · exact e8 (List.eq_nil_of_length_eq_zero hc)
  · have hr : rd_T41 ((rowsP s n n).reverse.map (mkR s n)) (i : Int) = mkR s n (B.reverse[i]'(by simpa using hi)) := by
      rw [rd41 _ _ (by omega)]
      simp only [hW]
      rw [List.getElem_append_left (by simpa using hi), List.getElem_map]
    rw [hr]
    have hmem : B.reverse[i]'(by simpa using hi) ∈ B := by
      exact List.mem_reverse.1 (List.getElem_mem (l := B.reverse) (by simpa using hi))
    have := st_mono s (e4 _ hmem)
    show ((Ext.st s (B.reverse[i]'(by simpa using hi)).2 : Nat) : Int) ≤ _
    omega
theorem rword_at {s : ByteArray} {n j : Nat} (h : Signs s n) (hs : s.size < 1000000) (hj : j < n) (around : Bool) (f : Nat) (hf : s.size + 60 ≤ f) :
    bureauref13_word.f f s ((Ext.st s j : Nat) : Int) around = some (if around = true then (((Ext.st s (wordF s n j) : Nat) : Int), ((Ext.st s (wordT s n j) : Nat) : Int)) else (((Ext.st s (rowF s n j) : Nat) : Int), ((Ext.st s (rowT s n j) : Nat) : Int))) := by
  have hn := h.le
  obtain ⟨m, hm, hA⟩ := at41 h hs hj
  obtain ⟨r1, r2, r3, r4, r5, r6⟩ := row_spec (s := s) hj
  have hlt := (st_lt_iff h (show j ≤ n by omega) r3).2 r2
  unfold bureauref13_word.f
  rw [Rows_eq h hs f (by omega), Option.bind_some]
  have L := word_loop hA hlt around (f - m - 1) m 0 (by omega)
  rw [show m + (f - m - 1) + 1 = f by omega] at L
  refine Eq.trans L ?_
  rw [show f - m - 1 = (f - m - 5) + 4 by omega]
  exact word_j1 hA hj around _
/-! ### what Find makes of a pair -/
def fin4 (around : Bool) (z : Int × Int × Bool) : Int × Int × Bool := if z.2.2 = true then (if around = true then (z.1, wrap64 (z.2.1 + 1), true) else (wrap64 (z.1 + 1), z.2.1, true)) else (0, 0, false)
theorem j3_fin (k : Nat) (around : Bool) (z : Int × Int × Bool) : object_Find.j3 (k + 1) around z.1 z.2.1 z.2.2 = some (fin4 around z) := by
  rw [object_Find.j3]
  unfold fin4
  cases z.2.2
  · rfl
  · cases around <;> rfl
theorem btw_fin (o : Option (Nat × Nat)) (around : Bool) : bureauref13_between.f (abtZ o).1 (abtZ o).2.1 (abtZ o).2.2.1 (abtZ o).2.2.2 around = some (fin4 around (ansZ o)) := by
  unfold bureauref13_between.f fin4
  cases o
  · rfl
  · cases around <;> rfl
def pairZ (s : ByteArray) (a o c : Nat) : Option (Nat × Nat) := (brkL (gb s) o c s.size 0 []).find? (hitB a)
def quoZ (s : ByteArray) (a q : Nat) : Option (Nat × Nat) := (quoL (gb s) q (bT s (ofZ s (a : Int)) - bF s (ofZ s (a : Int))) (bF s (ofZ s (a : Int))) none).find? (hitQ a)
def keyZ (s : ByteArray) (a : Nat) (key : Int) : Option (Nat × Nat) :=
  if key = 40 ∨ key = 41 ∨ key = 98 then pairZ s a 40 41 else if key = 91 ∨ key = 93 then pairZ s a 91 93 else if key = 123 ∨ key = 125 ∨ key = 66 then pairZ s a 123 125
  else if key = 34 then quoZ s a 34 else if key = 39 then quoZ s a 39 else none
theorem pair_p (s : ByteArray) (hs : s.size < 1000000) (a o c : Nat) (hoc : o ≠ c) (f : Nat) (hf : 2 * s.size + 1 ≤ f) : object_brackets.f f s (a : Int) (o : Int) (c : Int) = some (ansZ (pairZ s a o c)) := by
  unfold object_brackets.f
  exact brk_val s hs a o c hoc s.size 0 [] f (by omega) (by simp) hf
theorem pair_r (s : ByteArray) (hs : s.size < 1000000) (a o c : Nat) (hoc : o ≠ c) (around : Bool) (f : Nat) (hf : s.size + 2 ≤ f) :
    ((bureauref13_Brackets.f f s (o : Int) (c : Int)).bind fun t285 => ((bureauref13_about.f f t285 (a : Int)).bind fun bt288 => ((bureauref13_between.f bt288.1 bt288.2.1 bt288.2.2.1 bt288.2.2.2 around).bind fun bt293 => (some (bt293.1, bt293.2.1, bt293.2.2))))) = some (fin4 around (ansZ (pairZ s a o c))) := by
  have h1 : bureauref13_Brackets.f f s (o : Int) (c : Int) = some ((brkL (gb s) o c s.size 0 []).map mk41) := by
    unfold bureauref13_Brackets.f
    have := rbrk_val s hs o c hoc s.size 0 [] [] f (by omega) (by simp) (by simp) (by omega)
    rw [List.nil_append] at this
    exact this
  have hl := brkL_len (gb s) o c s.size 0 []
  have h2 : bureauref13_about.f f ((brkL (gb s) o c s.size 0 []).map mk41) (a : Int) = some (abtZ (pairZ s a o c)) := by
    unfold bureauref13_about.f
    have := about_val a (brkL (gb s) o c s.size 0 []) (by omega) (brkL (gb s) o c s.size 0 []).length 0 f none (by omega) (by omega)
    rw [List.drop_zero, abt_find (gb s) o c a s.size 0 [] List.Pairwise.nil (by simp)] at this
    exact this
  rw [h1, Option.bind_some, h2, Option.bind_some, btw_fin, Option.bind_some]
theorem quo_p (s : ByteArray) (hs : s.size < 1000000) (a q : Nat) (hq : q < 256) (f : Nat) (hf : s.size + 4 ≤ f) : object_quotes.f f s (a : Int) (q : Int) = some (ansZ (quoZ s a q)) := by
  have hn := ofZ_lt s (a : Int)
  have hle := bT_le s (ofZ s (a : Int)) hn
  have hb : boundsZ s ((ofZ s (a : Int) : Nat) : Int) = ((bF s (ofZ s (a : Int)) : Int), (bT s (ofZ s (a : Int)) : Int), 0) := by
    unfold boundsZ
    rw [if_pos (by omega), Int.toNat_natCast]
  have hB := bounds_eq s (by omega) ((ofZ s (a : Int) : Nat) : Int) (f - s.size - 4)
  rw [show s.size + (f - s.size - 4) + 4 = f by omega] at hB
  unfold object_quotes.f
  rw [of_eq, Option.bind_some, hB, Option.bind_some, hb]
  exact quo_val s hs a q _ hq hle.2 _ _ f (by omega) (by omega)
theorem snd_true (around : Bool) (a : Int) (LL : List S41) (i x y z : Int) (f : Nat) : bureauref13_Find.l0 (f + 2) around a LL true i x y z = ((bureauref13_between.f x y z true around).bind fun bt331 => (some (bt331.1, bt331.2.1, bt331.2.2))) := by
  rw [bureauref13_Find.l0]
  split
  · rw [bureauref13_Find.j2, if_neg (by simp)]
  · rw [bureauref13_Find.j2, if_neg (by simp)]
theorem snd_val (around : Bool) (a : Nat) (L : List (Nat × Nat)) (hL : L.length < 1000000) : ∀ (d i f : Nat), i + d = L.length → 2 * d + 4 ≤ f →
    bureauref13_Find.l0 f around (a : Int) (L.map mk41) false (i : Int) 0 0 0 = some (fin4 around (ansZ ((L.drop i).find? (hitA a))))
  | _, _, 0, _, hf => by omega
  | _, _, 1, _, hf => by omega
  | 0, i, f + 2, e, _ => by
    have hd : L.drop i = [] := List.drop_eq_nil_of_le (by omega)
    have := btw_fin none around
    rw [bureauref13_Find.l0, if_neg (by rw [List.length_map]; omega), bureauref13_Find.j2, if_neg (by simp), hd]
    have h2 : bureauref13_between.f 0 0 0 false around = _ := this
    rw [h2, Option.bind_some]
    rfl
  | d + 1, i, f + 2, e, hf => by
    have hi : i < L.length := by omega
    have hw : wrap64 ((i : Int) + 1) = ((i + 1 : Nat) : Int) := by rw [wrapZ _ (by omega) (by omega)]; omega
    have hr : rd_T41 (L.map mk41) (i : Int) = mk41 L[i] := by rw [rd41 _ i (by rw [List.length_map]; exact hi), List.getElem_map]
    have f0 : (mk41 L[i]).f0 = ((L[i]).1 : Int) := rfl
    rw [bureauref13_Find.l0, if_pos (by rw [List.length_map]; omega), bureauref13_Find.j2, if_pos (by decide), if_pos (by omega), if_pos (by rw [List.length_map]; omega), hr, hw, f0, List.drop_eq_getElem_cons hi]
    simp only [List.find?]
    by_cases c : a < (L[i]).1
    · rw [if_pos (by omega), show hitA a L[i] = true by simp [hitA, c], show f = (f - 2) + 2 by omega, snd_true]
      have h2 : bureauref13_between.f ((L[i]).1 : Int) (mk41 L[i]).f1 (mk41 L[i]).f2 true around = _ := btw_fin (some L[i]) around
      rw [h2, Option.bind_some]
    · rw [if_neg (by omega), show hitA a L[i] = false by simp [hitA, c]]
      exact snd_val around a L hL d (i + 1) f (by omega) (by omega)
theorem quo_r (s : ByteArray) (hs : s.size < 1000000) (a q : Nat) (hq : q < 256) (around : Bool) (f : Nat) (hf : 2 * s.size + 10 ≤ f) :
    ((bureauref06_Of.f f s (a : Int)).bind fun t320 => ((bureauref13_quotes.f f s t320 (q : Int)).bind fun t321 => ((bureauref13_about.f f t321 (a : Int)).bind fun bt324 => (bureauref13_Find.l0 f around (a : Int) t321 bt324.2.2.2 0 bt324.1 bt324.2.1 bt324.2.2.1)))) = some (fin4 around (ansZ (quoZ s a q))) := by
  have hn := ofZ_lt s (a : Int)
  have hle := bT_le s (ofZ s (a : Int)) hn
  have hb : boundsZ s ((ofZ s (a : Int) : Nat) : Int) = ((bF s (ofZ s (a : Int)) : Int), (bT s (ofZ s (a : Int)) : Int), 0) := by
    unfold boundsZ
    rw [if_pos (by omega), Int.toNat_natCast]
  have hO := rof_eq s hs (a : Int) (f - s.size * 2 - 2)
  rw [show s.size * 2 + (f - s.size * 2 - 2) + 2 = f by omega] at hO
  have hB := rbounds_eq s hs ((ofZ s (a : Int) : Nat) : Int) (f - s.size - 2)
  rw [show s.size + (f - s.size - 2) + 2 = f by omega, hb] at hB
  generalize hN : bT s (ofZ s (a : Int)) - bF s (ofZ s (a : Int)) = N
  have hL : bureauref13_quotes.f f s ((ofZ s (a : Int) : Nat) : Int) (q : Int) = some ((quoL (gb s) q N (bF s (ofZ s (a : Int))) none).map mk41) := by
    unfold bureauref13_quotes.f
    rw [hB, Option.bind_some]
    have := rquo_val s hs q (bT s (ofZ s (a : Int))) hle.2 N (bF s (ofZ s (a : Int))) none [] f (by omega) (by simp) (by omega)
    rw [List.nil_append] at this
    exact this
  have hl := quoL_len (gb s) q N (bF s (ofZ s (a : Int))) none
  have hq2 := quo_find (gb s) q a N (bF s (ofZ s (a : Int))) none (fun o h => by cases h)
  unfold quoZ
  rw [hN, hO, Option.bind_some, hL, Option.bind_some]
  generalize quoL (gb s) q N (bF s (ofZ s (a : Int))) none = L at hl hq2
  have h2 : bureauref13_about.f f (L.map mk41) (a : Int) = some (abtZ (abt a none L)) := by
    unfold bureauref13_about.f
    have := about_val a L (by omega) L.length 0 f none (by omega) (by omega)
    rw [List.drop_zero] at this
    exact this
  rw [h2, Option.bind_some, ← hq2]
  cases hb2 : abt a none L with
  | none =>
    have := snd_val around a L (by omega) L.length 0 f (by omega) (by omega)
    rw [List.drop_zero] at this
    exact this
  | some x =>
    have h3 : bureauref13_Find.l0 ((f - 2) + 2) around (a : Int) (L.map mk41) true 0 (x.1 : Int) (x.2 : Int) 0 = _ := snd_true around (a : Int) (L.map mk41) 0 (x.1 : Int) (x.2 : Int) 0 (f - 2)
    rw [show f - 2 + 2 = f by omega] at h3
    have h4 : bureauref13_between.f (x.1 : Int) (x.2 : Int) 0 true around = _ := btw_fin (some x) around
    rw [h4, Option.bind_some] at h3
    exact h3
theorem prog_find (s : ByteArray) (hs : s.size < 1000000) (at_ : Int) (around : Bool) (key : Int) (F : Nat) (hF : 2 * s.size + 20 ≤ F) (hne : alignZ s at_ ≠ s.size) (h119 : ¬ key = 119) :
    object_Find.f (F + 10) s at_ around key = some (fin4 around (ansZ (keyZ s (alignZ s at_) key))) := by
  rw [find_head s hs at_ around key F, if_neg (by omega), if_neg h119]
  generalize alignZ s at_ = a
  have b1 : object_brackets.f (F + 9) s (a : Int) 40 41 = some (ansZ (pairZ s a 40 41)) := pair_p s hs a 40 41 (by decide) (F + 9) (by omega)
  have b2 : object_brackets.f (F + 8) s (a : Int) 91 93 = some (ansZ (pairZ s a 91 93)) := pair_p s hs a 91 93 (by decide) (F + 8) (by omega)
  have b3 : object_brackets.f (F + 7) s (a : Int) 123 125 = some (ansZ (pairZ s a 123 125)) := pair_p s hs a 123 125 (by decide) (F + 7) (by omega)
  have q1 : object_quotes.f (F + 7) s (a : Int) (34 % 256) = some (ansZ (quoZ s a 34)) := quo_p s hs a 34 (by decide) (F + 7) (by omega)
  have q2 : object_quotes.f (F + 7) s (a : Int) (39 % 256) = some (ansZ (quoZ s a 39)) := quo_p s hs a 39 (by decide) (F + 7) (by omega)
  by_cases h40 : key = 40
  · subst h40
    rw [if_pos rfl, show ((40 : Int) == 40) = true from rfl, show F + 10 = (F + 9) + 1 from rfl, object_Find.j0, if_pos rfl, b1, Option.bind_some]
    unfold keyZ
    rw [if_pos (by decide)]
    exact j3_fin _ around _
  by_cases h41 : key = 41
  · subst h41
    rw [if_neg (by decide), if_pos rfl, show ((41 : Int) == 41) = true from rfl, show F + 10 = (F + 9) + 1 from rfl, object_Find.j0, if_pos rfl, b1, Option.bind_some]
    unfold keyZ
    rw [if_pos (by decide)]
    exact j3_fin _ around _
  by_cases h98 : key = 98
  · subst h98
    rw [if_neg (by decide), if_neg (by decide), show ((98 : Int) == 98) = true from rfl, show F + 10 = (F + 9) + 1 from rfl, object_Find.j0, if_pos rfl, b1, Option.bind_some]
    unfold keyZ
    rw [if_pos (by decide)]
    exact j3_fin _ around _
  by_cases h91 : key = 91
  · subst h91
    rw [if_neg (by decide), if_neg (by decide), show ((91 : Int) == 98) = false from rfl, show F + 10 = (F + 8) + 1 + 1 from rfl, object_Find.j0, if_neg (by decide), if_pos rfl, show ((91 : Int) == 91) = true from rfl, object_Find.j1, if_pos rfl, b2, Option.bind_some]
    unfold keyZ
    rw [if_neg (by decide), if_pos (by decide)]
    exact j3_fin _ around _
  by_cases h93 : key = 93
  · subst h93
    rw [if_neg (by decide), if_neg (by decide), show ((93 : Int) == 98) = false from rfl, show F + 10 = (F + 8) + 1 + 1 from rfl, object_Find.j0, if_neg (by decide), if_neg (by decide), show ((93 : Int) == 93) = true from rfl, object_Find.j1, if_pos rfl, b2, Option.bind_some]
    unfold keyZ
    rw [if_neg (by decide), if_pos (by decide)]
    exact j3_fin _ around _
  by_cases h123 : key = 123
  · subst h123
    rw [if_neg (by decide), if_neg (by decide), show ((123 : Int) == 98) = false from rfl, show F + 10 = (F + 7) + 1 + 1 + 1 from rfl, object_Find.j0, if_neg (by decide), if_neg (by decide), show ((123 : Int) == 93) = false from rfl, object_Find.j1, if_neg (by decide), if_pos rfl, show ((123 : Int) == 123) = true from rfl, object_Find.j2, if_pos rfl, b3, Option.bind_some]
    unfold keyZ
    rw [if_neg (by decide), if_neg (by decide), if_pos (by decide)]
    exact j3_fin _ around _
  by_cases h125 : key = 125
  · subst h125
    rw [if_neg (by decide), if_neg (by decide), show ((125 : Int) == 98) = false from rfl, show F + 10 = (F + 7) + 1 + 1 + 1 from rfl, object_Find.j0, if_neg (by decide), if_neg (by decide), show ((125 : Int) == 93) = false from rfl, object_Find.j1, if_neg (by decide), if_neg (by decide), if_pos rfl, show ((125 : Int) == 125) = true from rfl, object_Find.j2, if_pos rfl, b3, Option.bind_some]
    unfold keyZ
    rw [if_neg (by decide), if_neg (by decide), if_pos (by decide)]
    exact j3_fin _ around _
  by_cases h66 : key = 66
  · subst h66
    rw [if_neg (by decide), if_neg (by decide), show ((66 : Int) == 98) = false from rfl, show F + 10 = (F + 7) + 1 + 1 + 1 from rfl, object_Find.j0, if_neg (by decide), if_neg (by decide), show ((66 : Int) == 93) = false from rfl, object_Find.j1, if_neg (by decide), if_neg (by decide), if_neg (by decide), show ((66 : Int) == 66) = true from rfl, object_Find.j2, if_pos rfl, b3, Option.bind_some]
    unfold keyZ
    rw [if_neg (by decide), if_neg (by decide), if_pos (by decide)]
    exact j3_fin _ around _
  by_cases h34 : key = 34
  · subst h34
    rw [if_neg (by decide), if_neg (by decide), show ((34 : Int) == 98) = false from rfl, show F + 10 = (F + 7) + 1 + 1 + 1 from rfl, object_Find.j0, if_neg (by decide), if_neg (by decide), show ((34 : Int) == 93) = false from rfl, object_Find.j1, if_neg (by decide), if_neg (by decide), if_neg (by decide), show ((34 : Int) == 66) = false from rfl, object_Find.j2, if_neg (by decide), if_pos rfl, q1, Option.bind_some]
    unfold keyZ
    rw [if_neg (by decide), if_neg (by decide), if_neg (by decide), if_pos (by decide)]
    exact j3_fin _ around _
  by_cases h39 : key = 39
  · subst h39
    rw [if_neg (by decide), if_neg (by decide), show ((39 : Int) == 98) = false from rfl, show F + 10 = (F + 7) + 1 + 1 + 1 from rfl, object_Find.j0, if_neg (by decide), if_neg (by decide), show ((39 : Int) == 93) = false from rfl, object_Find.j1, if_neg (by decide), if_neg (by decide), if_neg (by decide), show ((39 : Int) == 66) = false from rfl, object_Find.j2, if_neg (by decide), if_neg (by decide), if_pos rfl, q2, Option.bind_some]
    unfold keyZ
    rw [if_neg (by decide), if_neg (by decide), if_neg (by decide), if_neg (by decide), if_pos (by decide)]
    exact j3_fin _ around _
  have g1 : ¬ (key = 40 ∨ key = 41 ∨ key = 98) := by omega
  have g2 : ¬ (key = 91 ∨ key = 93) := by omega
  have g3 : ¬ (key = 123 ∨ key = 125 ∨ key = 66) := by omega
  rw [if_neg h40, if_neg h41, show (key == 98) = false from beq_eq_false_iff_ne.mpr h98, show F + 10 = (F + 7) + 1 + 1 + 1 from rfl, object_Find.j0, if_neg (by decide), if_neg h91, show (key == 93) = false from beq_eq_false_iff_ne.mpr h93, object_Find.j1, if_neg (by decide), if_neg h123, if_neg h125, show (key == 66) = false from beq_eq_false_iff_ne.mpr h66, object_Find.j2, if_neg (by decide), if_neg h34, if_neg h39]
  unfold keyZ
  rw [if_neg g1, if_neg g2, if_neg g3, if_neg h34, if_neg h39]
  exact j3_fin _ around (0, 0, false)
theorem in3 (key : Int) (x y z : UInt8) (f : Nat) (hf : 10 ≤ f) : bureauref11_In.f f key (⟨#[x, y, z]⟩ : ByteArray) = some (decide (key = (x.toNat : Int) ∨ key = (y.toNat : Int) ∨ key = (z.toNat : Int))) := by
  rw [in_eq f key _ (by show 3 < 1000; omega) (by show 3 < f; omega)]
  congr 1
  simp only [List.any_cons, List.any_nil, Bool.or_false]
  rw [Bool.eq_iff_iff]
  simp only [Bool.or_eq_true, decide_eq_true_eq]
  omega
theorem in2 (key : Int) (x y : UInt8) (f : Nat) (hf : 10 ≤ f) : bureauref11_In.f f key (⟨#[x, y]⟩ : ByteArray) = some (decide (key = (x.toNat : Int) ∨ key = (y.toNat : Int))) := by
  rw [in_eq f key _ (by show 2 < 1000; omega) (by show 2 < f; omega)]
  congr 1
  simp only [List.any_cons, List.any_nil, Bool.or_false]
  rw [Bool.eq_iff_iff]
  simp only [Bool.or_eq_true, decide_eq_true_eq]
  omega
theorem ref_find (s : ByteArray) (hs : s.size < 1000000) (at_ : Int) (around : Bool) (key : Int) (F : Nat) (hF : 2 * s.size + 60 ≤ F) (hne : alignZ s at_ ≠ s.size) (h119 : ¬ key = 119) :
    bureauref13_Find.f F s at_ around key = some (fin4 around (ansZ (keyZ s (alignZ s at_) key))) := by
  have hA := r02align_eq s hs at_ (F - s.size - 22)
  rw [show s.size + (F - s.size - 22) + 22 = F by omega] at hA
  unfold bureauref13_Find.f
  rw [hA, Option.bind_some, if_neg (by omega), if_neg h119]
  generalize alignZ s at_ = a
  have i1 : bureauref11_In.f F key (⟨#[40, 41, 98]⟩ : ByteArray) = some (decide (key = 40 ∨ key = 41 ∨ key = 98)) := in3 key 40 41 98 F (by omega)
  have i2 : bureauref11_In.f F key (⟨#[91, 93]⟩ : ByteArray) = some (decide (key = 91 ∨ key = 93)) := in2 key 91 93 F (by omega)
  have i3 : bureauref11_In.f F key (⟨#[123, 125, 66]⟩ : ByteArray) = some (decide (key = 123 ∨ key = 125 ∨ key = 66)) := in3 key 123 125 66 F (by omega)
  unfold keyZ
  rw [i1, Option.bind_some]
  by_cases g1 : key = 40 ∨ key = 41 ∨ key = 98
  · rw [decide_eq_true g1, if_pos rfl, if_pos g1]
    exact pair_r s hs a 40 41 (by decide) around F (by omega)
  rw [decide_eq_false g1, if_neg (by simp), if_neg g1, i2, Option.bind_some]
  by_cases g2 : key = 91 ∨ key = 93
  · rw [decide_eq_true g2, if_pos rfl, if_pos g2]
    exact pair_r s hs a 91 93 (by decide) around F (by omega)
  rw [decide_eq_false g2, if_neg (by simp), if_neg g2, i3, Option.bind_some]
  by_cases g3 : key = 123 ∨ key = 125 ∨ key = 66
  · rw [decide_eq_true g3, if_pos rfl, if_pos g3]
    exact pair_r s hs a 123 125 (by decide) around F (by omega)
  rw [decide_eq_false g3, if_neg (by simp), if_neg g3]
  obtain ⟨f, rfl⟩ : ∃ f, F = f + 1 := ⟨F - 1, by omega⟩
  by_cases g4 : key = 34
  · subst g4
    rw [if_pos rfl, if_pos rfl, bureauref13_Find.j0, if_pos rfl]
    exact quo_r s hs a 34 (by decide) around f (by omega)
  rw [if_neg g4, if_neg g4]
  by_cases g5 : key = 39
  · subst g5
    rw [if_pos rfl, show ((39 : Int) == 39) = true from rfl, bureauref13_Find.j0, if_pos rfl]
    exact quo_r s hs a 39 (by decide) around f (by omega)
  rw [if_neg g5, show (key == 39) = false from beq_eq_false_iff_ne.mpr g5, bureauref13_Find.j0, if_neg (by simp)]
  obtain ⟨g, rfl⟩ : ∃ g, f = g + 1 := ⟨f - 1, by omega⟩
  have h1 : bureauref13_about.f (g + 1) ([] : List S41) (a : Int) = some (abtZ none) := by
    unfold bureauref13_about.f
    rw [bureauref13_about.l0, if_neg (by simp)]
    rfl
  rw [h1, Option.bind_some, btw_fin, Option.bind_some]
theorem both (s : ByteArray) (hs : s.size < 100000) (at_ : Int) (around : Bool) (key : Int) : ∃ z : Int × Int × Bool, ∀ F, 2 * s.size + 100 ≤ F → object_Find.f F s at_ around key = some z ∧ bureauref13_Find.f F s at_ around key = some z := by
  obtain ⟨n, h⟩ := signs_ex s
  obtain ⟨j, ha⟩ := At.ex h at_
  have hal := alignZ_eq h ha
  by_cases hne : alignZ s at_ = s.size
  · refine ⟨(0, 0, false), fun F hF => ⟨?_, ?_⟩⟩
    · rw [show F = (F - 10) + 10 by omega, find_head s (by omega) at_ around key _, if_pos (by omega)]
    · have hA := r02align_eq s (by omega) at_ (F - s.size - 22)
      rw [show s.size + (F - s.size - 22) + 22 = F by omega] at hA
      unfold bureauref13_Find.f
      rw [hA, Option.bind_some, if_pos (by omega)]
  · by_cases h119 : key = 119
    · subst h119
      have hj : j < n := by
        by_cases c : j < n
        · exact c
        · exfalso
          have := ha.1
          rw [show j = n by omega, h.last] at hal
          exact hne hal
      refine ⟨if around = true then (((Ext.st s (wordF s n j) : Nat) : Int), ((Ext.st s (wordT s n j) : Nat) : Int), true) else (((Ext.st s (rowF s n j) : Nat) : Int), ((Ext.st s (rowT s n j) : Nat) : Int), true), fun F hF => ⟨?_, ?_⟩⟩
      · rw [show F = (F - 10) + 10 by omega, find_head s (by omega) at_ around _ _, if_neg (by omega), if_pos rfl, hal, word_at h (by omega) hj around _ (by omega), Option.bind_some]
        cases around <;> rfl
      · have hA := r02align_eq s (by omega) at_ (F - s.size - 22)
        rw [show s.size + (F - s.size - 22) + 22 = F by omega] at hA
        unfold bureauref13_Find.f
        rw [hA, Option.bind_some, if_neg (by omega), if_pos rfl, hal, rword_at h (by omega) hj around _ (by omega), Option.bind_some]
        cases around <;> rfl
    · refine ⟨_, fun F hF => ⟨?_, ref_find s (by omega) at_ around key F (by omega) hne h119⟩⟩
      have := prog_find s (by omega) at_ around key (F - 10) (by omega) hne h119
      rwa [show F - 10 + 10 = F by omega] at this
theorem ObjectFinds : bureaulaw13_ObjectFinds.Pure := by
  intro s at_ key _ _ hk
  have hr : -2147483648 ≤ key ∧ key ≤ 2147483647 := by simpa [Lit.wf, IntKind.min, IntKind.max, IntKind.signed, IntKind.bits] using hk
  have hw : wrap64 key = key := wrapZ _ (by omega) (by omega)
  refine ⟨2 * s.size + 140 + 60, ?_⟩
  unfold bureaulaw13_ObjectFinds.f
  rw [alive_eq (2 * s.size + 140), Option.bind_some, if_pos rfl]
  by_cases hs : (s.size : Int) > 2048
  · rw [if_pos hs]
  rw [if_neg hs, Option.bind_some]
  obtain ⟨z1, h1⟩ := both s (by omega) at_ false key
  obtain ⟨z2, h2⟩ := both s (by omega) at_ true key
  have a1 := h1 (2 * s.size + 140 + 59) (by omega)
  have a2 := h2 (2 * s.size + 140 + 58) (by omega)
  have step : ∀ (f : Nat) (i : Int) (b : Bool) (z : Int × Int × Bool), (i = 0 ∨ i = 1) → rdOf false [false, true] i = b → object_Find.f f s at_ b key = some z → bureauref13_Find.f f s at_ b key = some z →
      bureaulaw13_ObjectFinds.l0 (f + 1) s at_ key [false, true] 2 i = bureaulaw13_ObjectFinds.l0 f s at_ key [false, true] 2 (i + 1) := by
    intro f i b z hi hb e1 e2
    have hwi : wrap64 (i + 1) = i + 1 := wrapZ _ (by omega) (by omega)
    have hlen : (([false, true] : List Bool).length : Int) = 2 := rfl
    rw [bureaulaw13_ObjectFinds.l0, hlen, if_pos (by omega), if_pos (by omega), if_pos (by omega), hb, hw, e1, Option.bind_some, e2, Option.bind_some, if_pos rfl, if_pos rfl, hwi]
    cases z.2.2 <;> simp
  show bureaulaw13_ObjectFinds.l0 (2 * s.size + 140 + 59 + 1) s at_ key [false, true] 2 0 = some true
  rw [step _ 0 false z1 (.inl rfl) rfl a1.1 a1.2]
  rw [show 2 * s.size + 140 + 59 = 2 * s.size + 140 + 58 + 1 by omega, step _ (0 + 1) true z2 (.inr rfl) rfl a2.1 a2.2]
  rw [show 2 * s.size + 140 + 58 = 2 * s.size + 140 + 57 + 1 by omega, bureaulaw13_ObjectFinds.l0, if_neg (by omega)]

end Go.Proofs.YtcinobfflfkmjaaDoor.Pure
