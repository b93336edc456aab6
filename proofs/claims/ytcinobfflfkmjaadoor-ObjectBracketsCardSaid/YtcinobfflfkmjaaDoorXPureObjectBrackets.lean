/- What stands between a pair has no more closing than opening ones, and as many in all: for every text, place and kind. -/
import Derived.Test.YtcinobfflfkmjaaDoorXObjectBracketsx6
import Derived.Test.YtcinobfflfkmjaaDoorExt13M
import Derived.OpenShut
set_option linter.unusedVariables false
set_option linter.unusedSimpArgs false
namespace Go.Proofs.YtcinobfflfkmjaaDoor.Pure
open Go.RowKit Go.Proofs.YtcinobfflfkmjaaDoor.XObjectBrackets Go.Proofs.YtcinobfflfkmjaaDoorW.PrintWords Go.Proofs.YtcinobfflfkmjaaDoorW.PrintMore Go.Proofs.YtcinobfflfkmjaaDoor.Ext

def whole (x : Nat × Nat × Nat) : Bool := !(x.2.1 == 65533 && x.2.2 == 1)
/-! The numbers' bytes. -/
def enc (r : Nat) : List Nat :=
  if r < 128 then [r] else if r < 2048 then [192 + r / 64, 128 + r % 64] else if r < 65536 then [224 + r / 4096, 128 + r / 64 % 64, 128 + r % 64] else [240 + r / 262144, 128 + r / 4096 % 64, 128 + r / 64 % 64, 128 + r % 64]
def mayN (r : Nat) : Bool := r ≤ 1114111 && (r < 55296 || 57344 ≤ r)
theorem enc_lt {r : Nat} (h : r ≤ 1114111) : ∀ x ∈ enc r, x < 256 := by
  unfold enc
  intro x hx
  split at hx
  · simp only [List.mem_cons, List.not_mem_nil, or_false] at hx
    omega
  split at hx
  · simp only [List.mem_cons, List.not_mem_nil, or_false] at hx
    omega
  split at hx
  · simp only [List.mem_cons, List.not_mem_nil, or_false] at hx
    omega
  · simp only [List.mem_cons, List.not_mem_nil, or_false] at hx
    omega
/-! What the document's 'number' reads, and which so many bytes are a sign. -/
def numN (n b0 b1 b2 b3 : Nat) : Nat :=
  if n = 1 then b0 else if n = 2 then b0 % 32 * 64 + b1 % 64 else if n = 3 then (b0 % 16 * 64 + b1 % 64) * 64 + b2 % 64 else ((b0 % 8 * 64 + b1 % 64) * 64 + b2 % 64) * 64 + b3 % 64
theorem num1 (b0 b1 b2 b3 : Nat) : numN 1 b0 b1 b2 b3 = b0 := rfl
theorem num2 (b0 b1 b2 b3 : Nat) : numN 2 b0 b1 b2 b3 = b0 % 32 * 64 + b1 % 64 := rfl
theorem num3 (b0 b1 b2 b3 : Nat) : numN 3 b0 b1 b2 b3 = (b0 % 16 * 64 + b1 % 64) * 64 + b2 % 64 := rfl
theorem num4 (b0 b1 b2 b3 : Nat) : numN 4 b0 b1 b2 b3 = ((b0 % 8 * 64 + b1 % 64) * 64 + b2 % 64) * 64 + b3 % 64 := rfl
def okN (n b0 b1 b2 b3 : Nat) : Bool := mayN (numN n b0 b1 b2 b3) && enc (numN n b0 b1 b2 b3) == [b0, b1, b2, b3].take n
theorem ok1 {b0 : Nat} (b1 b2 b3 : Nat) (h0 : b0 < 256) : okN 1 b0 b1 b2 b3 = decide (b0 < 128) := by
  unfold okN mayN enc numN
  rw [if_pos rfl, Bool.eq_iff_iff]
  simp only [Bool.and_eq_true, Bool.or_eq_true, decide_eq_true_eq, beq_iff_eq, List.take_succ_cons, List.take_zero]
  constructor
  · rintro ⟨_, h⟩
    split at h
    · assumption
    · exfalso
      split at h
      · simp only [List.cons.injEq] at h
        exact absurd h.2 (by simp)
      split at h
      · simp only [List.cons.injEq] at h
        exact absurd h.2 (by simp)
      · simp only [List.cons.injEq] at h
        exact absurd h.2 (by simp)
  · intro h
    exact ⟨by omega, by rw [if_pos h]⟩
theorem ok2 {b0 b1 : Nat} (b2 b3 : Nat) (h0 : b0 < 256) (h1 : b1 < 256) : okN 2 b0 b1 b2 b3 = decide (b0 / 32 = 6 ∧ b1 / 64 = 2 ∧ 128 ≤ b0 % 32 * 64 + b1 % 64) := by
  unfold okN mayN enc numN
  rw [if_neg (by omega), if_pos rfl, Bool.eq_iff_iff]
  simp only [Bool.and_eq_true, Bool.or_eq_true, decide_eq_true_eq, beq_iff_eq, List.take_succ_cons, List.take_zero]
  generalize hr : b0 % 32 * 64 + b1 % 64 = r
  constructor
  · rintro ⟨_, h⟩
    split at h
    · cases h
    split at h
    · simp only [List.cons.injEq, and_true] at h
      omega
    split at h
    · cases h
    · cases h
  · intro h
    refine ⟨by omega, ?_⟩
    rw [if_neg (by omega), if_pos (by omega)]
    simp only [List.cons.injEq, and_true]
    omega
theorem ok3 {b0 b1 b2 : Nat} (b3 : Nat) (h0 : b0 < 256) (h1 : b1 < 256) (h2 : b2 < 256) : okN 3 b0 b1 b2 b3 =
    decide (b0 / 16 = 14 ∧ b1 / 64 = 2 ∧ b2 / 64 = 2 ∧ 2048 ≤ b0 % 16 * 4096 + b1 % 64 * 64 + b2 % 64 ∧ (b0 % 16 * 4096 + b1 % 64 * 64 + b2 % 64 < 55296 ∨ 57344 ≤ b0 % 16 * 4096 + b1 % 64 * 64 + b2 % 64)) := by
  unfold okN mayN enc numN
  rw [if_neg (by omega), if_neg (by omega), if_pos rfl, Bool.eq_iff_iff]
  simp only [Bool.and_eq_true, Bool.or_eq_true, decide_eq_true_eq, beq_iff_eq, List.take_succ_cons, List.take_zero]
  rw [show (b0 % 16 * 64 + b1 % 64) * 64 + b2 % 64 = b0 % 16 * 4096 + b1 % 64 * 64 + b2 % 64 by omega]
  generalize hr : b0 % 16 * 4096 + b1 % 64 * 64 + b2 % 64 = r
  constructor
  · rintro ⟨_, h⟩
    split at h
    · cases h
    split at h
    · cases h
    split at h
    · simp only [List.cons.injEq, and_true] at h
      omega
    · cases h
  · intro h
    refine ⟨by omega, ?_⟩
    rw [if_neg (by omega), if_neg (by omega), if_pos (by omega)]
    simp only [List.cons.injEq, and_true]
    omega
theorem ok4 {b0 b1 b2 b3 : Nat} (h0 : b0 < 256) (h1 : b1 < 256) (h2 : b2 < 256) (h3 : b3 < 256) : okN 4 b0 b1 b2 b3 =
    decide (b0 / 8 = 30 ∧ b1 / 64 = 2 ∧ b2 / 64 = 2 ∧ b3 / 64 = 2 ∧ 65536 ≤ b0 % 8 * 262144 + b1 % 64 * 4096 + b2 % 64 * 64 + b3 % 64 ∧ b0 % 8 * 262144 + b1 % 64 * 4096 + b2 % 64 * 64 + b3 % 64 ≤ 1114111) := by
  unfold okN mayN enc numN
  rw [if_neg (by omega), if_neg (by omega), if_neg (by omega), Bool.eq_iff_iff]
  simp only [Bool.and_eq_true, Bool.or_eq_true, decide_eq_true_eq, beq_iff_eq, List.take_succ_cons, List.take_zero]
  rw [show ((b0 % 8 * 64 + b1 % 64) * 64 + b2 % 64) * 64 + b3 % 64 = b0 % 8 * 262144 + b1 % 64 * 4096 + b2 % 64 * 64 + b3 % 64 by omega]
  generalize hr : b0 % 8 * 262144 + b1 % 64 * 4096 + b2 % 64 * 64 + b3 % 64 = r
  constructor
  · rintro ⟨_, h⟩
    split at h
    · cases h
    split at h
    · cases h
    split at h
    · cases h
    · simp only [List.cons.injEq, and_true] at h
      omega
  · intro h
    refine ⟨by omega, ?_⟩
    rw [if_neg (by omega), if_neg (by omega), if_neg (by omega)]
    simp only [List.cons.injEq, and_true]
    omega
/-- The model's decoding, by which so many bytes are a sign. -/
def firstOk (m b0 b1 b2 b3 : Nat) : Nat × Nat × Bool :=
  if okN 1 b0 b1 b2 b3 = true then (numN 1 b0 b1 b2 b3, 1, true)
  else if 2 ≤ m ∧ okN 2 b0 b1 b2 b3 = true then (numN 2 b0 b1 b2 b3, 2, true)
  else if 3 ≤ m ∧ okN 3 b0 b1 b2 b3 = true then (numN 3 b0 b1 b2 b3, 3, true)
  else if 4 ≤ m ∧ okN 4 b0 b1 b2 b3 = true then (numN 4 b0 b1 b2 b3, 4, true)
  else (65533, 1, false)
theorem first_decode {m b0 b1 b2 b3 : Nat} (h0 : b0 < 256) (h1 : b1 < 256) (h2 : b2 < 256) (h3 : b3 < 256) :
    firstOk m b0 b1 b2 b3 = ((Lib.decodeN m b0 b1 b2 b3).1, (Lib.decodeN m b0 b1 b2 b3).2, whole (0, Lib.decodeN m b0 b1 b2 b3)) := by
  unfold firstOk
  rw [ok1 b1 b2 b3 h0, ok2 b2 b3 h0 h1, ok3 b3 h0 h1 h2, ok4 h0 h1 h2 h3]
  simp only [decide_eq_true_eq]
  have n1 : numN 1 b0 b1 b2 b3 = b0 := rfl
  have n2 : numN 2 b0 b1 b2 b3 = b0 % 32 * 64 + b1 % 64 := rfl
  have n3 : numN 3 b0 b1 b2 b3 = b0 % 16 * 4096 + b1 % 64 * 64 + b2 % 64 := by unfold numN; rw [if_neg (by omega), if_neg (by omega), if_pos rfl]; omega
  have n4 : numN 4 b0 b1 b2 b3 = b0 % 8 * 262144 + b1 % 64 * 4096 + b2 % 64 * 64 + b3 % 64 := by unfold numN; rw [if_neg (by omega), if_neg (by omega), if_neg (by omega)]; omega
  rw [n1, n2, n3, n4]
  unfold Lib.decodeN
  by_cases c1 : b0 < 128
  · rw [if_pos c1, if_pos c1]
    have : (b0 == 65533) = false := by rw [beq_eq_false_iff_ne]; omega
    simp [whole, this]
  rw [if_neg c1, if_neg c1]
  by_cases c2 : b0 / 32 = 6 ∧ (1 < m ∧ b1 / 64 = 2)
  · rw [if_pos c2]
    by_cases d2 : b0 % 32 * 64 + b1 % 64 ≥ 128
    · rw [if_pos d2, if_pos (by omega)]
      simp [whole]
    · rw [if_neg d2, if_neg (by omega), if_neg (by omega), if_neg (by omega)]
      rfl
  rw [if_neg c2, if_neg (by omega)]
  by_cases c3 : b0 / 16 = 14 ∧ (1 < m ∧ b1 / 64 = 2) ∧ (2 < m ∧ b2 / 64 = 2)
  · rw [if_pos c3]
    by_cases d3 : b0 % 16 * 4096 + b1 % 64 * 64 + b2 % 64 ≥ 2048 ∧ (b0 % 16 * 4096 + b1 % 64 * 64 + b2 % 64 < 55296 ∨ (57344 ≤ b0 % 16 * 4096 + b1 % 64 * 64 + b2 % 64 ∧ b0 % 16 * 4096 + b1 % 64 * 64 + b2 % 64 ≤ 1114111))
    · rw [if_pos d3, if_pos (by omega)]
      simp [whole]
    · rw [if_neg d3, if_neg (by omega), if_neg (by omega)]
      rfl
  rw [if_neg c3, if_neg (by omega)]
  by_cases c4 : b0 / 8 = 30 ∧ (1 < m ∧ b1 / 64 = 2) ∧ (2 < m ∧ b2 / 64 = 2) ∧ (3 < m ∧ b3 / 64 = 2)
  · rw [if_pos c4]
    by_cases d4 : b0 % 8 * 262144 + b1 % 64 * 4096 + b2 % 64 * 64 + b3 % 64 ≥ 65536 ∧ (b0 % 8 * 262144 + b1 % 64 * 4096 + b2 % 64 * 64 + b3 % 64 < 55296 ∨ (57344 ≤ b0 % 8 * 262144 + b1 % 64 * 4096 + b2 % 64 * 64 + b3 % 64 ∧ b0 % 8 * 262144 + b1 % 64 * 4096 + b2 % 64 * 64 + b3 % 64 ≤ 1114111))
    · rw [if_pos d4, if_pos (by omega)]
      simp [whole]
    · rw [if_neg d4, if_neg (by omega)]
      rfl
  rw [if_neg c4, if_neg (by omega)]
  rfl
theorem may_eq (r : Nat) : bureauref02_May.f (r : Int) = some (mayN r) := by
  unfold bureauref02_May.f mayN
  rw [if_pos (Int.natCast_nonneg r)]
  by_cases h1 : r ≤ 1114111
  · rw [if_pos (by omega)]
    by_cases h2 : r < 55296
    · rw [if_pos (by omega)]
      simp [h1, h2]
    · rw [if_neg (by omega)]
      congr 1
      rw [Bool.eq_iff_iff]
      simp only [decide_eq_true_eq, Bool.and_eq_true, Bool.or_eq_true]
      omega
  · rw [if_neg (by omega)]
    simp [h1]
theorem lowK (K : Int) (k x : Nat) (hK : K = (k : Int)) (h : k + x < 256) : UInt8.ofNat (wrap64 (K + (x : Int)) % 256).toNat = UInt8.ofNat (k + x) := by
  congr 1
  unfold wrap64
  omega
theorem lowA (x : Nat) (h : x < 256) : UInt8.ofNat ((x : Int) % 256).toNat = UInt8.ofNat x := by
  congr 1
  omega
theorem l2 {a b a' b' : UInt8} (h1 : a = a') (h2 : b = b') : [a, b] = [a', b'] := by rw [h1, h2]
theorem l3 {a b c a' b' c' : UInt8} (h1 : a = a') (h2 : b = b') (h3 : c = c') : [a, b, c] = [a', b', c'] := by rw [h1, h2, h3]
theorem l4 {a b c d a' b' c' d' : UInt8} (h1 : a = a') (h2 : b = b') (h3 : c = c') (h4 : d = d') : [a, b, c, d] = [a', b', c', d'] := by rw [h1, h2, h3, h4]
theorem bytes_eq {r : Nat} (h : r ≤ 1114111) : bureauref02_Bytes.f (r : Int) = some ⟨((enc r).map UInt8.ofNat).toArray⟩ := by
  have e64 : Int.tdiv (r : Int) 64 = ((r / 64 : Nat) : Int) := rfl
  have e4096 : Int.tdiv (r : Int) 4096 = ((r / 4096 : Nat) : Int) := rfl
  have e262144 : Int.tdiv (r : Int) 262144 = ((r / 262144 : Nat) : Int) := rfl
  have m64 : Int.tmod (r : Int) 64 = ((r % 64 : Nat) : Int) := rfl
  have w1 := wrapN (r / 64) (by omega)
  have w2 := wrapN (r / 4096) (by omega)
  have w3 := wrapN (r / 262144) (by omega)
  have m1 : Int.tmod ((r / 64 : Nat) : Int) 64 = ((r / 64 % 64 : Nat) : Int) := rfl
  have m2 : Int.tmod ((r / 4096 : Nat) : Int) 64 = ((r / 4096 % 64 : Nat) : Int) := rfl
  unfold bureauref02_Bytes.f enc
  rw [e64, e4096, e262144, m64, w1, w2, w3, m1, m2]
  clear e64 e4096 e262144 m64 w1 w2 w3 m1 m2
  by_cases h1 : r < 128
  · rw [if_pos (by omega), if_pos h1]
    simp only [strOfNums, List.map_cons, List.map_nil, lowA r (by omega)]
  rw [if_neg (by omega), if_neg h1]
  by_cases h2 : r < 2048
  · rw [if_pos (by omega), if_pos h2]
    simp only [strOfNums, List.map_cons, List.map_nil]
    exact congrArg (fun l : List UInt8 => some (⟨l.toArray⟩ : ByteArray)) (l2 (lowK 192 192 (r / 64) rfl (by omega)) (lowK 128 128 (r % 64) rfl (by omega)))
  rw [if_neg (by omega), if_neg h2]
  by_cases h3 : r < 65536
  · rw [if_pos (by omega), if_pos h3]
    simp only [strOfNums, List.map_cons, List.map_nil]
    exact congrArg (fun l : List UInt8 => some (⟨l.toArray⟩ : ByteArray)) (l3 (lowK 224 224 (r / 4096) rfl (by omega)) (lowK 128 128 (r / 64 % 64) rfl (by omega)) (lowK 128 128 (r % 64) rfl (by omega)))
  · rw [if_neg (by omega), if_neg h3]
    simp only [strOfNums, List.map_cons, List.map_nil]
    exact congrArg (fun l : List UInt8 => some (⟨l.toArray⟩ : ByteArray)) (l4 (lowK 240 240 (r / 262144) rfl (by omega)) (lowK 128 128 (r / 4096 % 64) rfl (by omega)) (lowK 128 128 (r / 64 % 64) rfl (by omega)) (lowK 128 128 (r % 64) rfl (by omega)))
theorem num_step (k : Nat) (x : ByteArray) (a j : Nat) (hj : j < x.size) (ha : a < 1000000) (hs : x.size < 100) :
    bureauref02_number.l0 (k + 1) x (a : Int) (j : Int) = bureauref02_number.l0 k x ((a * 64 + gb x j % 64 : Nat) : Int) ((j + 1 : Nat) : Int) := by
  have hb := gb_lt x j
  rw [bureauref02_number.l0, if_pos (by omega), if_pos (by omega), bt_gb x j hj, wrapN (gb x j) (by omega)]
  have e : Int.tmod ((gb x j : Nat) : Int) 64 = ((gb x j % 64 : Nat) : Int) := rfl
  rw [e]
  congr 1
  · unfold wrap64
    omega
  · unfold wrap64
    omega
theorem num_end (k : Nat) (x : ByteArray) (a : Int) : bureauref02_number.l0 (k + 1) x a (x.size : Int) = some a := by
  rw [bureauref02_number.l0, if_neg (by omega)]
theorem number_eq (k : Nat) (x : ByteArray) (n : Nat) (hn : x.size = n) (h1 : 1 ≤ n) (h4 : n ≤ 4) :
    bureauref02_number.f (k + 6) x = some ((numN n (gb x 0) (gb x 1) (gb x 2) (gb x 3) : Nat) : Int) := by
  have h0 := gb_lt x 0
  have e0 : wrap64 (bt x 0) = ((gb x 0 : Nat) : Int) := by rw [show (0 : Int) = ((0 : Nat) : Int) from rfl, bt_gb x 0 (by omega), wrapN _ (by omega)]
  unfold bureauref02_number.f
  rw [if_pos (by omega), e0]
  have e32 : Int.tmod ((gb x 0 : Nat) : Int) 32 = ((gb x 0 % 32 : Nat) : Int) := rfl
  have e16 : Int.tmod ((gb x 0 : Nat) : Int) 16 = ((gb x 0 % 16 : Nat) : Int) := rfl
  have e8 : Int.tmod ((gb x 0 : Nat) : Int) 8 = ((gb x 0 % 8 : Nat) : Int) := rfl
  rw [e32, e16, e8]
  have e1 : (1 : Int) = ((1 : Nat) : Int) := rfl
  rcases (by omega : n = 1 ∨ n = 2 ∨ n = 3 ∨ n = 4) with hc | hc | hc | hc
  · rw [if_neg (by omega), if_neg (by omega), if_neg (by omega), bureauref02_number.j0]
    have := num_end (k + 4) x ((gb x 0 : Nat) : Int)
    rw [hn, hc] at this
    rw [e1, this, hc]
    rfl
  · rw [if_pos (by omega), bureauref02_number.j0, e1, num_step _ x _ 1 (by omega) (by omega) (by omega)]
    have := num_end (k + 3) x ((gb x 0 % 32 * 64 + gb x 1 % 64 : Nat) : Int)
    rw [hn, hc] at this
    rw [this, hc]
    rfl
  · rw [if_neg (by omega), if_pos (by omega), bureauref02_number.j0, e1, num_step _ x _ 1 (by omega) (by omega) (by omega), num_step _ x _ 2 (by omega) (by omega) (by omega)]
    have := num_end (k + 2) x (((gb x 0 % 16 * 64 + gb x 1 % 64) * 64 + gb x 2 % 64 : Nat) : Int)
    rw [hn, hc] at this
    rw [this, hc]
    rfl
  · rw [if_neg (by omega), if_neg (by omega), if_pos (by omega), bureauref02_number.j0, e1, num_step _ x _ 1 (by omega) (by omega) (by omega), num_step _ x _ 2 (by omega) (by omega) (by omega), num_step _ x _ 3 (by omega) (by omega) (by omega)]
    have := num_end (k + 1) x ((((gb x 0 % 8 * 64 + gb x 1 % 64) * 64 + gb x 2 % 64) * 64 + gb x 3 % 64 : Nat) : Int)
    rw [hn, hc] at this
    rw [this, hc]
    rfl
/-! 'one': the sign at a place. -/
theorem list_eq_gb {s : ByteArray} {i n r : Nat} (hn : i + n ≤ s.size) (h1 : 1 ≤ n) (h4 : n ≤ 4) (hr : r ≤ 1114111) :
    ((⟨((enc r).map UInt8.ofNat).toArray⟩ : ByteArray).toList = (s.extract i (i + n)).toList) ↔ enc r = [gb s i, gb s (i + 1), gb s (i + 2), gb s (i + 3)].take n := by
  rw [ByteArray.toList_eq, ByteArray.toList_eq, list_bytes (s.extract i (i + n)), size_ext s i n hn]
  have hm : (List.range n).map (fun j => (s.extract i (i + n)).get! j) = ([gb s i, gb s (i + 1), gb s (i + 2), gb s (i + 3)].take n).map UInt8.ofNat := by
    rw [List.map_congr_left (g := fun j => s.get! (i + j)) (fun j hj => get_ext s i n j hn (List.mem_range.1 hj))]
    have g0 (j : Nat) : UInt8.ofNat (gb s j) = s.get! j := by unfold gb; exact UInt8.ofNat_toNat
    rcases (by omega : n = 1 ∨ n = 2 ∨ n = 3 ∨ n = 4) with rfl | rfl | rfl | rfl <;> simp [List.range_succ, g0]
  rw [hm]
  have inj : ∀ (x y : List Nat), (∀ a ∈ x, a < 256) → (∀ a ∈ y, a < 256) → x.map UInt8.ofNat = y.map UInt8.ofNat → x = y := by
    intro x
    induction x with
    | nil => intro y _ _ h; cases y with | nil => rfl | cons a y => cases h
    | cons a x ih =>
      intro y hx hy h
      cases y with
      | nil => cases h
      | cons b y =>
        simp only [List.map_cons, List.cons.injEq] at h
        have hab := congrArg UInt8.toNat h.1
        rw [UInt8.toNat_ofNat', UInt8.toNat_ofNat'] at hab
        have ha := hx a (by simp)
        have hb := hy b (by simp)
        rw [ih y (fun a ha => hx a (by simp [ha])) (fun a ha => hy a (by simp [ha])) h.2]
        congr 1
        omega
  constructor
  · intro h
    refine inj _ _ (enc_lt hr) (fun a ha => ?_) h
    have := List.mem_of_mem_take ha
    simp only [List.mem_cons, List.not_mem_nil, or_false] at this
    have b0 := gb_lt s i
    have b1 := gb_lt s (i + 1)
    have b2 := gb_lt s (i + 2)
    have b3 := gb_lt s (i + 3)
    omega
  · intro h
    rw [h]
theorem one_step (k : Nat) (s : ByteArray) (i n : Nat) (hs : s.size < 1000000000) (h1 : 1 ≤ n) (h4 : n ≤ 4) (hn : i + n ≤ s.size) :
    bureauref02_one.l0 (k + 12) s (i : Int) (n : Int) =
      if okN n (gb s i) (gb s (i + 1)) (gb s (i + 2)) (gb s (i + 3)) = true then some ((i : Int), (n : Int), ((numN n (gb s i) (gb s (i + 1)) (gb s (i + 2)) (gb s (i + 3)) : Nat) : Int), true) else bureauref02_one.l0 (k + 10) s (i : Int) ((n + 1 : Nat) : Int) := by
  have hw : wrap64 ((s.size : Int) - (i : Int)) = (s.size : Int) - (i : Int) := wrapZ _ (by omega) (by omega)
  have hw2 : wrap64 ((i : Int) + (n : Int)) = ((i + n : Nat) : Int) := by rw [wrapZ _ (by omega) (by omega)]; omega
  have hw3 : wrap64 ((n : Int) + 1) = ((n + 1 : Nat) : Int) := by rw [wrapZ _ (by omega) (by omega)]; omega
  have c4 : (n : Int) ≤ 4 := by omega
  have cd : decide ((n : Int) ≤ (s.size : Int) - (i : Int)) = true := decide_eq_true (by omega)
  have ci : (0 : Int) ≤ (i : Int) := by omega
  have cn : (i : Int) ≤ ((i + n : Nat) : Int) := by omega
  have cs : ((i + n : Nat) : Int) ≤ (s.size : Int) := by omega
  rw [bureauref02_one.l0, if_pos c4, hw, cd, bureauref02_one.j1, if_pos rfl, if_pos ci, hw2, if_pos cn, if_pos cs, hw3, Int.toNat_natCast, Int.toNat_natCast]
  clear hw hw2 hw3 c4 cd ci cn cs
  have hx := size_ext s i n hn
  have hlt0 := gb_lt (s.extract i (i + n)) 0
  rw [number_eq (k + 4) (s.extract i (i + n)) n hx h1 h4, Option.bind_some]
  have hg (j : Nat) (hj : j < n) : gb (s.extract i (i + n)) j = gb s (i + j) := by unfold gb; rw [get_ext s i n j hn hj]
  have hg0 : gb (s.extract i (i + n)) 0 = gb s i := hg 0 (by omega)
  have hnum : numN n (gb (s.extract i (i + n)) 0) (gb (s.extract i (i + n)) 1) (gb (s.extract i (i + n)) 2) (gb (s.extract i (i + n)) 3) = numN n (gb s i) (gb s (i + 1)) (gb s (i + 2)) (gb s (i + 3)) := by
    rcases (by omega : n = 1 ∨ n = 2 ∨ n = 3 ∨ n = 4) with rfl | rfl | rfl | rfl
    · rw [num1, num1, hg0]
    · rw [num2, num2, hg0, hg 1 (by omega)]
    · rw [num3, num3, hg0, hg 1 (by omega), hg 2 (by omega)]
    · rw [num4, num4, hg0, hg 1 (by omega), hg 2 (by omega), hg 3 (by omega)]
  rw [hnum]
  generalize hr : numN n (gb s i) (gb s (i + 1)) (gb s (i + 2)) (gb s (i + 3)) = r
  rw [may_eq, Option.bind_some]
  unfold okN
  rw [hr]
  cases hm : mayN r with
  | false => simp
  | true =>
    have hr2 : r ≤ 1114111 := by simp [mayN] at hm; omega
    rw [if_pos rfl, bytes_eq hr2, Option.bind_some]
    have hl := list_eq_gb (r := r) hn h1 h4 hr2
    by_cases he : enc r = [gb s i, gb s (i + 1), gb s (i + 2), gb s (i + 3)].take n
    · rw [if_pos (hl.2 he), if_pos (by simp [he])]
    · rw [if_neg (fun h => he (hl.1 h)), if_neg (by simp [he])]
theorem one_last (k : Nat) (s : ByteArray) (i n : Nat) (hs : s.size < 1000000000) (hi : i < s.size) (hn : 4 < n ∨ s.size < i + n) :
    bureauref02_one.l0 (k + 2) s (i : Int) (n : Int) = some ((i : Int), 1, 65533, false) := by
  have hw : wrap64 ((s.size : Int) - (i : Int)) = (s.size : Int) - (i : Int) := wrapZ _ (by omega) (by omega)
  rw [bureauref02_one.l0]
  by_cases h4 : n ≤ 4
  · rw [if_pos (by omega), hw, decide_eq_false (by omega), bureauref02_one.j1, if_neg (by decide)]
  · rw [if_neg (by omega), bureauref02_one.j1, if_neg (by decide)]
theorem one_eq (k : Nat) (s : ByteArray) (i : Nat) (hs : s.size < 1000000000) (hi : i < s.size) :
    bureauref02_one.f (k + 20) s (i : Int) = some ((i : Int), (((Utf8.decode s i).2 : Nat) : Int), (((Utf8.decode s i).1 : Nat) : Int), whole (0, Utf8.decode s i)) := by
  have b0 := gb_lt s i
  have b1 := gb_lt s (i + 1)
  have b2 := gb_lt s (i + 2)
  have b3 := gb_lt s (i + 3)
  have hd : Utf8.decode s i = Lib.decodeN (s.size - i) (gb s i) (gb s (i + 1)) (gb s (i + 2)) (gb s (i + 3)) := Lib.decode_at s i
  have hf := first_decode (m := s.size - i) b0 b1 b2 b3
  rw [← hd] at hf
  have h1 := congrArg (fun x : Nat × Nat × Bool => x.1) hf
  have h2 := congrArg (fun x : Nat × Nat × Bool => x.2.1) hf
  have h3 := congrArg (fun x : Nat × Nat × Bool => x.2.2) hf
  simp only at h1 h2 h3
  rw [← h1, ← h2, ← h3]
  clear h1 h2 h3 hf hd
  unfold bureauref02_one.f firstOk
  rw [show (1 : Int) = ((1 : Nat) : Int) from rfl, one_step (k + 8) s i 1 hs (by omega) (by omega) (by omega)]
  split
  · rfl
  by_cases m2 : i + 2 ≤ s.size
  · rw [one_step (k + 6) s i 2 hs (by omega) (by omega) m2]
    split
    · rw [if_pos ⟨by omega, by assumption⟩]
    rw [if_neg (fun h => by rename_i h' ; exact h' h.2)]
    by_cases m3 : i + 3 ≤ s.size
    · rw [one_step (k + 4) s i 3 hs (by omega) (by omega) m3]
      split
      · rw [if_pos ⟨by omega, by assumption⟩]
      rw [if_neg (fun h => by rename_i h' ; exact h' h.2)]
      by_cases m4 : i + 4 ≤ s.size
      · rw [one_step (k + 2) s i 4 hs (by omega) (by omega) m4]
        split
        · rw [if_pos ⟨by omega, by assumption⟩]
        rw [if_neg (fun h => by rename_i h' ; exact h' h.2), one_last (k + 10) s i 5 hs hi (by omega)]
        rfl
      · rw [one_last (k + 12) s i 4 hs hi (by omega), if_neg (by omega)]
        rfl
    · rw [one_last (k + 14) s i 3 hs hi (by omega), if_neg (by omega), if_neg (by omega)]
      rfl
  · rw [one_last (k + 16) s i 2 hs hi (by omega), if_neg (by omega), if_neg (by omega), if_neg (by omega)]
    rfl
/-- A sign, as the document has it. -/
def sig (x : Nat × Nat × Nat) : S63 := ⟨(x.1 : Int), (x.2.2 : Int), (x.2.1 : Int), whole x⟩
theorem whole_at (i j : Nat) (d : Nat × Nat) : whole (i, d) = whole (j, d) := rfl
theorem signs_loop (s : ByteArray) (hs : s.size < 1000000) : ∀ (b k i : Nat) (acc : List S63), s.size ≤ i + b → i ≤ s.size → acc.length ≤ i →
    bureauref02_Signs.l0 (b + k + 22) s acc (i : Int) = some (acc ++ (scan s b i).map sig) := by
  intro b
  induction b with
  | zero =>
    intro k i acc h hi ha
    rw [show (0 + k + 22 : Nat) = (k + 21) + 1 by omega, bureauref02_Signs.l0, if_neg (by omega)]
    simp [scan]
  | succ b ih =>
    intro k i acc h hi ha
    rw [show (b + 1 + k + 22 : Nat) = (b + k + 22) + 1 by omega, bureauref02_Signs.l0]
    by_cases hc : i < s.size
    · have hw := width_pos s i hc
      have hf := width_fits s i hc
      have h4 := width_le4 s i
      rw [if_pos (by omega), show b + k + 22 = (b + k + 2) + 20 by omega, one_eq (b + k + 2) s i (by omega) hc, Option.bind_some]
      have hlen : acc.length < 4398046511104 := by omega
      rw [if_pos hlen]
      have hw64 : wrap64 ((i : Int) + (((Utf8.decode s i).2 : Nat) : Int)) = ((i + (Utf8.decode s i).2 : Nat) : Int) := by rw [wrapZ _ (by omega) (by omega)]; omega
      simp only []
      rw [hw64, show b + k + 2 + 20 = b + k + 22 by omega, ih k _ _ (by omega) hf (by simp; omega), scan, if_pos hc, List.append_assoc]
      rfl
    · rw [if_neg (by omega), scan, if_neg hc]
      simp
theorem signs_eq (s : ByteArray) (hs : s.size < 1000000) (k : Nat) : bureauref02_Signs.f (s.size + k + 22) s = some ((scan s s.size 0).map sig) := by
  unfold bureauref02_Signs.f
  have := signs_loop s hs s.size k 0 [] (by omega) (by omega) (by simp)
  rw [show (0 : Int) = ((0 : Nat) : Int) from rfl, this]
  rfl
theorem rd_T63_nat (xs : List S63) (i : Nat) (h : i < xs.length) : rd_T63 xs (i : Int) = xs[i] := by
  unfold rd_T63
  rw [Int.toNat_natCast, List.getD_eq_getElem?_getD, List.getElem?_eq_getElem h]
  rfl
theorem which_loop {s : ByteArray} {n j : Nat} (h : Signs s n) (hs : s.size < 1000000) {a : Int} (ha : At s n a j) (xs : List S63) (hx : xs = (List.range n).map (fun t => sig (st s t, Utf8.decode s (st s t)))) :
    ∀ (c k i : Nat), j ≤ i + c → i ≤ j → bureauref02_which.l0 (c + k + 1) xs a (i : Int) = some (j : Int) := by
  have hlen : xs.length = n := by rw [hx]; simp
  have hn := h.le
  obtain ⟨hj, h1, h2, h3⟩ := ha
  have hat (i : Nat) (hi : i < n) : rd_T63 xs (i : Int) = sig (st s i, Utf8.decode s (st s i)) := by
    rw [rd_T63_nat xs i (by omega)]
    subst hx
    simp
  have hsum (i : Nat) (hi : i < n) : wrap64 ((sig (st s i, Utf8.decode s (st s i))).f0 + (sig (st s i, Utf8.decode s (st s i))).f1) = ((st s (i + 1) : Nat) : Int) := by
    have := h.le_size (show i + 1 ≤ n by omega)
    simp only [sig, st] at this ⊢
    rw [wrapZ _ (by omega) (by omega)]
    omega
  have stop (k : Nat) : bureauref02_which.l0 (k + 1) xs a (j : Int) = some (j : Int) := by
    rw [bureauref02_which.l0]
    by_cases hc : j < n
    · rw [if_pos (by omega), if_pos (by omega), hat j hc, hsum j hc, if_pos]
      have := h.step hc
      by_cases h0 : a < 0
      · omega
      · by_cases hz : a < (s.size : Int)
        · have := h2 (by omega) hz
          omega
        · have := h3 (by omega)
          omega
    · rw [if_neg (by omega), hlen]
      congr 1
      omega
  intro c
  induction c with
  | zero =>
    intro k i hc hi
    obtain rfl : i = j := by omega
    exact stop _
  | succ c ih =>
    intro k i hc hi
    by_cases he : i = j
    · subst he
      exact stop _
    · rw [show c + 1 + k + 1 = (c + k + 1) + 1 by omega, bureauref02_which.l0, if_pos (by omega), if_pos (by omega), hat i (by omega), hsum i (by omega), if_neg]
      · have hw : wrap64 ((i : Int) + 1) = ((i + 1 : Nat) : Int) := by rw [wrapZ _ (by omega) (by omega)]; omega
        rw [hw]
        exact ih k (i + 1) (by omega) (by omega)
      · have hm := st_mono s (show i + 1 ≤ j by omega)
        have := h.le_size hj
        by_cases h0 : a < 0
        · have := h1 h0
          omega
        · by_cases hz : a < (s.size : Int)
          · have := h2 (by omega) hz
            omega
          · omega
theorem map_sig {s : ByteArray} {n : Nat} (h : Signs s n) : (scan s s.size 0).map sig = (List.range n).map (fun t => sig (st s t, Utf8.decode s (st s t))) := by
  rw [h.eq, List.map_map]
  rfl
theorem which_eq {s : ByteArray} {n j : Nat} (h : Signs s n) (hs : s.size < 1000000) {a : Int} (ha : At s n a j) (k : Nat) : bureauref02_which.f (s.size + k + 1) ((scan s s.size 0).map sig) a = some (j : Int) := by
  have hn := h.le
  have hj := ha.1
  unfold bureauref02_which.f
  rw [map_sig h]
  exact which_loop h hs ha _ rfl s.size k 0 (by omega) (by omega)
theorem begins_eq {s : ByteArray} {n i : Nat} (h : Signs s n) (hs : s.size < 1000000) : bureauref02_begins.f s ((scan s s.size 0).map sig) (i : Int) = some (if i < n then ((st s i : Nat) : Int) else (s.size : Int)) := by
  unfold bureauref02_begins.f
  have hlen : ((scan s s.size 0).map sig).length = n := by rw [map_sig h]; simp
  rw [if_pos (by omega), hlen]
  by_cases hc : i < n
  · rw [if_pos (by omega), if_pos (by omega), if_pos hc, rd_T63_nat _ i (by omega)]
    simp only [map_sig h, List.getElem_map, List.getElem_range]
    rfl
  · rw [if_neg (by omega), if_neg hc]
theorem r02align_eq (s : ByteArray) (hs : s.size < 1000000) (a : Int) (k : Nat) : bureauref02_Align.f (s.size + k + 22) s a = some (alignZ s a : Int) := by
  obtain ⟨n, h⟩ := signs_ex s
  obtain ⟨j, ha⟩ := At.ex h a
  have hj := ha.1
  unfold bureauref02_Align.f
  have hW : bureauref02_which.f (s.size + k + 22) ((scan s s.size 0).map sig) a = some (j : Int) := which_eq h hs ha (k + 21)
  rw [signs_eq s hs k, Option.bind_some, hW, Option.bind_some, begins_eq h hs, Option.bind_some, alignZ_eq h ha]
  by_cases hc : j < n
  · rw [if_pos hc]
  · rw [if_neg hc, show j = n by omega, h.last]
theorem class_eq (k : Nat) (r : Int) : glyph_Class.f (k + 4) r = some (classZ r) := by
  unfold classZ glyph_Class.f
  have j3 (k : Nat) (x : Bool) : glyph_Class.j3 (k + 1) r x = some (if x = true then 1 else if 128 ≤ r ∧ r ≤ 1114111 ∧ r ≠ 65533 then 1 else 2) := by
    rw [glyph_Class.j3]
    by_cases hx : x = true
    · rw [if_pos hx, if_pos hx]
    rw [if_neg hx, if_neg hx]
    by_cases h1 : r ≥ 128
    · rw [if_pos h1]
      by_cases h2 : r ≤ 1114111
      · rw [if_pos h2]
        by_cases h3 : r = 65533
        · rw [if_pos h3, if_neg (by omega)]
        · rw [if_neg h3, if_pos ⟨h1, h2, h3⟩]
      · rw [if_neg h2, if_neg (by omega)]
    · rw [if_neg h1, if_neg (by omega)]
  have j2 (k : Nat) (x : Bool) : glyph_Class.j2 (k + 2) r x = some (if x = true ∨ (65 ≤ r ∧ r ≤ 90) ∨ r = 95 then 1 else if 128 ≤ r ∧ r ≤ 1114111 ∧ r ≠ 65533 then 1 else 2) := by
    rw [glyph_Class.j2]
    by_cases hx : x = true
    · rw [if_pos hx, j3, if_pos hx, if_pos (Or.inl hx)]
    rw [if_neg hx]
    by_cases h1 : r ≥ 65
    · rw [if_pos h1]
      by_cases h2 : r ≤ 90
      · rw [if_pos h2, decide_eq_true h2, j3, if_pos rfl, if_pos (Or.inr (Or.inl ⟨h1, h2⟩))]
      · rw [if_neg h2, j3]
        by_cases h3 : r = 95
        · rw [if_pos (by simp [h3]), if_pos (Or.inr (Or.inr h3))]
        · rw [if_neg (by simp [h3]), if_neg (c := x = true ∨ _) (by rintro (h | h | h); exact hx h; omega; omega)]
    · rw [if_neg h1, j3]
      rw [if_neg (by simp; omega), if_neg (c := x = true ∨ _) (by rintro (h | h | h); exact hx h; omega; omega)]
  have j1 (k : Nat) (x : Bool) : glyph_Class.j1 (k + 3) r x = some (if x = true ∨ (97 ≤ r ∧ r ≤ 122) ∨ (65 ≤ r ∧ r ≤ 90) ∨ r = 95 then 1 else if 128 ≤ r ∧ r ≤ 1114111 ∧ r ≠ 65533 then 1 else 2) := by
    rw [glyph_Class.j1]
    by_cases hx : x = true
    · rw [if_pos hx, j3, if_pos hx, if_pos (Or.inl hx)]
    rw [if_neg hx]
    by_cases h1 : r ≥ 97
    · rw [if_pos h1, j2]
      by_cases h2 : r ≤ 122
      · rw [if_pos (Or.inl (decide_eq_true h2)), if_pos (Or.inr (Or.inl ⟨h1, h2⟩))]
      · rw [if_neg (by rintro (h | h | h); exact h2 (of_decide_eq_true h); omega; omega), if_neg (c := x = true ∨ _) (by rintro (h | h | h | h); exact hx h; omega; omega; omega)]
    · rw [if_neg h1, j2]
      by_cases h3 : (65 ≤ r ∧ r ≤ 90) ∨ r = 95
      · rw [if_pos (Or.inr h3), if_pos (Or.inr (Or.inr h3))]
      · rw [if_neg (by rintro (h | h); cases h; exact h3 h), if_neg (c := x = true ∨ _) (by rintro (h | h | h); exact hx h; omega; exact h3 h)]
  have j0 (k : Nat) (x : Bool) : glyph_Class.j0 (k + 4) r x = some (if x = true then 0 else if r = 10 then 3 else if (48 ≤ r ∧ r ≤ 57) ∨ (97 ≤ r ∧ r ≤ 122) ∨ (65 ≤ r ∧ r ≤ 90) ∨ r = 95 then 1 else if 128 ≤ r ∧ r ≤ 1114111 ∧ r ≠ 65533 then 1 else 2) := by
    rw [glyph_Class.j0]
    by_cases hx : x = true
    · rw [if_pos hx, if_pos hx]
    rw [if_neg hx, if_neg hx]
    by_cases h10 : r = 10
    · rw [if_pos h10, if_pos h10]
    rw [if_neg h10, if_neg h10]
    by_cases h1 : r ≥ 48
    · rw [if_pos h1, j1]
      by_cases h2 : r ≤ 57
      · rw [if_pos (Or.inl (decide_eq_true h2)), if_pos (Or.inl ⟨h1, h2⟩)]
      · by_cases h3 : (97 ≤ r ∧ r ≤ 122) ∨ (65 ≤ r ∧ r ≤ 90) ∨ r = 95
        · rw [if_pos (Or.inr h3), if_pos (Or.inr h3)]
        · rw [if_neg (by rintro (h | h); exact h2 (of_decide_eq_true h); exact h3 h), if_neg (c := (48 ≤ r ∧ r ≤ 57) ∨ _) (by rintro (h | h); omega; exact h3 h)]
    · rw [if_neg h1, j1]
      rw [if_neg (by rintro (h | h | h | h); cases h; omega; omega; omega), if_neg (c := (48 ≤ r ∧ r ≤ 57) ∨ _) (by rintro (h | h | h | h); omega; omega; omega; omega)]
  by_cases h32 : r = 32
  · rw [if_pos h32, j0, if_pos rfl, if_pos (Or.inl h32)]
  · rw [if_neg h32, j0]
    by_cases h9 : r = 9
    · rw [if_pos (by simp [h9]), if_pos (Or.inr h9)]
    · rw [if_neg (by simp [h9]), if_neg (c := r = 32 ∨ _) (by rintro (h | h); exact h32 h; exact h9 h)]
theorem ext_drop (s : ByteArray) (p : Nat) : (s.extract p s.size).data.toList = s.data.toList.drop p := by
  rw [ByteArray.data_extract, Array.toList_extract, List.extract_eq_take_drop, List.take_of_length_le]
  rw [List.length_drop, size_list]
  exact Nat.le_refl _
theorem ext_take (s : ByteArray) (q : Nat) : (s.extract 0 q).data.toList = s.data.toList.take q := by
  rw [ByteArray.data_extract, Array.toList_extract, List.extract_eq_take_drop, List.drop_zero, Nat.sub_zero]
theorem strcount_eq (s : ByteArray) : strings_Count.f s (⟨#[10]⟩ : ByteArray) = some ((s.data.toList.count 10 : Nat) : Int) := rfl
theorem index_eq (s : ByteArray) (p : Nat) : strings_IndexByte.f (s.extract p s.size) 10 = some (Lib.indexByte (s.data.toList.drop p) 10) := by
  unfold strings_IndexByte.f
  rw [ext_drop]
  rfl
theorem nE_count (s : ByteArray) : nE s = s.data.toList.count 10 + 1 := eL_len _ _
theorem nE_pos (s : ByteArray) : 1 ≤ nE s := ends_pos s
theorem nE_le (s : ByteArray) : nE s ≤ s.size + 1 := ends_le s
theorem count_eq (s : ByteArray) (hs : s.size ≤ 1000000) : line_Count.f s = some (nE s : Int) := by
  unfold line_Count.f
  have := nE_le s
  rw [strcount_eq, Option.bind_some, nE_count] at *
  congr 1
  rw [wrapZ _ (by omega) (by omega)]
  omega
theorem of_eq (s : ByteArray) (a : Int) : line_Of.f s a = some (ofZ s a : Int) := by
  unfold line_Of.f
  have hm : mn (mx a 0) (s.size : Int) = min (max a 0) (s.size : Int) := by unfold mn mx; omega
  rw [hm, if_pos (by omega), if_pos (by omega), strcount_eq, Option.bind_some, ext_take]
  rfl
theorem bounds_loop (s : ByteArray) (hs : s.size ≤ 1000000) (m : Nat) (hm : m < nE s) : ∀ (c i k : Nat), i + c = m →
    line_Bounds.l0 (c + k + 1) s (bF s i : Int) (m : Int) (i : Int) = some ((bF s m : Int), (bT s m : Int), 0) := by
  have hn := nE_le s
  intro c
  induction c with
  | zero =>
    intro i k hi
    have hi : i = m := by omega
    subst hi
    have h1 := (bF_tail s i hm).1
    rw [show 0 + k + 1 = k + 1 by omega, line_Bounds.l0, if_neg (by omega), if_pos (by omega), if_pos (by omega), Int.toNat_natCast, index_eq, Option.bind_some]
    rcases bT_index s i hm with ⟨h2, h3, h4⟩ | ⟨j, h2, h3, h4, h5, h6⟩
    · rw [h2, if_pos (by decide), h4]
    · rw [h2, if_neg (by omega), wrapZ _ (by omega) (by omega), h4]
      rfl
  | succ c ih =>
    intro i k hi
    have him : i < nE s := by omega
    have h1 := (bF_tail s i him).1
    have hw : wrap64 ((i : Int) + 1) = ((i + 1 : Nat) : Int) := by rw [wrapZ _ (by omega) (by omega)]; omega
    rw [show c + 1 + k + 1 = (c + k + 1) + 1 by omega, line_Bounds.l0, if_pos (by omega), if_pos (by omega), if_pos (by omega), Int.toNat_natCast, index_eq, Option.bind_some, hw]
    rcases bT_index s i him with ⟨h2, h3, h4⟩ | ⟨j, h2, h3, h4, h5, h6⟩
    · exfalso
      unfold nE at hm
      omega
    · have e1 : wrap64 ((j : Int) + 1) = (j : Int) + 1 := wrapZ _ (by omega) (by omega)
      have e2 : wrap64 ((bF s i : Int) + ((j : Int) + 1)) = ((bF s (i + 1) : Nat) : Int) := by rw [wrapZ _ (by omega) (by omega), h6]; omega
      rw [h2, e1, e2]
      exact ih (i + 1) k (by omega)
def boundsZ (s : ByteArray) (n : Int) : Int × Int × Int := if 0 ≤ n ∧ n < (nE s : Int) then ((bF s n.toNat : Int), (bT s n.toNat : Int), 0) else (0, 0, 2)
theorem bounds_eq (s : ByteArray) (hs : s.size ≤ 1000000) (n : Int) (k : Nat) : line_Bounds.f (s.size + k + 4) s n = some (boundsZ s n) := by
  have hn := nE_le s
  unfold line_Bounds.f boundsZ
  by_cases h0 : n < 0
  · rw [if_pos h0, show s.size + k + 4 = (s.size + k + 3) + 1 from rfl, line_Bounds.j0, if_pos rfl, if_neg (by omega)]
  rw [if_neg h0, count_eq s hs, Option.bind_some, show s.size + k + 4 = (s.size + k + 3) + 1 from rfl, line_Bounds.j0]
  by_cases h1 : n ≥ (nE s : Int)
  · rw [decide_eq_true h1, if_pos rfl, if_neg (by omega)]
  · rw [decide_eq_false h1, if_neg (by decide), if_pos (by omega)]
    obtain ⟨m, rfl⟩ : ∃ m : Nat, n = (m : Int) := ⟨n.toNat, by omega⟩
    have := bounds_loop s hs m (by omega) m 0 (s.size + k + 2 - m) (by omega)
    rw [show m + (s.size + k + 2 - m) + 1 = s.size + k + 3 by omega] at this
    exact this
theorem suffix_dec (s : ByteArray) (i : Nat) (h : i < s.size) : utf8_DecodeRuneInString.f (s.extract i s.size) = some ((((Utf8.decode s i).1 : Nat) : Int), (((Utf8.decode s i).2 : Nat) : Int)) := by
  unfold utf8_DecodeRuneInString.f
  rw [suffix_decode s i h]
theorem align_loop (s : ByteArray) (a : Nat) (ha : a < s.size) (hs : s.size < 1000000) : ∀ (n b k : Nat), n + b = 4 → glyph_Align.l0 (n * 2 + k + 2) s (a : Int) (b : Int) = some ((al s a n b : Nat) : Int) := by
  intro n
  induction n with
  | zero =>
    intro b k hb
    rw [show 0 * 2 + k + 2 = (k + 1) + 1 by omega, glyph_Align.l0, if_neg (by omega), glyph_Align.j1, if_neg (by decide)]
    rfl
  | succ n ih =>
    intro b k hb
    rw [show (n + 1) * 2 + k + 2 = ((n * 2 + k + 2) + 1) + 1 by omega, glyph_Align.l0, if_pos (by omega)]
    have hal : al s a (n + 1) b = if b ≤ a then (if gb s (a - b) / 64 = 2 then al s a n (b + 1) else if b < (Utf8.decode s (a - b)).2 then a - b else a) else a := rfl
    rw [hal]
    by_cases hc : b ≤ a
    · have hd : decide ((b : Int) ≤ (a : Int)) = true := decide_eq_true (by omega)
      have hw : wrap64 ((a : Int) - (b : Int)) = ((a - b : Nat) : Int) := by rw [wrapZ _ (by omega) (by omega)]; omega
      have hw1 : wrap64 ((b : Int) + 1) = ((b + 1 : Nat) : Int) := by rw [wrapZ _ (by omega) (by omega)]; omega
      have c1 : (0 : Int) ≤ ((a - b : Nat) : Int) := by omega
      have c2 : ((a - b : Nat) : Int) < (s.size : Int) := by omega
      have c3 : ((a - b : Nat) : Int) ≤ (s.size : Int) := by omega
      rw [hd, glyph_Align.j1, if_pos rfl, hw, hw1, if_pos c1, if_pos c2, bt_gb s (a - b) (by omega)]
      unfold utf8_RuneStart.f
      rw [Ext.start_eq _ (gb_lt s _), Option.bind_some, if_pos hc]
      by_cases hg : gb s (a - b) / 64 = 2
      · rw [if_neg (by simp [hg]), if_pos hg]
        exact ih (b + 1) k (by omega)
      · rw [if_pos (by simp [hg]), if_neg hg, if_pos c3, Int.toNat_natCast, suffix_dec s (a - b) (by omega), Option.bind_some]
        simp only []
        by_cases hl : b < (Utf8.decode s (a - b)).2
        · rw [if_pos hl, if_pos (by omega)]
        · rw [if_neg hl, if_neg (by omega)]
    · have hd : decide ((b : Int) ≤ (a : Int)) = false := decide_eq_false (by omega)
      rw [hd, glyph_Align.j1, if_neg (by decide), if_neg hc]
theorem align_eq {s : ByteArray} {n j : Nat} (h : Signs s n) (hs : s.size < 1000000) {a : Int} (ha : At s n a j) (k : Nat) : glyph_Align.f (k + 10) s a = some ((st s j : Nat) : Int) := by
  obtain ⟨hj, h1, h2, h3⟩ := ha
  unfold glyph_Align.f
  by_cases c0 : a < 0
  · rw [if_pos c0, h1 c0]
    rfl
  rw [if_neg c0]
  by_cases c1 : a ≥ (s.size : Int)
  · rw [if_pos c1, h3 c1, h.last]
  rw [if_neg c1]
  obtain ⟨e1, e2, e3⟩ := h2 (by omega) (by omega)
  obtain ⟨a, rfl⟩ : ∃ a' : Nat, a = a' := ⟨a.toNat, by omega⟩
  have := align_loop s a (by omega) hs 4 0 k (by omega)
  rw [show 4 * 2 + k + 2 = k + 10 by omega] at this
  rw [show (0 : Int) = ((0 : Nat) : Int) from rfl, this, al_eq h e1 (by omega) (by omega)]
theorem alignP_eq (s : ByteArray) (hs : s.size < 1000000) (a : Int) (k : Nat) : glyph_Align.f (k + 10) s a = some (alignZ s a : Int) := by
  obtain ⟨n, h⟩ := signs_ex s
  obtain ⟨j, hj⟩ := At.ex h a
  rw [align_eq h hs hj k, alignZ_eq h hj]
theorem ofZ_lt (s : ByteArray) (a : Int) : ofZ s a < nE s := by
  rw [nE_count]
  unfold ofZ
  have := List.Sublist.count_le (10 : UInt8) (List.take_sublist (min (max a 0) (s.size : Int)).toNat s.data.toList)
  omega
theorem bF_of (s : ByteArray) : ∀ (p : Nat), p ≤ s.size → bF s ((s.data.toList.take p).count 10) ≤ p ∧ p ≤ bT s ((s.data.toList.take p).count 10) := by
  intro p
  induction p with
  | zero =>
    intro _
    rw [List.take_zero, List.count_nil]
    exact ⟨Nat.zero_le _, Nat.zero_le _⟩
  | succ p ih =>
    intro hp
    obtain ⟨h1, h2⟩ := ih (by omega)
    have hlen : p < s.data.toList.length := by rw [← size_list]; omega
    have hlt : (s.data.toList.take p).count 10 < nE s := by
      rw [nE_count]
      have := List.Sublist.count_le (10 : UInt8) (List.take_sublist p s.data.toList)
      omega
    have ht : s.data.toList.take (p + 1) = s.data.toList.take p ++ [s.data.toList[p]] := by rw [List.take_add_one, List.getElem?_eq_getElem hlen]; rfl
    have hgb : gb s p = s.data.toList[p].toNat := gb_list s p _ (List.getElem?_eq_getElem hlen)
    rw [ht, List.count_append]
    generalize hq : (s.data.toList.take p).count 10 = q at *
    by_cases hc : s.data.toList[p] = 10
    · have he : bT s q = p := by
        rcases bT_index s q hlt with ⟨h3, h4, h5⟩ | ⟨j, h3, h4, h5, h6, h7⟩
        · exfalso
          -- no line end from bF on, yet one at p
          obtain ⟨e1, e2⟩ := bF_tail s q hlt
          have hcnt := eL_len (s.data.toList.drop (bF s q)) (bF s q)
          rw [e2, List.length_drop] at hcnt
          have h0 : (s.data.toList.drop (bF s q)).count 10 = 0 := by omega
          have hmem : (10 : UInt8) ∈ s.data.toList.drop (bF s q) := by
            rw [← hc]
            have : s.data.toList[p] = (s.data.toList.drop (bF s q))[p - bF s q]'(by rw [List.length_drop]; omega) := by
              rw [List.getElem_drop]
              congr 1
              omega
            rw [this]
            exact List.getElem_mem _
          exact absurd (List.count_pos_iff.2 hmem) (by omega)
        · rcases Nat.lt_or_ge p (bT s q) with hlt2 | hge
          · exfalso
            -- p lies ahead of the first line end
            have hix := h3
            have key : ∀ (l : List UInt8) (i : Nat), Lib.indexByte l 10 = (i : Int) → ∀ t, t < i → l[t]? ≠ some 10 := by
              intro l
              induction l with
              | nil => intro i hi; exact absurd hi (by simp [Lib.indexByte])
              | cons c r ihl =>
                intro i hi t ht
                have hx : Lib.indexByte (c :: r) 10 = if (c == 10) = true then 0 else if (Lib.indexByte r 10 == -1) = true then -1 else Lib.indexByte r 10 + 1 := rfl
                rw [hx] at hi
                by_cases h10 : (c == 10) = true
                · rw [if_pos h10] at hi
                  omega
                · rw [if_neg h10] at hi
                  by_cases hm : (Lib.indexByte r 10 == -1) = true
                  · rw [if_pos hm] at hi
                    omega
                  · rw [if_neg hm] at hi
                    cases t with
                    | zero =>
                      rw [List.getElem?_cons_zero]
                      intro he
                      apply h10
                      rw [Option.some.inj he]
                      rfl
                    | succ t =>
                      rw [List.getElem?_cons_succ]
                      exact ihl (i - 1) (by omega) t (by omega)
            have := key _ _ hix (p - bF s q) (by omega)
            rw [List.getElem?_drop, show bF s q + (p - bF s q) = p by omega, List.getElem?_eq_getElem hlen, hc] at this
            exact this rfl
          · omega
      rw [hc]
      have h10 : List.count (10 : UInt8) [10] = 1 := rfl
      rw [h10]
      have hf : bF s (q + 1) = bT s q + 1 := rfl
      have hq1 : q + 1 < nE s := (bT_last s q hlt).1 (by omega)
      have hb := bT_le s (q + 1) hq1
      exact ⟨by omega, by omega⟩
    · have h0 : List.count (10 : UInt8) [s.data.toList[p]] = 0 := by
        rw [List.count_cons_of_ne hc]
        rfl
      rw [h0, Nat.add_zero]
      refine ⟨by omega, ?_⟩
      rcases Nat.lt_or_ge p (bT s q) with hlt2 | hge
      · omega
      · exfalso
        have he : bT s q = p := by omega
        have := (bT_gb s q hlt).1 (by omega)
        rw [he, hgb] at this
        apply hc
        exact UInt8.toNat_inj.1 this
theorem ofZ_in (s : ByteArray) (p : Nat) (h : p ≤ s.size) : bF s (ofZ s (p : Int)) ≤ p ∧ p ≤ bT s (ofZ s (p : Int)) := by
  have := bF_of s p h
  have e : (min (max (p : Int) 0) (s.size : Int)).toNat = p := by omega
  unfold ofZ
  rw [e]
  exact this
/-! ### brackets -/
def D (g : Nat → Nat) (o c x : Nat) : Nat → Int
  | 0 => 0
  | n + 1 => D g o c x n + (if g (x + n) = o then 1 else if g (x + n) = c then -1 else 0)
theorem D_add (g : Nat → Nat) (o c x m : Nat) : ∀ n, D g o c x (m + n) = D g o c x m + D g o c (x + m) n
  | 0 => by simp [D]
  | n + 1 => by
    rw [← Nat.add_assoc, D, D_add g o c x m n, D, Nat.add_assoc x m n, Int.add_assoc]
/-- What stands between two places is balanced. -/
def Bal (g : Nat → Nat) (o c x y : Nat) : Prop := x ≤ y ∧ (∀ n, x + n ≤ y → 0 ≤ D g o c x n) ∧ D g o c x (y - x) = 0
theorem bal_nil (g : Nat → Nat) (o c x : Nat) : Bal g o c x x := by
  refine ⟨Nat.le_refl _, fun n h => ?_, ?_⟩
  · obtain rfl : n = 0 := by omega
    simp [D]
  · rw [Nat.sub_self]; rfl
theorem bal_step {g : Nat → Nat} {o c x y : Nat} (h : Bal g o c x y) (h1 : ¬ g y = o) (h2 : ¬ g y = c) : Bal g o c x (y + 1) := by
  obtain ⟨hxy, hn, h0⟩ := h
  have e : D g o c x (y + 1 - x) = 0 := by
    rw [show y + 1 - x = (y - x) + 1 by omega, D, h0, show x + (y - x) = y by omega, if_neg h1, if_neg h2]; rfl
  refine ⟨by omega, fun n hh => ?_, e⟩
  by_cases q : x + n ≤ y
  · exact hn n q
  · obtain rfl : n = y + 1 - x := by omega
    omega
theorem bal_pair {g : Nat → Nat} {o c x p y : Nat} (hoc : o ≠ c) (h : Bal g o c x p) (h1 : g p = o) (h' : Bal g o c (p + 1) y) (h2 : g y = c) : Bal g o c x (y + 1) := by
  obtain ⟨hxp, hn, h0⟩ := h
  obtain ⟨hpy, hn', h0'⟩ := h'
  have d1 : D g o c x (p - x + 1) = 1 := by
    rw [D, h0, show x + (p - x) = p by omega, if_pos h1]; rfl
  have at' : ∀ t, D g o c x (p - x + 1 + t) = 1 + D g o c (p + 1) t := fun t => by
    rw [D_add, d1, show x + (p - x + 1) = p + 1 by omega]
  have e : D g o c x (y + 1 - x) = 0 := by
    rw [show y + 1 - x = (p - x + 1 + (y - (p + 1))) + 1 by omega, D, at', h0', show x + (p - x + 1 + (y - (p + 1))) = y by omega, if_neg (by omega), if_pos h2]; rfl
  refine ⟨by omega, fun n hh => ?_, e⟩
  by_cases q : x + n ≤ p
  · exact hn n q
  · by_cases q2 : x + n ≤ y
    · rw [show n = p - x + 1 + (n - (p - x + 1)) by omega, at']
      have := hn' (n - (p - x + 1)) (by omega)
      omega
    · obtain rfl : n = y + 1 - x := by omega
      omega
/-- The open ones at a place, the youngest first. -/
def PInv (g : Nat → Nat) (o c : Nat) : Nat → List Nat → Prop
  | _, [] => True
  | i, p :: r => p < i ∧ g p = o ∧ Bal g o c (p + 1) i ∧ PInv g o c p r
theorem pinv_len (g : Nat → Nat) (o c : Nat) : ∀ (r : List Nat) (i : Nat), PInv g o c i r → r.length ≤ i
  | [], i, _ => by simp
  | p :: r, i, h => by
    have := pinv_len g o c r p h.2.2.2
    have := h.1
    simp only [List.length_cons]
    omega
theorem pinv_step {g : Nat → Nat} {o c i : Nat} {r : List Nat} (h : PInv g o c i r) (h1 : ¬ g i = o) (h2 : ¬ g i = c) : PInv g o c (i + 1) r := by
  cases r with
  | nil => trivial
  | cons p r => exact ⟨by have := h.1; omega, h.2.1, bal_step h.2.2.1 h1 h2, h.2.2.2⟩
theorem pinv_open {g : Nat → Nat} {o c i : Nat} {r : List Nat} (h : PInv g o c i r) (h1 : g i = o) : PInv g o c (i + 1) (i :: r) := ⟨by omega, h1, bal_nil _ _ _ _, h⟩
theorem pinv_shut {g : Nat → Nat} {o c i p : Nat} {r : List Nat} (hoc : o ≠ c) (h : PInv g o c i (p :: r)) (h2 : g i = c) : PInv g o c (i + 1) r := by
  obtain ⟨ha, hb, hc, hd⟩ := h
  cases r with
  | nil => trivial
  | cons q r => exact ⟨by have := hd.1; omega, hd.2.1, bal_pair hoc hd.2.2.1 hb hc h2, hd.2.2.2⟩
def castL (r : List Nat) : List Int := r.map (fun x : Nat => (x : Int))
theorem castL_len (r : List Nat) : (castL r).length = r.length := by simp [castL]
theorem brk_loop (s : ByteArray) (hs : s.size < 1000000) (a o c : Nat) (hoc : o ≠ c) : ∀ (d i : Nat) (r : List Nat), i + d = s.size → PInv (gb s) o c i r →
    ∃ z : Int × Int × Bool, (∀ f, 2 * d + 1 ≤ f → object_brackets.l0 f s (a : Int) (o : Int) (c : Int) (castL r.reverse) (s.size : Int) (i : Int) = some z) ∧
      (z = (0, 0, false) ∨ ∃ p q : Nat, z = ((p : Int), (q : Int), true) ∧ p ≤ a ∧ a ≤ q ∧ q < s.size ∧ gb s p = o ∧ gb s q = c ∧ Bal (gb s) o c (p + 1) q)
  | 0, i, r, e, _ => by
    refine ⟨(0, 0, false), fun f hf => ?_, .inl rfl⟩
    cases f with
    | zero => omega
    | succ f => rw [object_brackets.l0, if_neg (by omega)]
  | d + 1, i, r, e, hp => by
    have hb := bt_gb s i (by omega)
    have hw : wrap64 ((i : Int) + 1) = ((i + 1 : Nat) : Int) := by rw [wrapZ _ (by omega) (by omega)]; omega
    have hlen := pinv_len _ _ _ r i hp
    have unf : ∀ f, object_brackets.l0 (f + 1) s (a : Int) (o : Int) (c : Int) (castL r.reverse) (s.size : Int) (i : Int) =
        (if gb s i = o then object_brackets.l0 f s (a : Int) (o : Int) (c : Int) (castL (i :: r).reverse) (s.size : Int) ((i + 1 : Nat) : Int)
         else if gb s i = c then object_brackets.j1 f s (a : Int) (o : Int) (c : Int) (castL r.reverse) (i : Int) (s.size : Int) (i : Int) (decide (((castL r.reverse).length : Int) > 0))
         else object_brackets.j1 f s (a : Int) (o : Int) (c : Int) (castL r.reverse) (i : Int) (s.size : Int) (i : Int) false) := fun f => by
      rw [object_brackets.l0, if_pos (by omega), if_pos (by omega), if_pos (by omega), hb, hw]
      by_cases c1 : gb s i = o
      · rw [if_pos (by omega), if_pos c1, if_pos (by rw [castL_len, List.length_reverse]; omega)]
        congr 1
        simp [castL]
      · rw [if_neg (by omega), if_neg c1]
        by_cases c2 : gb s i = c
        · rw [if_pos (by omega), if_pos c2]
        · rw [if_neg (by omega), if_neg c2]
    have jf : ∀ f, object_brackets.j1 (f + 1) s (a : Int) (o : Int) (c : Int) (castL r.reverse) (i : Int) (s.size : Int) (i : Int) false = object_brackets.l0 f s (a : Int) (o : Int) (c : Int) (castL r.reverse) (s.size : Int) ((i + 1 : Nat) : Int) := fun f => by
      rw [object_brackets.j1, if_neg (by simp), hw]
    by_cases c1 : gb s i = o
    · obtain ⟨z, hz, hq⟩ := brk_loop s hs a o c hoc d (i + 1) (i :: r) (by omega) (pinv_open hp c1)
      refine ⟨z, fun f hf => ?_, hq⟩
      cases f with
      | zero => omega
      | succ f => rw [unf, if_pos c1]; exact hz f (by omega)
    · by_cases c2 : gb s i = c
      · cases r with
        | nil =>
          obtain ⟨z, hz, hq⟩ := brk_loop s hs a o c hoc d (i + 1) [] (by omega) trivial
          refine ⟨z, fun f hf => ?_, hq⟩
          match f, hf with
          | f + 2, hf =>
            rw [unf, if_neg c1, if_pos c2, show decide (((castL ([] : List Nat).reverse).length : Int) > 0) = false from by simp [castL], jf]
            exact hz f (by omega)
        | cons p r =>
          have hl1 : (castL (p :: r).reverse).length = r.length + 1 := by rw [castL_len]; simp
          have hpos : decide (((castL (p :: r).reverse).length : Int) > 0) = true := by rw [hl1]; exact decide_eq_true (by omega)
          have hl2 := hlen
          simp only [List.length_cons] at hl2
          have hwl : wrap64 (((castL (p :: r).reverse).length : Int) - 1) = (r.length : Int) := by rw [hl1, wrapZ _ (by omega) (by omega)]; omega
          have hcl : castL (p :: r).reverse = castL r.reverse ++ [(p : Int)] := by simp [castL]
          have hrd : rd (castL (p :: r).reverse) (r.length : Int) = (p : Int) := by
            unfold rd
            rw [Int.toNat_natCast, hcl, List.getD_eq_getElem?_getD, List.getElem?_append_right (by rw [castL_len, List.length_reverse]; omega), castL_len, List.length_reverse, Nat.sub_self]
            rfl
          have htk : (castL (p :: r).reverse).take r.length = castL r.reverse := by
            rw [hcl, List.take_append_of_le_length (by rw [castL_len, List.length_reverse]; omega), List.take_of_length_le (by rw [castL_len, List.length_reverse]; omega)]
          have jt : ∀ f, object_brackets.j1 (f + 1) s (a : Int) (o : Int) (c : Int) (castL (p :: r).reverse) (i : Int) (s.size : Int) (i : Int) true =
              if i ≥ a ∧ p ≤ a then some ((p : Int), (i : Int), true) else object_brackets.l0 f s (a : Int) (o : Int) (c : Int) (castL r.reverse) (s.size : Int) ((i + 1 : Nat) : Int) := fun f => by
            rw [object_brackets.j1, if_pos rfl, hwl, hrd, hw, Int.toNat_natCast, htk, hl1, if_pos (by omega), if_pos (by omega), if_pos (by omega), Option.bind_some]
            by_cases q1 : i ≥ a
            · rw [if_pos (show (i : Int) ≥ (a : Int) by omega)]
              by_cases q2 : p ≤ a
              · rw [if_pos (show (p : Int) ≤ (a : Int) by omega), if_pos ⟨q1, q2⟩]
              · rw [if_neg (show ¬ (p : Int) ≤ (a : Int) by omega), if_neg (fun h => q2 h.2)]
            · rw [if_neg (show ¬ (i : Int) ≥ (a : Int) by omega), if_neg (fun h => q1 h.1)]
          by_cases hit : i ≥ a ∧ p ≤ a
          · refine ⟨((p : Int), (i : Int), true), fun f hf => ?_, .inr ⟨p, i, rfl, hit.2, hit.1, by omega, hp.2.1, c2, hp.2.2.1⟩⟩
            match f, hf with
            | f + 2, hf => rw [unf, if_neg c1, if_pos c2, hpos, jt, if_pos hit]
          · obtain ⟨z, hz, hq⟩ := brk_loop s hs a o c hoc d (i + 1) r (by omega) (pinv_shut hoc hp c2)
            refine ⟨z, fun f hf => ?_, hq⟩
            match f, hf with
            | f + 2, hf => rw [unf, if_neg c1, if_pos c2, hpos, jt, if_neg hit]; exact hz f (by omega)
      · obtain ⟨z, hz, hq⟩ := brk_loop s hs a o c hoc d (i + 1) r (by omega) (pinv_step hp c1 c2)
        refine ⟨z, fun f hf => ?_, hq⟩
        match f, hf with
        | f + 2, hf => rw [unf, if_neg c1, if_neg c2, jf]; exact hz f (by omega)
theorem brackets_eq (s : ByteArray) (hs : s.size < 1000000) (a o c : Nat) (hoc : o ≠ c) :
    ∃ z : Int × Int × Bool, (∀ f, 2 * s.size + 1 ≤ f → object_brackets.f f s (a : Int) (o : Int) (c : Int) = some z) ∧
      (z = (0, 0, false) ∨ ∃ p q : Nat, z = ((p : Int), (q : Int), true) ∧ p ≤ a ∧ a ≤ q ∧ q < s.size ∧ gb s p = o ∧ gb s q = c ∧ Bal (gb s) o c (p + 1) q) := by
  obtain ⟨z, hz, hq⟩ := brk_loop s hs a o c hoc s.size 0 [] (by omega) trivial
  exact ⟨z, fun f hf => by unfold object_brackets.f; exact hz f (by omega), hq⟩
/-! ### what Find makes of a pair -/
def fin3 (around : Bool) (z : Int × Int × Bool) : Int × Int × Bool := if z.2.2 = true then (if around = true then (z.1, z.2.1 + 1, true) else (z.1 + 1, z.2.1, true)) else (0, 0, false)
theorem j3_eq (k : Nat) (around : Bool) (z : Int × Int × Bool) (h0 : -1000000 < z.1 ∧ z.1 < 1000000) (h1 : -1000000 < z.2.1 ∧ z.2.1 < 1000000) : object_Find.j3 (k + 1) around z.1 z.2.1 z.2.2 = some (fin3 around z) := by
  have w0 : wrap64 (z.1 + 1) = z.1 + 1 := wrapZ _ (by omega) (by omega)
  have w1 : wrap64 (z.2.1 + 1) = z.2.1 + 1 := wrapZ _ (by omega) (by omega)
  rw [object_Find.j3, w0, w1]
  unfold fin3
  cases z.2.2
  · rfl
  · cases around <;> rfl
theorem find_head (s : ByteArray) (hs : s.size < 1000000) (at_ : Int) (around : Bool) (key : Int) (k : Nat) : object_Find.f (k + 10) s at_ around key =
    (if ((alignZ s at_ : Nat) : Int) = (s.size : Int) then (some (0, 0, false)) else (if key = 119 then ((object_word.f (k + 10) s ((alignZ s at_ : Nat) : Int) around).bind fun bt153 => (some (bt153.1, bt153.2, true))) else (if key = 40 then (object_Find.j0 (k + 10) s ((alignZ s at_ : Nat) : Int) around key 0 0 false key (key == 40)) else (if key = 41 then (object_Find.j0 (k + 10) s ((alignZ s at_ : Nat) : Int) around key 0 0 false key (key == 41)) else (object_Find.j0 (k + 10) s ((alignZ s at_ : Nat) : Int) around key 0 0 false key (key == 98)))))) := by
  unfold object_Find.f
  rw [alignP_eq s hs at_ k, Option.bind_some]
/-- The pair that is looked for. -/
theorem find_pair (s : ByteArray) (hs : s.size < 1000000) (at_ : Int) (z : Int × Int × Bool) (o c : Nat) (hk : (o = 40 ∧ c = 41) ∨ (o = 91 ∧ c = 93) ∨ (o = 123 ∧ c = 125)) (ha : alignZ s at_ ≠ s.size)
    (hz : ∀ f, 2 * s.size + 1 ≤ f → object_brackets.f f s ((alignZ s at_ : Nat) : Int) (o : Int) (c : Int) = some z) (h0 : -1000000 < z.1 ∧ z.1 < 1000000) (h1 : -1000000 < z.2.1 ∧ z.2.1 < 1000000) (around : Bool) (k : Nat) :
    object_Find.f (2 * s.size + k + 20) s at_ around (o : Int) = some (fin3 around z) ∧ object_Find.f (2 * s.size + k + 20) s at_ around (c : Int) = some (fin3 around z) := by
  have hne : ¬ ((alignZ s at_ : Nat) : Int) = (s.size : Int) := by omega
  have e : 2 * s.size + k + 20 = (2 * s.size + k + 10) + 10 := by omega
  rw [e, find_head s hs at_ around _ _, find_head s hs at_ around _ _, if_neg hne, if_neg hne]
  have z0 := hz (2 * s.size + k + 10 + 9) (by omega)
  have z1 := hz (2 * s.size + k + 10 + 8) (by omega)
  have z2 := hz (2 * s.size + k + 10 + 7) (by omega)
  have g0 := j3_eq (2 * s.size + k + 10 + 8) around z h0 h1
  have g1 := j3_eq (2 * s.size + k + 10 + 7) around z h0 h1
  have g2 := j3_eq (2 * s.size + k + 10 + 6) around z h0 h1
  rcases hk with ⟨rfl, rfl⟩ | ⟨rfl, rfl⟩ | ⟨rfl, rfl⟩
  · constructor
    · rw [if_neg (by decide), if_pos (by decide), show (((40 : Nat) : Int) == 40) = true from rfl, show 2 * s.size + k + 10 + 10 = (2 * s.size + k + 10 + 9) + 1 by omega, object_Find.j0, if_pos rfl]
      have z0' : object_brackets.f (2 * s.size + k + 10 + 9) s ((alignZ s at_ : Nat) : Int) 40 41 = some z := z0
      rw [z0', Option.bind_some]
      exact g0
    · rw [if_neg (by decide), if_neg (by decide), if_pos (by decide), show (((41 : Nat) : Int) == 41) = true from rfl, show 2 * s.size + k + 10 + 10 = (2 * s.size + k + 10 + 9) + 1 by omega, object_Find.j0, if_pos rfl]
      have z0' : object_brackets.f (2 * s.size + k + 10 + 9) s ((alignZ s at_ : Nat) : Int) 40 41 = some z := z0
      rw [z0', Option.bind_some]
      exact g0
  · constructor
    · rw [if_neg (by decide), if_neg (by decide), if_neg (by decide), show (((91 : Nat) : Int) == 98) = false from rfl, show 2 * s.size + k + 10 + 10 = (2 * s.size + k + 10 + 8) + 1 + 1 by omega, object_Find.j0, if_neg (by decide), if_pos (by decide), show (((91 : Nat) : Int) == 91) = true from rfl, object_Find.j1, if_pos rfl]
      have z0' : object_brackets.f (2 * s.size + k + 10 + 8) s ((alignZ s at_ : Nat) : Int) 91 93 = some z := z1
      rw [z0', Option.bind_some]
      exact g1
    · rw [if_neg (by decide), if_neg (by decide), if_neg (by decide), show (((93 : Nat) : Int) == 98) = false from rfl, show 2 * s.size + k + 10 + 10 = (2 * s.size + k + 10 + 8) + 1 + 1 by omega, object_Find.j0, if_neg (by decide), if_neg (by decide), show (((93 : Nat) : Int) == 93) = true from rfl, object_Find.j1, if_pos rfl]
      have z0' : object_brackets.f (2 * s.size + k + 10 + 8) s ((alignZ s at_ : Nat) : Int) 91 93 = some z := z1
      rw [z0', Option.bind_some]
      exact g1
  · constructor
    · rw [if_neg (by decide), if_neg (by decide), if_neg (by decide), show (((123 : Nat) : Int) == 98) = false from rfl, show 2 * s.size + k + 10 + 10 = (2 * s.size + k + 10 + 7) + 1 + 1 + 1 by omega, object_Find.j0, if_neg (by decide), if_neg (by decide), show (((123 : Nat) : Int) == 93) = false from rfl, object_Find.j1, if_neg (by decide), if_pos (by decide), show (((123 : Nat) : Int) == 123) = true from rfl, object_Find.j2, if_pos rfl]
      have z0' : object_brackets.f (2 * s.size + k + 10 + 7) s ((alignZ s at_ : Nat) : Int) 123 125 = some z := z2
      rw [z0', Option.bind_some]
      exact g2
    · rw [if_neg (by decide), if_neg (by decide), if_neg (by decide), show (((125 : Nat) : Int) == 98) = false from rfl, show 2 * s.size + k + 10 + 10 = (2 * s.size + k + 10 + 7) + 1 + 1 + 1 by omega, object_Find.j0, if_neg (by decide), if_neg (by decide), show (((125 : Nat) : Int) == 93) = false from rfl, object_Find.j1, if_neg (by decide), if_neg (by decide), if_pos (by decide), show (((125 : Nat) : Int) == 125) = true from rfl, object_Find.j2, if_pos rfl]
      have z0' : object_brackets.f (2 * s.size + k + 10 + 7) s ((alignZ s at_ : Nat) : Int) 123 125 = some z := z2
      rw [z0', Option.bind_some]
      exact g2
theorem alive_eq (k : Nat) : bureaulaw13_alive.f (k + 60) = some true := by
  have h : bureaulaw13_alive.f 60 = some true := by decide +kernel
  induction k with
  | zero => exact h
  | succ k ih =>
    have := bureaulaw13_alive.mono (k + 60) true ih
    rwa [show k + 1 + 60 = k + 60 + 1 by omega]
theorem depth_loop (s : ByteArray) (hs : s.size < 1000000) (o c x y : Nat) (hoc : o ≠ c) (hy : y < s.size) (hb : Bal (gb s) o c x y) : ∀ (d n f : Nat), x + n + d = y → 2 * d + 1 ≤ f →
    bureaulaw13_ObjectBrackets.l0 f s (o : Int) (c : Int) (y : Int) (D (gb s) o c x n) ((x + n : Nat) : Int) = some true
  | _, _, 0, _, hf => by omega
  | 0, n, f + 1, e, _ => by
    rw [bureaulaw13_ObjectBrackets.l0, if_neg (by omega)]
    have := hb.2.2
    rw [show y - x = n by omega] at this
    rw [this]; rfl
  | d + 1, n, 1, e, hf => by omega
  | d + 1, n, f + 2, e, hf => by
    have hg := bt_gb s (x + n) (by omega)
    have hw : wrap64 (((x + n : Nat) : Int) + 1) = ((x + (n + 1) : Nat) : Int) := by rw [wrapZ _ (by omega) (by omega)]; omega
    have hD0 := hb.2.1 n (by omega)
    have hD1 := hb.2.1 (n + 1) (by omega)
    have hDn : ∀ n : Nat, D (gb s) o c x n ≤ (n : Int) ∧ -(n : Int) ≤ D (gb s) o c x n := fun n => by
      induction n with
      | zero => simp [D]
      | succ n ih => rw [D]; split; omega; split <;> omega
    have hDb := hDn n
    have hDb1 := hDn (n + 1)
    have ih := depth_loop s hs o c x y hoc hy hb d (n + 1) f (by omega) (by omega)
    rw [bureaulaw13_ObjectBrackets.l0, if_pos (by omega), if_pos (by omega), if_pos (by omega), hg]
    have hs1 : D (gb s) o c x (n + 1) = D (gb s) o c x n + (if gb s (x + n) = o then 1 else if gb s (x + n) = c then -1 else 0) := rfl
    by_cases c1 : gb s (x + n) = o
    · have c2 : ¬ gb s (x + n) = c := by omega
      rw [if_pos c1] at hs1
      rw [if_pos (by omega), wrapZ _ (by omega) (by omega), bureaulaw13_ObjectBrackets.j2, if_pos (by omega), if_pos (by omega), hg, if_neg (by omega), if_neg (by omega), hw, ← hs1]
      exact ih
    · rw [if_neg (by omega), bureaulaw13_ObjectBrackets.j2, if_pos (by omega), if_pos (by omega), hg]
      rw [if_neg c1] at hs1
      by_cases c2 : gb s (x + n) = c
      · rw [if_pos c2] at hs1
        rw [if_pos (by omega), wrapZ _ (by omega) (by omega), if_neg (by omega), hw, show D (gb s) o c x n - 1 = D (gb s) o c x (n + 1) by omega]
        exact ih
      · rw [if_neg c2] at hs1
        rw [if_neg (by omega), if_neg (by omega), hw, show D (gb s) o c x n = D (gb s) o c x (n + 1) by omega]
        exact ih
theorem kinds (a : Int) (h0 : 0 ≤ a) (h1 : a ≤ 255) : 0 ≤ wrap64 (Int.tmod a 3) ∧ wrap64 (Int.tmod a 3) < 3 ∧ ∃ o c : Nat, bt (⟨#[40, 91, 123]⟩ : ByteArray) (wrap64 (Int.tmod a 3)) = (o : Int) ∧ bt (⟨#[41, 93, 125]⟩ : ByteArray) (wrap64 (Int.tmod a 3)) = (c : Int) ∧
    ((o = 40 ∧ c = 41) ∨ (o = 91 ∧ c = 93) ∨ (o = 123 ∧ c = 125)) := by
  have e : Int.tmod a 3 = a % 3 := Int.tmod_eq_emod_of_nonneg h0
  rw [e, wrapZ _ (by omega) (by omega)]
  have : a % 3 = 0 ∨ a % 3 = 1 ∨ a % 3 = 2 := by omega
  rcases this with h | h | h <;> rw [h]
  · exact ⟨by omega, by omega, 40, 41, rfl, rfl, .inl ⟨rfl, rfl⟩⟩
  · exact ⟨by omega, by omega, 91, 93, rfl, rfl, .inr (.inl ⟨rfl, rfl⟩)⟩
  · exact ⟨by omega, by omega, 123, 125, rfl, rfl, .inr (.inr ⟨rfl, rfl⟩)⟩
theorem wr32 (o : Nat) (h : o ≤ 255) : wrap32 (o : Int) = (o : Int) := by unfold wrap32; omega
theorem ObjectBrackets : bureaulaw13_ObjectBrackets.Pure := by
  intro s at_ kd _ _ hkd
  have hr : 0 ≤ kd ∧ kd ≤ 255 := by simpa [Lit.wf, IntKind.min, IntKind.max, IntKind.signed, IntKind.bits] using hkd
  refine ⟨2 * s.size + 40 + 20, ?_⟩
  unfold bureaulaw13_ObjectBrackets.f
  rw [alive_eq (2 * s.size), Option.bind_some, if_pos rfl]
  by_cases hs : (s.size : Int) > 2048
  · rw [if_pos hs]
  obtain ⟨k0, k1, o, c, ho, hc, hoc⟩ := kinds kd hr.1 hr.2
  rw [if_neg hs, if_pos k0, if_pos k1, ho, hc, wr32 o (by omega), wr32 c (by omega)]
  by_cases ha : alignZ s at_ = s.size
  · have F : ∀ around key, object_Find.f (2 * s.size + 40 + 20) s at_ around key = some (0, 0, false) := fun around key => by
      rw [show 2 * s.size + 40 + 20 = (2 * s.size + 50) + 10 by omega, find_head s (by omega) at_ around key _, if_pos (by omega)]
    rw [F, F]
    rfl
  · obtain ⟨z, hz, hq⟩ := brackets_eq s (by omega) (alignZ s at_) o c (by omega)
    rcases hq with rfl | ⟨p, q, rfl, hpa, haq, hqs, hgp, hgq, hb⟩
    · have F := fun around => find_pair s (by omega) at_ _ o c hoc ha hz (by simp) (by simp) around 40
      rw [(F false).1, (F true).2]
      rfl
    · have F := fun around => find_pair s (by omega) at_ _ o c hoc ha hz (by simp only; omega) (by simp only; omega) around 40
      have hpq := hb.1
      have hA := r02align_eq s (by omega) at_ (s.size + 38)
      rw [show s.size + (s.size + 38) + 22 = 2 * s.size + 40 + 20 by omega] at hA
      rw [(F false).1, (F true).2, Option.bind_some, Option.bind_some, hA]
      simp only [fin3, if_true, Bool.false_eq_true, if_false, Option.bind_some]
      rw [if_neg (by omega), if_neg (by omega), if_neg (by omega), wrapZ _ (by omega) (by omega), if_pos (by omega), wrapZ _ (by omega) (by omega), if_pos rfl, if_pos (by omega), if_pos (by omega), bt_gb s p (by omega), if_pos (by omega), if_pos (by omega), if_pos (by omega), bt_gb s q (by omega), if_pos (by omega), if_neg (by omega),
        decide_eq_false (by omega), show 2 * s.size + 40 + 20 = (2 * s.size + 59) + 1 by omega, bureaulaw13_ObjectBrackets.j0, if_neg (by simp)]
      have := depth_loop s (by omega) o c (p + 1) q (by omega) hqs hb (q - (p + 1)) 0 (2 * s.size + 59) (by omega) (by omega)
      exact this

end Go.Proofs.YtcinobfflfkmjaaDoor.Pure
