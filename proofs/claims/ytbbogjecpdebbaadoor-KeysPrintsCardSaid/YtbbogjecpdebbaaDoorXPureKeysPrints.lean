/- How any keys are written is the document's, or refused: for every list of numbers. -/
import Derived.Test.YtbbogjecpdebbaaDoorXKeysPrintsx1
import Derived.Test.YtbbogjecpdebbaaDoorExt10K
import Derived.OpenShut
set_option linter.unusedVariables false
set_option linter.unusedSimpArgs false
namespace Go.Proofs.YtbbogjecpdebbaaDoor.Pure
open Go.RowKit Go.Proofs.YtbbogjecpdebbaaDoor.XKeysPrints Go.Proofs.YtbbogjecpdebbaaDoorW.PrintWords Go.Proofs.YtbbogjecpdebbaaDoorW.PrintMore Go.Proofs.YtbbogjecpdebbaaDoor.Ext

theorem alive_eq (k : Nat) : bureaulaw10_alive.f (k + 20) = some true := by
  have h : bureaulaw10_alive.f 20 = some true := by decide +kernel
  induction k with
  | zero => exact h
  | succ k ih =>
    have := bureaulaw10_alive.mono (k + 20) true ih
    rwa [show k + 1 + 20 = k + 20 + 1 by omega]
theorem r02may (r : Int) (h : 32 ≤ r) : bureauref02_May.f r = some (validZ r) := by
  unfold bureauref02_May.f validZ
  rw [if_pos (by omega)]
  by_cases h1 : r ≤ 1114111
  · rw [if_pos h1]
    by_cases h2 : r < 55296
    · rw [if_pos h2, decide_eq_true (by omega)]
    · rw [if_neg h2]
      congr 1
      rw [Bool.eq_iff_iff]
      simp only [decide_eq_true_eq]
      omega
  · rw [if_neg h1, decide_eq_false (by omega)]
theorem rmay_eq (r : Int) : bureauref10_May.f r = some (mayZ r) := by
  unfold bureauref10_May.f mayZ
  by_cases h1 : r ≥ 1
  · rw [if_pos h1]
    by_cases h2 : r ≤ 27
    · rw [if_pos h2, decide_eq_true (show 1 ≤ r ∧ r ≤ 27 from ⟨h1, h2⟩), Bool.true_or]
    · rw [if_neg h2, decide_eq_false (fun h : 1 ≤ r ∧ r ≤ 27 => h2 h.2), Bool.false_or]
      by_cases h3 : r ≥ 32
      · rw [if_pos h3, decide_eq_true (show 32 ≤ r from h3), Bool.true_and]
        by_cases h4 : r = 127
        · rw [if_pos h4]
          simp [h4]
        · rw [if_neg h4, r02may r h3]
          simp [h4]
      · rw [if_neg h3, decide_eq_false (show ¬ 32 ≤ r from h3), Bool.false_and]
  · rw [if_neg h1, decide_eq_false (fun h : 1 ≤ r ∧ r ≤ 27 => h1 h.1), Bool.false_or]
    rw [if_neg (by omega), decide_eq_false (show ¬ 32 ≤ r by omega), Bool.false_and]
theorem wrapN (a : Nat) (h : a < 9223372036854775808) : wrap64 (a : Int) = (a : Int) := by
  unfold wrap64
  omega
/-! The numbers' bytes. -/
def enc (r : Nat) : List Nat :=
  if r < 128 then [r] else if r < 2048 then [192 + r / 64, 128 + r % 64] else if r < 65536 then [224 + r / 4096, 128 + r / 64 % 64, 128 + r % 64] else [240 + r / 262144, 128 + r / 4096 % 64, 128 + r / 64 % 64, 128 + r % 64]
def mayN (r : Nat) : Bool := r ≤ 1114111 && (r < 55296 || 57344 ≤ r)
theorem enc_lt {r : Nat} (h : r ≤ 1114111) : ∀ x ∈ enc r, x < 256 := by
  unfold enc
  intro x hx
  split at hx
  · simp only [List.mem_cons, List.not_mem_nil, or_false] at hx
    omega
  split at hx
  · simp only [List.mem_cons, List.not_mem_nil, or_false] at hx
    omega
  split at hx
  · simp only [List.mem_cons, List.not_mem_nil, or_false] at hx
    omega
  · simp only [List.mem_cons, List.not_mem_nil, or_false] at hx
    omega
/-! What the document's 'number' reads, and which so many bytes are a sign. -/
def numN (n b0 b1 b2 b3 : Nat) : Nat :=
  if n = 1 then b0 else if n = 2 then b0 % 32 * 64 + b1 % 64 else if n = 3 then (b0 % 16 * 64 + b1 % 64) * 64 + b2 % 64 else ((b0 % 8 * 64 + b1 % 64) * 64 + b2 % 64) * 64 + b3 % 64
theorem num1 (b0 b1 b2 b3 : Nat) : numN 1 b0 b1 b2 b3 = b0 := rfl
theorem num2 (b0 b1 b2 b3 : Nat) : numN 2 b0 b1 b2 b3 = b0 % 32 * 64 + b1 % 64 := rfl
theorem num3 (b0 b1 b2 b3 : Nat) : numN 3 b0 b1 b2 b3 = (b0 % 16 * 64 + b1 % 64) * 64 + b2 % 64 := rfl
theorem num4 (b0 b1 b2 b3 : Nat) : numN 4 b0 b1 b2 b3 = ((b0 % 8 * 64 + b1 % 64) * 64 + b2 % 64) * 64 + b3 % 64 := rfl
def okN (n b0 b1 b2 b3 : Nat) : Bool := mayN (numN n b0 b1 b2 b3) && enc (numN n b0 b1 b2 b3) == [b0, b1, b2, b3].take n
theorem ok1 {b0 : Nat} (b1 b2 b3 : Nat) (h0 : b0 < 256) : okN 1 b0 b1 b2 b3 = decide (b0 < 128) := by
  unfold okN mayN enc numN
  rw [if_pos rfl, Bool.eq_iff_iff]
  simp only [Bool.and_eq_true, Bool.or_eq_true, decide_eq_true_eq, beq_iff_eq, List.take_succ_cons, List.take_zero]
  constructor
  · rintro ⟨_, h⟩
    split at h
    · assumption
    · exfalso
      split at h
      · simp only [List.cons.injEq] at h
        exact absurd h.2 (by simp)
      split at h
      · simp only [List.cons.injEq] at h
        exact absurd h.2 (by simp)
      · simp only [List.cons.injEq] at h
        exact absurd h.2 (by simp)
  · intro h
    exact ⟨by omega, by rw [if_pos h]⟩
theorem ok2 {b0 b1 : Nat} (b2 b3 : Nat) (h0 : b0 < 256) (h1 : b1 < 256) : okN 2 b0 b1 b2 b3 = decide (b0 / 32 = 6 ∧ b1 / 64 = 2 ∧ 128 ≤ b0 % 32 * 64 + b1 % 64) := by
  unfold okN mayN enc numN
  rw [if_neg (by omega), if_pos rfl, Bool.eq_iff_iff]
  simp only [Bool.and_eq_true, Bool.or_eq_true, decide_eq_true_eq, beq_iff_eq, List.take_succ_cons, List.take_zero]
  generalize hr : b0 % 32 * 64 + b1 % 64 = r
  constructor
  · rintro ⟨_, h⟩
    split at h
    · cases h
    split at h
    · simp only [List.cons.injEq, and_true] at h
      omega
    split at h
    · cases h
    · cases h
  · intro h
    refine ⟨by omega, ?_⟩
    rw [if_neg (by omega), if_pos (by omega)]
    simp only [List.cons.injEq, and_true]
    omega
theorem ok3 {b0 b1 b2 : Nat} (b3 : Nat) (h0 : b0 < 256) (h1 : b1 < 256) (h2 : b2 < 256) : okN 3 b0 b1 b2 b3 =
    decide (b0 / 16 = 14 ∧ b1 / 64 = 2 ∧ b2 / 64 = 2 ∧ 2048 ≤ b0 % 16 * 4096 + b1 % 64 * 64 + b2 % 64 ∧ (b0 % 16 * 4096 + b1 % 64 * 64 + b2 % 64 < 55296 ∨ 57344 ≤ b0 % 16 * 4096 + b1 % 64 * 64 + b2 % 64)) := by
  unfold okN mayN enc numN
  rw [if_neg (by omega), if_neg (by omega), if_pos rfl, Bool.eq_iff_iff]
  simp only [Bool.and_eq_true, Bool.or_eq_true, decide_eq_true_eq, beq_iff_eq, List.take_succ_cons, List.take_zero]
  rw [show (b0 % 16 * 64 + b1 % 64) * 64 + b2 % 64 = b0 % 16 * 4096 + b1 % 64 * 64 + b2 % 64 by omega]
  generalize hr : b0 % 16 * 4096 + b1 % 64 * 64 + b2 % 64 = r
  constructor
  · rintro ⟨_, h⟩
    split at h
    · cases h
    split at h
    · cases h
    split at h
    · simp only [List.cons.injEq, and_true] at h
      omega
    · cases h
  · intro h
    refine ⟨by omega, ?_⟩
    rw [if_neg (by omega), if_neg (by omega), if_pos (by omega)]
    simp only [List.cons.injEq, and_true]
    omega
theorem ok4 {b0 b1 b2 b3 : Nat} (h0 : b0 < 256) (h1 : b1 < 256) (h2 : b2 < 256) (h3 : b3 < 256) : okN 4 b0 b1 b2 b3 =
    decide (b0 / 8 = 30 ∧ b1 / 64 = 2 ∧ b2 / 64 = 2 ∧ b3 / 64 = 2 ∧ 65536 ≤ b0 % 8 * 262144 + b1 % 64 * 4096 + b2 % 64 * 64 + b3 % 64 ∧ b0 % 8 * 262144 + b1 % 64 * 4096 + b2 % 64 * 64 + b3 % 64 ≤ 1114111) := by
  unfold okN mayN enc numN
  rw [if_neg (by omega), if_neg (by omega), if_neg (by omega), Bool.eq_iff_iff]
  simp only [Bool.and_eq_true, Bool.or_eq_true, decide_eq_true_eq, beq_iff_eq, List.take_succ_cons, List.take_zero]
  rw [show ((b0 % 8 * 64 + b1 % 64) * 64 + b2 % 64) * 64 + b3 % 64 = b0 % 8 * 262144 + b1 % 64 * 4096 + b2 % 64 * 64 + b3 % 64 by omega]
  generalize hr : b0 % 8 * 262144 + b1 % 64 * 4096 + b2 % 64 * 64 + b3 % 64 = r
  constructor
  · rintro ⟨_, h⟩
    split at h
    · cases h
    split at h
    · cases h
    split at h
    · cases h
    · simp only [List.cons.injEq, and_true] at h
      omega
  · intro h
    refine ⟨by omega, ?_⟩
    rw [if_neg (by omega), if_neg (by omega), if_neg (by omega)]
    simp only [List.cons.injEq, and_true]
    omega
/-- The model's decoding, by which so many bytes are a sign. -/
def firstOk (m b0 b1 b2 b3 : Nat) : Nat × Nat × Bool :=
  if okN 1 b0 b1 b2 b3 = true then (numN 1 b0 b1 b2 b3, 1, true)
  else if 2 ≤ m ∧ okN 2 b0 b1 b2 b3 = true then (numN 2 b0 b1 b2 b3, 2, true)
  else if 3 ≤ m ∧ okN 3 b0 b1 b2 b3 = true then (numN 3 b0 b1 b2 b3, 3, true)
  else if 4 ≤ m ∧ okN 4 b0 b1 b2 b3 = true then (numN 4 b0 b1 b2 b3, 4, true)
  else (65533, 1, false)
theorem first_decode {m b0 b1 b2 b3 : Nat} (h0 : b0 < 256) (h1 : b1 < 256) (h2 : b2 < 256) (h3 : b3 < 256) :
    firstOk m b0 b1 b2 b3 = ((Lib.decodeN m b0 b1 b2 b3).1, (Lib.decodeN m b0 b1 b2 b3).2, whole (0, Lib.decodeN m b0 b1 b2 b3)) := by
  unfold firstOk
  rw [ok1 b1 b2 b3 h0, ok2 b2 b3 h0 h1, ok3 b3 h0 h1 h2, ok4 h0 h1 h2 h3]
  simp only [decide_eq_true_eq]
  have n1 : numN 1 b0 b1 b2 b3 = b0 := rfl
  have n2 : numN 2 b0 b1 b2 b3 = b0 % 32 * 64 + b1 % 64 := rfl
  have n3 : numN 3 b0 b1 b2 b3 = b0 % 16 * 4096 + b1 % 64 * 64 + b2 % 64 := by unfold numN; rw [if_neg (by omega), if_neg (by omega), if_pos rfl]; omega
  have n4 : numN 4 b0 b1 b2 b3 = b0 % 8 * 262144 + b1 % 64 * 4096 + b2 % 64 * 64 + b3 % 64 := by unfold numN; rw [if_neg (by omega), if_neg (by omega), if_neg (by omega)]; omega
  rw [n1, n2, n3, n4]
  unfold Lib.decodeN
  by_cases c1 : b0 < 128
  · rw [if_pos c1, if_pos c1]
    have : (b0 == 65533) = false := by rw [beq_eq_false_iff_ne]; omega
    simp [whole, this]
  rw [if_neg c1, if_neg c1]
  by_cases c2 : b0 / 32 = 6 ∧ (1 < m ∧ b1 / 64 = 2)
  · rw [if_pos c2]
    by_cases d2 : b0 % 32 * 64 + b1 % 64 ≥ 128
    · rw [if_pos d2, if_pos (by omega)]
      simp [whole]
    · rw [if_neg d2, if_neg (by omega), if_neg (by omega), if_neg (by omega)]
      rfl
  rw [if_neg c2, if_neg (by omega)]
  by_cases c3 : b0 / 16 = 14 ∧ (1 < m ∧ b1 / 64 = 2) ∧ (2 < m ∧ b2 / 64 = 2)
  · rw [if_pos c3]
    by_cases d3 : b0 % 16 * 4096 + b1 % 64 * 64 + b2 % 64 ≥ 2048 ∧ (b0 % 16 * 4096 + b1 % 64 * 64 + b2 % 64 < 55296 ∨ (57344 ≤ b0 % 16 * 4096 + b1 % 64 * 64 + b2 % 64 ∧ b0 % 16 * 4096 + b1 % 64 * 64 + b2 % 64 ≤ 1114111))
    · rw [if_pos d3, if_pos (by omega)]
      simp [whole]
    · rw [if_neg d3, if_neg (by omega), if_neg (by omega)]
      rfl
  rw [if_neg c3, if_neg (by omega)]
  by_cases c4 : b0 / 8 = 30 ∧ (1 < m ∧ b1 / 64 = 2) ∧ (2 < m ∧ b2 / 64 = 2) ∧ (3 < m ∧ b3 / 64 = 2)
  · rw [if_pos c4]
    by_cases d4 : b0 % 8 * 262144 + b1 % 64 * 4096 + b2 % 64 * 64 + b3 % 64 ≥ 65536 ∧ (b0 % 8 * 262144 + b1 % 64 * 4096 + b2 % 64 * 64 + b3 % 64 < 55296 ∨ (57344 ≤ b0 % 8 * 262144 + b1 % 64 * 4096 + b2 % 64 * 64 + b3 % 64 ∧ b0 % 8 * 262144 + b1 % 64 * 4096 + b2 % 64 * 64 + b3 % 64 ≤ 1114111))
    · rw [if_pos d4, if_pos (by omega)]
      simp [whole]
    · rw [if_neg d4, if_neg (by omega)]
      rfl
  rw [if_neg c4, if_neg (by omega)]
  rfl
theorem may_eq (r : Nat) : bureauref02_May.f (r : Int) = some (mayN r) := by
  unfold bureauref02_May.f mayN
  rw [if_pos (Int.natCast_nonneg r)]
  by_cases h1 : r ≤ 1114111
  · rw [if_pos (by omega)]
    by_cases h2 : r < 55296
    · rw [if_pos (by omega)]
      simp [h1, h2]
    · rw [if_neg (by omega)]
      congr 1
      rw [Bool.eq_iff_iff]
      simp only [decide_eq_true_eq, Bool.and_eq_true, Bool.or_eq_true]
      omega
  · rw [if_neg (by omega)]
    simp [h1]
theorem lowK (K : Int) (k x : Nat) (hK : K = (k : Int)) (h : k + x < 256) : UInt8.ofNat (wrap64 (K + (x : Int)) % 256).toNat = UInt8.ofNat (k + x) := by
  congr 1
  unfold wrap64
  omega
theorem lowA (x : Nat) (h : x < 256) : UInt8.ofNat ((x : Int) % 256).toNat = UInt8.ofNat x := by
  congr 1
  omega
theorem l2 {a b a' b' : UInt8} (h1 : a = a') (h2 : b = b') : [a, b] = [a', b'] := by rw [h1, h2]
theorem l3 {a b c a' b' c' : UInt8} (h1 : a = a') (h2 : b = b') (h3 : c = c') : [a, b, c] = [a', b', c'] := by rw [h1, h2, h3]
theorem l4 {a b c d a' b' c' d' : UInt8} (h1 : a = a') (h2 : b = b') (h3 : c = c') (h4 : d = d') : [a, b, c, d] = [a', b', c', d'] := by rw [h1, h2, h3, h4]
theorem bytes_eq {r : Nat} (h : r ≤ 1114111) : bureauref02_Bytes.f (r : Int) = some ⟨((enc r).map UInt8.ofNat).toArray⟩ := by
  have e64 : Int.tdiv (r : Int) 64 = ((r / 64 : Nat) : Int) := rfl
  have e4096 : Int.tdiv (r : Int) 4096 = ((r / 4096 : Nat) : Int) := rfl
  have e262144 : Int.tdiv (r : Int) 262144 = ((r / 262144 : Nat) : Int) := rfl
  have m64 : Int.tmod (r : Int) 64 = ((r % 64 : Nat) : Int) := rfl
  have w1 := wrapN (r / 64) (by omega)
  have w2 := wrapN (r / 4096) (by omega)
  have w3 := wrapN (r / 262144) (by omega)
  have m1 : Int.tmod ((r / 64 : Nat) : Int) 64 = ((r / 64 % 64 : Nat) : Int) := rfl
  have m2 : Int.tmod ((r / 4096 : Nat) : Int) 64 = ((r / 4096 % 64 : Nat) : Int) := rfl
  unfold bureauref02_Bytes.f enc
  rw [e64, e4096, e262144, m64, w1, w2, w3, m1, m2]
  clear e64 e4096 e262144 m64 w1 w2 w3 m1 m2
  by_cases h1 : r < 128
  · rw [if_pos (by omega), if_pos h1]
    simp only [strOfNums, List.map_cons, List.map_nil, lowA r (by omega)]
  rw [if_neg (by omega), if_neg h1]
  by_cases h2 : r < 2048
  · rw [if_pos (by omega), if_pos h2]
    simp only [strOfNums, List.map_cons, List.map_nil]
    exact congrArg (fun l : List UInt8 => some (⟨l.toArray⟩ : ByteArray)) (l2 (lowK 192 192 (r / 64) rfl (by omega)) (lowK 128 128 (r % 64) rfl (by omega)))
  rw [if_neg (by omega), if_neg h2]
  by_cases h3 : r < 65536
  · rw [if_pos (by omega), if_pos h3]
    simp only [strOfNums, List.map_cons, List.map_nil]
    exact congrArg (fun l : List UInt8 => some (⟨l.toArray⟩ : ByteArray)) (l3 (lowK 224 224 (r / 4096) rfl (by omega)) (lowK 128 128 (r / 64 % 64) rfl (by omega)) (lowK 128 128 (r % 64) rfl (by omega)))
  · rw [if_neg (by omega), if_neg h3]
    simp only [strOfNums, List.map_cons, List.map_nil]
    exact congrArg (fun l : List UInt8 => some (⟨l.toArray⟩ : ByteArray)) (l4 (lowK 240 240 (r / 262144) rfl (by omega)) (lowK 128 128 (r / 4096 % 64) rfl (by omega)) (lowK 128 128 (r / 64 % 64) rfl (by omega)) (lowK 128 128 (r % 64) rfl (by omega)))
/-! A list of numbers, as bytes. -/
def fixR (r : Int) : Nat := if Utf8.valid r then r.toNat else 65533
theorem fix_may (r : Int) : mayN (fixR r) = true := by
  unfold fixR mayN
  split
  · rename_i h
    simp only [Utf8.valid, Bool.or_eq_true, Bool.and_eq_true, decide_eq_true_eq] at h ⊢
    omega
  · rfl
theorem encode_eq (r : Int) : (Utf8.encode r).data.toList = (enc (fixR r)).map UInt8.ofNat := by
  unfold Utf8.encode enc
  have hf : (if Utf8.valid r = true then r.toNat else Utf8.runeError) = fixR r := rfl
  simp only [hf]
  repeat' split
  all_goals rfl
theorem enc_len (r : Nat) : 1 ≤ (enc r).length ∧ (enc r).length ≤ 4 := by
  unfold enc
  split
  · simp
  split
  · simp
  split
  · simp
  · simp
theorem may_le {r : Nat} (h : mayN r = true) : r ≤ 1114111 := by
  simp only [mayN, Bool.and_eq_true, decide_eq_true_eq] at h
  exact h.1
theorem nameB_big {r : Int} (h : 32 ≤ r) (h60 : r ≠ 60) : nameB r = [] := by
  unfold nameB
  rw [if_neg (by omega), if_neg (by omega), if_neg (by omega), if_neg (by omega), if_neg h60, if_neg (by omega)]
theorem wr_small (a : Int) (h0 : 1 ≤ a) (h1 : a < 32) : strOfNums [(wrap64 ((wrap64 (97 + a)) - 1)) % 256] = ⟨#[UInt8.ofNat (96 + a).toNat]⟩ := by
  have e1 : wrap64 (97 + a) = 97 + a := wrapZ _ (by omega) (by omega)
  have e2 : wrap64 (97 + a - 1) = 96 + a := by rw [wrapZ _ (by omega) (by omega)]; omega
  have e3 : (96 + a) % 256 = 96 + a := by omega
  rw [e1, e2, e3]
  rfl
theorem rwritten_eq {r : Int} (h : mayZ r = true) : ∃ x, bureauref10_Written.f r = some x ∧ x.data.toList = writB r := by
  have hb := may_bounds h
  have hv := may_valid h
  unfold bureauref10_Written.f
  by_cases h27 : r = 27
  · rw [if_pos h27]
    exact ⟨_, rfl, by rw [h27]; rfl⟩
  rw [if_neg h27]
  by_cases h13 : r = 13
  · rw [if_pos h13]
    exact ⟨_, rfl, by rw [h13]; rfl⟩
  rw [if_neg h13]
  by_cases h8 : r = 8
  · rw [if_pos h8]
    exact ⟨_, rfl, by rw [h8]; rfl⟩
  rw [if_neg h8]
  by_cases h9 : r = 9
  · rw [if_pos h9]
    exact ⟨_, rfl, by rw [h9]; rfl⟩
  rw [if_neg h9]
  by_cases h60 : r = 60
  · rw [if_pos h60]
    exact ⟨_, rfl, by rw [h60]; rfl⟩
  rw [if_neg h60]
  by_cases h32 : r < 32
  · have hn : nameB r = [67, 45, UInt8.ofNat (96 + r).toNat] := by unfold nameB; rw [if_neg h27, if_neg h13, if_neg h8, if_neg h9, if_neg h60, if_pos h32]
    rw [if_pos h32, Option.bind_some, wr_small r hb.1 h32, if_pos (by exact (by decide : 3 + 1 ≤ 9223372036854775807)), if_pos (by rw [ByteArray.size_append]; exact (by decide : 3 + 1 + 1 ≤ 9223372036854775807))]
    refine ⟨_, rfl, ?_⟩
    unfold writB
    rw [hn, if_neg (by simp)]
    rfl
  · have hn : nameB r = [] := nameB_big (by omega) h60
    obtain ⟨n, rfl⟩ : ∃ n : Nat, r = (n : Int) := ⟨r.toNat, by omega⟩
    rw [if_neg h32, bytes_eq (r := n) (by omega), Option.bind_some]
    refine ⟨_, rfl, ?_⟩
    unfold writB
    rw [if_pos hn, encode_eq]
    have hf : fixR (n : Int) = n := by
      simp only [validZ, decide_eq_true_eq] at hv
      have : Utf8.valid (n : Int) = true := by
        simp only [Utf8.valid, Bool.or_eq_true, Bool.and_eq_true, decide_eq_true_eq]
        omega
      unfold fixR
      rw [if_pos this, Int.toNat_natCast]
    rw [hf]
theorem rd_nat (xs : List Int) (i : Nat) (h : i < xs.length) : rd xs (i : Int) = xs[i] := by
  unfold rd
  rw [Int.toNat_natCast, List.getD_eq_getElem?_getD, List.getElem?_eq_getElem h]
  rfl
theorem rprint_loop (l : List Int) (hl : l.length ≤ 256) (hw : ∀ x ∈ l, -2147483648 ≤ x ∧ x ≤ 2147483647) : ∀ (c i k : Nat) (acc : ByteArray), i + c = l.length → acc.size ≤ 5 * i →
    ∃ y : ByteArray × Int, bureauref10_Print.l0 (c + k + 1) l acc (i : Int) = some y ∧ ((l.drop i).all mayZ = true → y.1.data.toList = acc.data.toList ++ (l.drop i).flatMap writB ∧ y.2 = 0) ∧ ((l.drop i).all mayZ = false → y = (⟨#[]⟩, 2)) := by
  intro c
  induction c with
  | zero =>
    intro i k acc hi ha
    refine ⟨(acc, 0), ?_, ?_, ?_⟩
    · rw [show 0 + k + 1 = k + 1 by omega, bureauref10_Print.l0, if_neg (by omega)]
    · intro _
      rw [List.drop_of_length_le (by omega)]
      simp
    · rw [List.drop_of_length_le (by omega)]
      intro h
      cases h
  | succ c ih =>
    intro i k acc hi ha
    have hlt : i < l.length := by omega
    have hx := hw l[i] (List.getElem_mem hlt)
    have hwi : wrap64 ((i : Int) + 1) = ((i + 1 : Nat) : Int) := by rw [wrapZ _ (by omega) (by omega)]; omega
    have hwx : wrap64 l[i] = l[i] := wrapZ _ (by omega) (by omega)
    rw [show c + 1 + k + 1 = (c + k + 1) + 1 by omega, bureauref10_Print.l0, if_pos (by omega), if_pos (by omega), rd_nat l i hlt, hwx, rmay_eq, Option.bind_some, hwi, List.drop_eq_getElem_cons hlt, List.all_cons, List.flatMap_cons]
    clear hwi hwx
    generalize l[i] = x at *
    cases hm : mayZ x with
    | false =>
      rw [if_neg (by decide)]
      exact ⟨_, rfl, fun h => by simp at h, fun _ => rfl⟩
    | true =>
      obtain ⟨y, hy, hyl⟩ := rwritten_eq hm
      have hlen := writB_len x
      have hsz : y.size ≤ 5 := by
        have : y.size = y.data.toList.length := by rw [Array.length_toList]; rfl
        rw [this, hyl]
        exact hlen
      rw [if_pos rfl, hy, Option.bind_some, if_pos (by omega)]
      obtain ⟨z, hz, h1, h2⟩ := ih (i + 1) k (acc ++ y) (by omega) (by rw [ByteArray.size_append]; omega)
      refine ⟨z, hz, ?_, ?_⟩
      · intro h
        rw [Bool.true_and] at h
        obtain ⟨e1, e2⟩ := h1 h
        refine ⟨?_, e2⟩
        rw [e1, ByteArray.data_append, Array.toList_append, hyl, List.append_assoc]
      · intro h
        rw [Bool.true_and] at h
        exact h2 h
theorem KeysPrints : bureaulaw10_KeysPrints.Pure := by
  intro l _ hwf
  have hw : ∀ x ∈ l, -2147483648 ≤ x ∧ x ≤ 2147483647 := fun x hx => by simpa [Lit.wf, IntKind.min, IntKind.max, IntKind.signed, IntKind.bits] using hwf x hx
  refine ⟨l.length + 19 + 1, ?_⟩
  unfold bureaulaw10_KeysPrints.f
  have hal : bureaulaw10_alive.f (l.length + 19 + 1) = some true := by rw [show l.length + 19 + 1 = l.length + 20 by omega]; exact alive_eq _
  rw [hal, Option.bind_some, if_pos rfl]
  by_cases hs : (l.length : Int) > 4096
  · rw [if_pos hs]
  have h1 : keys_Print.f l = some (printZ l) := rfl
  rw [if_neg hs, h1, Option.bind_some]
  unfold bureauref10_Print.f printZ
  by_cases hl : l.length > 256
  · rw [if_pos (by omega), if_pos hl, Option.bind_some, if_pos rfl]
    rfl
  · obtain ⟨y, hy, e1, e2⟩ := rprint_loop l (by omega) hw l.length 0 19 ⟨#[]⟩ (by omega) (by decide)
    rw [List.drop_zero] at e1 e2
    rw [if_neg (by omega), show (0 : Int) = ((0 : Nat) : Int) from rfl, hy, Option.bind_some, if_neg hl]
    cases hm : l.all mayZ with
    | true =>
      obtain ⟨f1, f2⟩ := e1 hm
      rw [if_pos rfl, ByteArray.toList_eq, ByteArray.toList_eq, f1, f2]
      simp
    | false =>
      simp only [Bool.false_eq_true, if_false]
      rw [e2 hm, if_pos rfl]
      rfl

end Go.Proofs.YtbbogjecpdebbaaDoor.Pure
