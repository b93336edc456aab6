/- Labels as whole numbers from 0 to 2^64 - 1: what 'or', 'and', 'and not' do to each bit; that the reference's rows of marks tell the same. Plain: no program. -/
import Derived.Laws.Bits64
import Derived.Laws.BitsLemmas
import Derived.OpenShut
set_option linter.unusedVariables false
set_option linter.unusedSimpArgs false
namespace Go.Proofs.Ytmbnambicnhdoaa.Bits

/-- A number that a label may be. -/
def U (a : Int) : Prop := 0 ≤ a ∧ a ≤ 18446744073709551615
theorem U.of_wf {a : Int} (h : (Lit.int .u64 a).wf = true) : U a := bounds_u64 h
/-- Bit i. -/
def tb (a : Int) (i : Nat) : Bool := a.toNat.testBit i
theorem U.lift {a : Int} (h : U a) : ∃ n : Nat, a = n ∧ n < 2 ^ 64 := ⟨a.toNat, by have := h.1; omega, by have := h.1; have := h.2; omega⟩
theorem tb_cast (n i : Nat) : tb (n : Int) i = n.testBit i := rfl
theorem u_cast {n : Nat} (h : n < 2 ^ 64) : U (n : Int) := ⟨by omega, by omega⟩
theorem wrap_u64_nat {n : Nat} (h : n < 2 ^ 64) : IntKind.u64.wrap (n : Int) = n := by
  rw [IntKind.wrap_u64]
  omega
theorem or_nat {a b : Nat} (ha : a < 2 ^ 64) (hb : b < 2 ^ 64) : bits .or .u64 (a : Int) (b : Int) = ((a ||| b : Nat) : Int) := by
  have h1 : (BitVec.ofInt 64 (a : Int)).toNat = a := by rw [BitVec.ofInt_natCast, BitVec.toNat_ofNat]; exact Nat.mod_eq_of_lt ha
  have h2 : (BitVec.ofInt 64 (b : Int)).toNat = b := by rw [BitVec.ofInt_natCast, BitVec.toNat_ofNat]; exact Nat.mod_eq_of_lt hb
  show IntKind.u64.wrap ((BitVec.ofInt 64 (a : Int) ||| BitVec.ofInt 64 (b : Int)).toNat : Int) = _
  rw [BitVec.toNat_or, h1, h2, wrap_u64_nat (Nat.or_lt_two_pow ha hb)]
theorem and_nat {a b : Nat} (ha : a < 2 ^ 64) (hb : b < 2 ^ 64) : bits .and .u64 (a : Int) (b : Int) = ((a &&& b : Nat) : Int) := by
  have h1 : (BitVec.ofInt 64 (a : Int)).toNat = a := by rw [BitVec.ofInt_natCast, BitVec.toNat_ofNat]; exact Nat.mod_eq_of_lt ha
  have h2 : (BitVec.ofInt 64 (b : Int)).toNat = b := by rw [BitVec.ofInt_natCast, BitVec.toNat_ofNat]; exact Nat.mod_eq_of_lt hb
  show IntKind.u64.wrap ((BitVec.ofInt 64 (a : Int) &&& BitVec.ofInt 64 (b : Int)).toNat : Int) = _
  rw [BitVec.toNat_and, h1, h2, wrap_u64_nat (Nat.and_lt_two_pow _ hb)]
theorem andNot_bv {a b : Nat} : bits .andNot .u64 (a : Int) (b : Int) = ((BitVec.ofNat 64 a &&& ~~~ BitVec.ofNat 64 b).toNat : Int) := by
  show IntKind.u64.wrap ((BitVec.ofInt 64 (a : Int) &&& ~~~ BitVec.ofInt 64 (b : Int)).toNat : Int) = _
  rw [BitVec.ofInt_natCast, BitVec.ofInt_natCast, wrap_u64_nat (BitVec.isLt _)]

theorem u_or {a b : Int} (ha : U a) (hb : U b) : U (bits .or .u64 a b) := by
  obtain ⟨n, rfl, hn⟩ := ha.lift
  obtain ⟨m, rfl, hm⟩ := hb.lift
  rw [or_nat hn hm]
  exact u_cast (Nat.or_lt_two_pow hn hm)
theorem u_and {a b : Int} (ha : U a) (hb : U b) : U (bits .and .u64 a b) := by
  obtain ⟨n, rfl, hn⟩ := ha.lift
  obtain ⟨m, rfl, hm⟩ := hb.lift
  rw [and_nat hn hm]
  exact u_cast (Nat.and_lt_two_pow _ hm)
theorem tb_or {a b : Int} (ha : U a) (hb : U b) (i : Nat) : tb (bits .or .u64 a b) i = (tb a i || tb b i) := by
  obtain ⟨n, rfl, hn⟩ := ha.lift
  obtain ⟨m, rfl, hm⟩ := hb.lift
  rw [or_nat hn hm]
  simp [tb_cast]
theorem tb_and {a b : Int} (ha : U a) (hb : U b) (i : Nat) : tb (bits .and .u64 a b) i = (tb a i && tb b i) := by
  obtain ⟨n, rfl, hn⟩ := ha.lift
  obtain ⟨m, rfl, hm⟩ := hb.lift
  rw [and_nat hn hm]
  simp [tb_cast]
theorem tb_ext {a b : Int} (ha : U a) (hb : U b) (h : ∀ i, i < 64 → tb a i = tb b i) : a = b := by
  obtain ⟨n, rfl, hn⟩ := ha.lift
  obtain ⟨m, rfl, hm⟩ := hb.lift
  congr 1
  refine Nat.eq_of_testBit_eq fun i => ?_
  by_cases hi : i < 64
  · exact h i hi
  · have h2 : 2 ^ 64 ≤ 2 ^ i := Nat.pow_le_pow_right (by decide) (by omega)
    rw [Nat.testBit_lt_two_pow (by omega), Nat.testBit_lt_two_pow (by omega)]
/-- Is each category of a one of b? -/
def Le (a b : Int) : Prop := ∀ i, i < 64 → tb a i = true → tb b i = true
theorem andNot_zero {a b : Int} (ha : U a) (hb : U b) : (bits .andNot .u64 a b == 0) = true ↔ Le a b := by
  obtain ⟨n, rfl, hn⟩ := ha.lift
  obtain ⟨m, rfl, hm⟩ := hb.lift
  rw [andNot_bv, beq_iff_eq]
  have hz : (((BitVec.ofNat 64 n &&& ~~~ BitVec.ofNat 64 m).toNat : Nat) : Int) = 0 ↔ (BitVec.ofNat 64 n &&& ~~~ BitVec.ofNat 64 m) = 0#64 := by
    constructor
    · intro h
      apply BitVec.eq_of_toNat_eq
      simpa using h
    · intro h
      rw [h]
      rfl
  rw [hz]
  constructor
  · intro h i hi hx
    have hg : (BitVec.ofNat 64 n &&& ~~~ BitVec.ofNat 64 m).getLsbD i = (0#64).getLsbD i := by rw [h]
    rw [BitVec.getLsbD_and, BitVec.getLsbD_not] at hg
    simp only [BitVec.getLsbD_ofNat, hi, decide_true, Bool.true_and, BitVec.getLsbD_zero] at hg
    rw [tb_cast] at hx ⊢
    rw [hx] at hg
    simpa using hg
  · intro h
    apply BitVec.eq_of_getLsbD_eq
    intro i hi
    rw [BitVec.getLsbD_and, BitVec.getLsbD_not]
    simp only [BitVec.getLsbD_ofNat, hi, decide_true, Bool.true_and, BitVec.getLsbD_zero]
    have := h i hi
    rw [tb_cast, tb_cast] at this
    cases h1 : n.testBit i
    · simp
    · simp [this h1]
theorem Le.refl (a : Int) : Le a a := fun _ _ h => h
theorem Le.trans {a b c : Int} (h : Le a b) (k : Le b c) : Le a c := fun i hi hx => k i hi (h i hi hx)
theorem le_or {a b c : Int} (ha : U a) (hb : U b) : Le (bits .or .u64 a b) c ↔ Le a c ∧ Le b c := by
  constructor
  · intro h
    exact ⟨fun i hi hx => h i hi (by rw [tb_or ha hb, hx]; rfl), fun i hi hx => h i hi (by rw [tb_or ha hb, hx, Bool.or_true])⟩
  · rintro ⟨h1, h2⟩ i hi hx
    rw [tb_or ha hb, Bool.or_eq_true] at hx
    rcases hx with hx | hx
    · exact h1 i hi hx
    · exact h2 i hi hx
theorem and_le {a b : Int} (ha : U a) (hb : U b) : Le (bits .and .u64 a b) a := fun i hi hx => by
  rw [tb_and ha hb, Bool.and_eq_true] at hx
  exact hx.1
theorem le_orL {a b : Int} (ha : U a) (hb : U b) : Le a (bits .or .u64 a b) := fun i hi hx => by rw [tb_or ha hb, hx]; rfl
theorem or_zero_left {a : Int} (ha : U a) : bits .or .u64 0 a = a := tb_ext (u_or ⟨by omega, by omega⟩ ha) ha fun i _ => by
  rw [tb_or ⟨by omega, by omega⟩ ha]
  simp [tb]
theorem or_assoc {a b c : Int} (ha : U a) (hb : U b) (hc : U c) : bits .or .u64 (bits .or .u64 a b) c = bits .or .u64 a (bits .or .u64 b c) := tb_ext (u_or (u_or ha hb) hc) (u_or ha (u_or hb hc)) fun i _ => by
  rw [tb_or (u_or ha hb) hc, tb_or ha hb, tb_or ha (u_or hb hc), tb_or hb hc, Bool.or_assoc]

end Go.Proofs.Ytmbnambicnhdoaa.Bits
