/- The reference's Join and Below of labels, in the print's form: bitwise 'or'; 'and not' is nothing. -/
import Derived.Test.YtmbnambicnhdoaaRef01
import Derived.Test.YtmbnambicnhdoaaBits
set_option linter.unusedVariables false
set_option linter.unusedSimpArgs false
namespace Go.Proofs.Ytmbnambicnhdoaa.Ext
open Go.RowKit Go.Proofs.YtmbnambicnhdoaaW.PrintWords Go.Proofs.Ytmbnambicnhdoaa.Ref01 Go.Proofs.Ytmbnambicnhdoaa.Bits

theorem sh_nat (n k : Nat) : sh (n : Int) k = ((n / 2 ^ k : Nat) : Int) := by
  unfold sh
  rw [Int.natCast_ediv]
  congr 1
theorem bit_tb {a : Int} (h : 0 ≤ a) (k : Nat) : bit a k = tb a k := by
  obtain ⟨n, rfl⟩ := Int.eq_ofNat_of_zero_le h
  unfold bit
  rw [sh_nat, tb_cast, Nat.testBit_eq_decide_div_mod_eq]
  rw [Bool.eq_iff_iff, beq_iff_eq, decide_eq_true_eq]
  omega
theorem up_nat {f : Nat → Bool} {n : Nat} (hn : n < 2 ^ 64) (hf : ∀ i, i < 64 → f i = n.testBit i) : ∀ j, j ≤ 64 → up f j = ((n / 2 ^ (64 - j) : Nat) : Int) := by
  intro j
  induction j with
  | zero =>
    intro _
    rw [Nat.div_eq_of_lt hn]
    rfl
  | succ j ih =>
    intro hj
    unfold up
    rw [ih (by omega), hf (63 - j) (by omega), Nat.testBit_eq_decide_div_mod_eq]
    have e : 64 - j = (64 - (j + 1)) + 1 := by omega
    have e2 : 63 - j = 64 - (j + 1) := by omega
    rw [e, Nat.pow_succ, ← Nat.div_div_eq_div_mul, e2]
    generalize n / 2 ^ (64 - (j + 1)) = q
    by_cases h : q % 2 = 1
    · simp [h]; omega
    · simp [h]; omega
theorem up_or {a b : Int} (ha : U a) (hb : U b) : up (fun i => bit a i || bit b i) 64 = bits .or .u64 a b := by
  obtain ⟨m, hm, hlt⟩ := (u_or ha hb).lift
  rw [up_nat hlt (fun i hi => by rw [bit_tb ha.1, bit_tb hb.1, ← tb_or ha hb, hm, tb_cast]) 64 (Nat.le_refl _), hm]
  simp
theorem sub_and {a b : Int} (ha : U a) (hb : U b) : sub a b = (bits .andNot .u64 a b == 0) := by
  rw [Bool.eq_iff_iff, sub_iff, andNot_zero ha hb]
  constructor
  · intro h i hi hx
    rw [← bit_tb hb.1]
    exact h i hi (by rw [bit_tb ha.1]; exact hx)
  · intro h i hi hx
    rw [bit_tb hb.1]
    exact h i hi (by rw [← bit_tb ha.1]; exact hx)

def bureauref01_Join.f (a0 : Int) (a1 : Int) : Option Int := if 0 ≤ a0 ∧ a0 ≤ 18446744073709551615 ∧ 0 ≤ a1 ∧ a1 ≤ 18446744073709551615 then some (bits .or .u64 a0 a1) else none
def bureauref01_Below.f (a0 : Int) (a1 : Int) : Option Bool := if 0 ≤ a0 ∧ a0 ≤ 18446744073709551615 ∧ 0 ≤ a1 ∧ a1 ≤ 18446744073709551615 then some (bits .andNot .u64 a0 a1 == 0) else none
theorem bureauref01_Join.of {a0 a1 : Int} (h0 : U a0) (h1 : U a1) : bureauref01_Join.f a0 a1 = some (bits .or .u64 a0 a1) := by
  unfold bureauref01_Join.f
  rw [if_pos ⟨h0.1, h0.2, h1.1, h1.2⟩]
theorem bureauref01_Below.of {a0 a1 : Int} (h0 : U a0) (h1 : U a1) : bureauref01_Below.f a0 a1 = some (bits .andNot .u64 a0 a1 == 0) := by
  unfold bureauref01_Below.f
  rw [if_pos ⟨h0.1, h0.2, h1.1, h1.2⟩]
theorem bureauref01_Join.calls (a0 : Int) (a1 : Int) (r : Int) (w : World) (h : bureauref01_Join.f a0 a1 = some r) :
    Calls Try.prog 6 #[.int .u64 a0, .int .u64 a1] w fun e w' => e = .returned (.int .u64 r) ∧ Below w.heap.size w w' := by
  unfold bureauref01_Join.f at h
  by_cases hc : 0 ≤ a0 ∧ a0 ≤ 18446744073709551615 ∧ 0 ≤ a1 ∧ a1 ≤ 18446744073709551615
  case neg => rw [if_neg hc] at h; cases h
  rw [if_pos hc] at h
  obtain ⟨h1, h2, h3, h4⟩ := hc
  obtain rfl := Option.some.inj h
  rw [← up_or ⟨h1, h2⟩ ⟨h3, h4⟩]
  exact Join_calls a0 a1 w h1 h2 h3 h4
theorem bureauref01_Below.calls (a0 : Int) (a1 : Int) (r : Bool) (w : World) (h : bureauref01_Below.f a0 a1 = some r) :
    Calls Try.prog 7 #[.int .u64 a0, .int .u64 a1] w fun e w' => e = .returned (.bool r) ∧ Below w.heap.size w w' := by
  unfold bureauref01_Below.f at h
  by_cases hc : 0 ≤ a0 ∧ a0 ≤ 18446744073709551615 ∧ 0 ≤ a1 ∧ a1 ≤ 18446744073709551615
  case neg => rw [if_neg hc] at h; cases h
  rw [if_pos hc] at h
  obtain ⟨h1, h2, h3, h4⟩ := hc
  obtain rfl := Option.some.inj h
  rw [← sub_and ⟨h1, h2⟩ ⟨h3, h4⟩]
  exact Below_calls a0 a1 w h1 h2 h3 h4

end Go.Proofs.Ytmbnambicnhdoaa.Ext
