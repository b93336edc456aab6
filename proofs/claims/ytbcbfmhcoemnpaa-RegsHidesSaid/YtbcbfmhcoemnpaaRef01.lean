/- What the reference's rows of marks come to: Marks, Label, Join, Below of bureauref01, each by its walk. -/
import Derived.Test.YtbcbfmhcoemnpaaProg
import Derived.WalkKit
import Derived.KernelRfl
import Derived.Lib.Hide
import Derived.Laws.Rows
import Derived.Laws.Tables
import Derived.Test.YtbcbfmhcoemnpaaWWords
set_option linter.unusedVariables false
set_option linter.unusedSimpArgs false
namespace Go.Proofs.Ytbcbfmhcoemnpaa.Ref01
open Go.RowKit Go.Proofs.YtbcbfmhcoemnpaaW.PrintWords

/-! ### plain -/
/-- a, shifted down. -/
def sh (a : Int) (k : Nat) : Int := a / 2 ^ k
/-- Bit k of a. -/
def bit (a : Int) (k : Nat) : Bool := sh a k % 2 == 1
theorem sh_zero (a : Int) : sh a 0 = a := by simp [sh]
theorem sh_succ (a : Int) (k : Nat) : sh a (k + 1) = sh a k / 2 := by
  unfold sh
  rw [Int.pow_succ, Int.mul_comm, Int.mul_comm, Int.ediv_ediv_of_nonneg (Int.le_of_lt (Int.pow_pos (by decide)))]
theorem sh_nonneg {a : Int} (h : 0 ≤ a) (k : Nat) : 0 ≤ sh a k := Int.ediv_nonneg h (Int.le_of_lt (Int.pow_pos (by decide)))

theorem sh_le {a : Int} (h : 0 ≤ a) (k : Nat) : sh a k ≤ a := Int.ediv_le_self _ h
theorem half_u64 {n : Int} (h0 : 0 ≤ n) (h1 : n ≤ 18446744073709551615) : IntKind.u64.wrap (n.tdiv 2) = n / 2 := by
  rw [Int.tdiv_eq_ediv_of_nonneg h0]
  simp only [IntKind.wrap, IntKind.bits, IntKind.signed]
  simp only [Bool.false_and, Bool.false_eq_true, if_false, Nat.reducePow]
  omega

def mk (f : Nat → Bool) : Array Value := ((List.range 64).map fun i => Value.bool (f i)).toArray
theorem mk_size (f : Nat → Bool) : (mk f).size = 64 := by simp [mk]
theorem mk_get (f : Nat → Bool) {j : Nat} (h : j < 64) : (mk f)[j]? = some (.bool (f j)) := by
  simp [mk, h]
theorem mk_set (f : Nat → Bool) (k : Nat) (b : Bool) : (mk f).setIfInBounds k (.bool b) = mk (fun i => if i = k then b else f i) := by
  apply Array.ext
  · simp [mk]
  · intro i h1 h2
    have hi : i < 64 := by simpa [mk] using h2
    rw [Array.getElem_setIfInBounds (by simpa [mk] using hi)]
    by_cases h : k = i
    · subst h; simp [mk]
    · simp [mk, h, Ne.symm h]
theorem mk_one (f : Nat → Bool) : (mk f).all (·.oneCell') = true := by simp [mk, Value.oneCell']
theorem mk_congr {f g : Nat → Bool} (h : ∀ i, i < 64 → f i = g i) : mk f = mk g := by
  unfold mk
  congr 1
  refine List.map_congr_left fun i hi => ?_
  rw [h i (List.mem_range.1 hi)]
theorem mk_false : (#[.bool false, .bool false, .bool false, .bool false, .bool false, .bool false, .bool false, .bool false, .bool false, .bool false, .bool false, .bool false, .bool false, .bool false, .bool false, .bool false, .bool false, .bool false, .bool false, .bool false, .bool false, .bool false, .bool false, .bool false, .bool false, .bool false, .bool false, .bool false, .bool false, .bool false, .bool false, .bool false, .bool false, .bool false, .bool false, .bool false, .bool false, .bool false, .bool false, .bool false, .bool false, .bool false, .bool false, .bool false, .bool false, .bool false, .bool false, .bool false, .bool false, .bool false, .bool false, .bool false, .bool false, .bool false, .bool false, .bool false, .bool false, .bool false, .bool false, .bool false, .bool false, .bool false, .bool false, .bool false] : Array Value) = mk (fun _ => false) := by rfl

/-- Marks so far. -/
def mto (a : Int) (k : Nat) : Nat → Bool := fun i => decide (i < k) && bit a i
theorem mto_zero (a : Int) : mk (mto a 0) = mk (fun _ => false) := mk_congr fun i _ => by simp [mto]
theorem mto_succ (a : Int) (k : Nat) : (mk (mto a k)).setIfInBounds k (.bool (sh a k % 2 == 1)) = mk (mto a (k + 1)) := by
  rw [mk_set]
  refine mk_congr fun i _ => ?_
  by_cases h : i = k
  · subst h; simp [mto, bit]
  · have : (i < k + 1) = (i < k) := by apply propext; omega
    simp [mto, h, this]
theorem mto_all (a : Int) : mk (mto a 64) = mk (bit a) := mk_congr fun i hi => by simp [mto, hi]

theorem u64_type : Try.prog.underlying 80 = some (.array 64 4) := Try.underlying80
theorem set_info : (Try.prog.info? 80).map (·.size) = some 64 := by kernel_rfl

theorem below_setRow {B : Nat} {a w : World} (h : Below B a w) {g : Nat} (hg : B ≤ g) (cs : Array Value) : Below B a (w.setRow g cs) :=
  h.trans ⟨rfl, rfl, rfl, by simp, fun k hk => setRow_other _ _ _ _ (by omega)⟩

set_option maxRecDepth 100000 in
set_option maxHeartbeats 1000000 in
theorem Marks_calls (a : Int) (w : World) (h0 : 0 ≤ a) (h1 : a ≤ 18446744073709551615) :
    Calls Try.prog 35 #[.int .u64 a] w fun e w' => e = .returned (.agg (mk (bit a))) ∧ Below w.heap.size w w' := by
  go_enter Try.func35, Try.ntmps35
  go_wp2
  go_loopw [4, 5] (fun n i wr => ∃ k : Nat, k ≤ 64 ∧ i = .int .i64 k ∧ n = .int .u64 (sh a k) ∧ Aside0 (wr.heap[w.heap.size + 1]? = some (.cells (mk (mto a k)) 80 (0, 0))) ∧ Aside0 (wr.heap[w.heap.size]? = some (.cells (mk fun _ => false) 80 (0, 0))) ∧ Aside0 (Below w.heap.size w wr)) (fun _ i _ => 64 - (intOf i).toNat)
  case atStart =>
    refine ⟨0, by omega, rfl, by rw [sh_zero], ⟨?_⟩, ⟨?_⟩, ⟨?_⟩⟩
    · rw [mto_zero, ← mk_false]
      exact heap_alloc2_new _ _ _
    · rw [← mk_false]
      exact heap_alloc2_old _ _ _
    · exact ((Below.refl _ _).alloc (Nat.le_refl _) _).alloc (by simp) _
  case round =>
    obtain ⟨k, hk, rfl, rfl, H1, H0, HB⟩ := hrel
    have hn := sh_nonneg h0 k
    by_cases hlt : k < 64
    · have hc : wr.cell? ⟨w.heap.size + 1, k, none⟩ = some (.bool (mto a k k)) := (cell_of_row _ _ _ _ _ _ H1.out).trans (mk_get _ hlt)
      have hf : wr.frozen? ⟨w.heap.size + 1, k, none⟩ = false := frozen_of_row _ _ _ _ _ H1.out
      go_wp2
      go_roundw
      case rel =>
        refine ⟨k + 1, by omega, by go_num, by rw [sh_succ, half_u64 hn (Int.le_trans (sh_le h0 k) h1)], ⟨?_⟩, ⟨?_⟩, ⟨?_⟩⟩
        · rw [heap_setCell_same _ _ _ _ _ _ H1.out, mto_succ]
        · rw [heap_setCell_other _ _ _ _ (by simp <;> omega)]
          exact H0.out
        · exact HB.out.setCell (by simp) _
      case measure => simp [intOf]; omega
    · have hk64 : k = 64 := by omega
      subst hk64
      clear hlt hk hn
      go_wp2_with (first | (refine wpList_load_row rfl 80 _ rfl (w.heap.size + 1) rfl 80 _ (0, 0) _ H1.out u64_type rfl (by rw [mk_size]; exact set_info) ?_) | (refine wpList_store_row rfl 80 _ _ rfl w.heap.size _ rfl rfl 80 _ H0.out (by rw [mk_size]; exact set_info) (by rw [mk_size, mk_size]) (mk_one _) ?_))
      refine bodyPost_ret (v := .agg (mk (mto a 64))) (results_cell_row rfl _ _ w.heap.size 80 _ (0, 0) _ rfl (setRow_heap _ _ _ _ _ _ H0.out) u64_type rfl (by rw [mk_size]; exact set_info)) rfl ⟨by rw [mto_all], ?_⟩
      exact below_setRow HB.out (Nat.le_refl _) _

/-- The number of marks, from the last one down. -/
def up (f : Nat → Bool) : Nat → Int
  | 0 => 0
  | j + 1 => up f j * 2 + (if f (63 - j) then 1 else 0)
theorem up_bound (f : Nat → Bool) (j : Nat) : 0 ≤ up f j ∧ up f j + 1 ≤ 2 ^ j := by
  induction j with
  | zero => simp [up]
  | succ j ih =>
    have h : (2 : Int) ^ (j + 1) = 2 ^ j * 2 := Int.pow_succ _ _
    unfold up
    rw [h]
    split <;> omega
theorem up_le {f : Nat → Bool} {j : Nat} (h : j ≤ 63) : up f j ≤ 9223372036854775807 := by
  have h1 := (up_bound f j).2
  have h2 : (2 : Int) ^ j ≤ 2 ^ 63 := by
    have := Nat.pow_le_pow_right (n := 2) (by decide) h
    exact_mod_cast this
  have h3 : (2 : Int) ^ 63 = 9223372036854775808 := by decide
  omega

theorem size_alloc_ (w : World) (o : Obj) : (w.alloc o).heap.size = w.heap.size + 1 := by simp

/-- Two rows laid together so far. -/
def jto (x y : Nat → Bool) (k : Nat) : Nat → Bool := fun i => decide (i < k) && (x i || y i)
theorem jto_zero (x y : Nat → Bool) : mk (jto x y 0) = mk (fun _ => false) := mk_congr fun i _ => by simp [jto]
theorem jto_succ (x y : Nat → Bool) (k : Nat) : (mk (jto x y k)).setIfInBounds k (.bool (x k || y k)) = mk (jto x y (k + 1)) := by
  rw [mk_set]
  refine mk_congr fun i _ => ?_
  by_cases h : i = k
  · subst h; simp [jto]
  · have : (i < k + 1) = (i < k) := by apply propext; omega
    simp [jto, h, this]
theorem jto_all (x y : Nat → Bool) : mk (jto x y 64) = mk (fun i => x i || y i) := mk_congr fun i hi => by simp [jto, hi]

/-- Is each mark of a one of b? -/
def sub (a b : Int) : Bool := (List.range 64).all fun i => !(bit a i) || bit b i
theorem sub_iff (a b : Int) : sub a b = true ↔ ∀ i, i < 64 → bit a i = true → bit b i = true := by
  unfold sub
  rw [List.all_eq_true]
  constructor
  · intro h i hi ha
    have := h i (List.mem_range.2 hi)
    simpa [ha] using this
  · intro h i hi
    have := h i (List.mem_range.1 hi)
    cases hb : bit a i
    · simp
    · simp [this hb]

set_option maxRecDepth 100000 in
set_option maxHeartbeats 2000000 in
theorem Below_calls (a b : Int) (w : World) (a0 : 0 ≤ a) (a1 : a ≤ 18446744073709551615) (b0 : 0 ≤ b) (b1 : b ≤ 18446744073709551615) :
    Calls Try.prog 30 #[.int .u64 a, .int .u64 b] w fun e w' => e = .returned (.bool (sub a b)) ∧ Below w.heap.size w w' := by
  go_enter Try.func30, Try.ntmps30
  go_wp2_with fail
  refine (Marks_calls a _ a0 a1).mono ?_
  rintro e w1 ⟨rfl, hb1⟩
  go_wp2_with fail
  refine (Marks_calls b _ b0 b1).mono ?_
  rintro e w2 ⟨rfl, hb2⟩
  have HB := Aside0.mk (below_then hb1 (hb1.size) hb2)
  have HS := Aside0.mk (Nat.le_trans hb1.size hb2.size)
  clear hb1 hb2
  go_wp2_with (first | ((with_reducible refine wpList_store_row rfl 80 _ _ rfl w2.heap.size (mk (bit a)) ?hx ?hy 80 (mk fun _ => false) ?hg ?hi ?ho ?h1 ?_); (case hx => rfl); (case hy => rfl); (case hg => rw [← mk_false]; exact heap_alloc2_old _ _ _); (case hi => rw [mk_size]; exact set_info); (case ho => rw [mk_size, mk_size]); (case h1 => exact mk_one _)) | ((with_reducible refine wpList_store_row rfl 80 _ _ rfl (w2.heap.size + 1) (mk (bit b)) ?hx ?hy 80 (mk fun _ => false) ?hg ?hi ?ho ?h1 ?_); (case hx => rfl); (case hy => rfl); (case hg => rw [← mk_false]; exact (setRow_other _ _ _ _ (by omega)).trans (heap_alloc2_new _ _ _)); (case hi => rw [mk_size]; exact set_info); (case ho => rw [mk_size, mk_size]); (case h1 => exact mk_one _)))
  go_loopw [7] (fun i wr => ∃ k : Nat, k ≤ 64 ∧ i = .int .i64 k ∧ Aside0 (∀ j, j < k → bit a j = true → bit b j = true) ∧ Aside0 (wr.heap[w2.heap.size]? = some (.cells (mk (bit a)) 80 (0, 0))) ∧ Aside0 (wr.heap[w2.heap.size + 1]? = some (.cells (mk (bit b)) 80 (0, 0))) ∧ Aside0 (Below w.heap.size w wr)) (fun i _ => 64 - (intOf i).toNat)
  case atStart =>
    refine ⟨0, by omega, rfl, ⟨fun j hj => absurd hj (by omega)⟩, ⟨?_⟩, ⟨?_⟩, ⟨?_⟩⟩
    · rw [setRow_other _ _ _ _ (by omega)]
      exact setRow_heap _ _ _ _ _ _ (heap_alloc2_old _ _ _)
    · exact setRow_heap _ _ _ _ _ _ ((setRow_other _ _ _ _ (by omega)).trans (heap_alloc2_new _ _ _))
    · have hs := HS.out
      exact below_setRow (below_setRow ((HB.out.alloc hs _).alloc (by simp; omega) _) hs _) (by omega) _
  case round =>
    obtain ⟨k, hk, rfl, HA, H5, H6, HB'⟩ := hrel
    by_cases hlt : k < 64
    · have hc5 : wr.cell? ⟨w2.heap.size, k, none⟩ = some (.bool (bit a k)) := (cell_of_row _ _ _ _ _ _ H5.out).trans (mk_get _ hlt)
      have hc6 : wr.cell? ⟨w2.heap.size + 1, k, none⟩ = some (.bool (bit b k)) := (cell_of_row _ _ _ _ _ _ H6.out).trans (mk_get _ hlt)
      by_cases hgo : bit a k = true ∧ bit b k = false
      · have hno : Aside0 (sub a b = false) := ⟨by
          rw [← Bool.not_eq_true, sub_iff]
          intro h
          have := h k hlt hgo.1
          rw [hgo.2] at this
          cases this⟩
        rw [hgo.1] at hc5
        rw [hgo.2] at hc6
        clear hgo
        go_wp2
        go_ret
        rw [hno.out]
        exact ⟨rfl, HB'.out⟩
      · have HA' : Aside0 (∀ j, j < k + 1 → bit a j = true → bit b j = true) := ⟨fun j hj h1 => by
          by_cases hjk : j = k
          · subst hjk
            cases hb : bit b j
            · exact absurd ⟨h1, hb⟩ hgo
            · rfl
          · exact HA.out j (by omega) h1⟩
        cases hfa : bit a k
        · rw [hfa] at hc5
          clear hfa hgo
          go_wp2
          go_roundw
          case rel => exact ⟨k + 1, by omega, by go_num, HA', H5, H6, HB'⟩
          case measure => simp [intOf]; omega
        · have hfb : bit b k = true := HA'.out k (by omega) hfa
          rw [hfa] at hc5
          rw [hfb] at hc6
          clear hfa hfb hgo
          go_wp2
          go_roundw
          case rel => exact ⟨k + 1, by omega, by go_num, HA', H5, H6, HB'⟩
          case measure => simp [intOf]; omega
    · have hk64 : k = 64 := by omega
      subst hk64
      have hyes : Aside0 (sub a b = true) := ⟨by
        rw [sub_iff]
        exact HA.out⟩
      clear hlt hk
      go_wp2
      go_ret
      rw [hyes.out]
      exact ⟨rfl, HB'.out⟩
end Go.Proofs.Ytbcbfmhcoemnpaa.Ref01
