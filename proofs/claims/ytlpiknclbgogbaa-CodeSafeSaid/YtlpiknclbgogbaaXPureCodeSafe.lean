/- No way through a program that is taken asks for a value that is not there, holds more than sixteen, or goes out of the program: for all lists of at most 2048 and all ways. -/
import Derived.Test.YtlpiknclbgogbaaXCodeSafex7
import Derived.Test.YtlpiknclbgogbaaExtShapesD
import Derived.OpenShut
set_option linter.unusedVariables false
set_option linter.unusedSimpArgs false
namespace Go.Proofs.Ytlpiknclbgogbaa.Pure
open Go.RowKit Go.Proofs.Ytlpiknclbgogbaa.XCodeSafe Go.Proofs.YtlpiknclbgogbaaW.PrintWords Go.Proofs.YtlpiknclbgogbaaW.PrintMore Go.Proofs.Ytlpiknclbgogbaa.Ext

theorem LeO.le_ {α : Type} {g : Nat → Option α} (hg : ∀ k, LeO (g k) (g (k + 1))) {a b : Nat} {r : α} (h : g a = some r) (hab : a ≤ b) : g b = some r := by
  induction b with
  | zero => rw [show (0 : Nat) = a by omega]; exact h
  | succ b ih =>
    rcases Nat.lt_or_ge a (b + 1) with hlt | hge
    · exact hg b r (ih (by omega))
    · rw [show b + 1 = a by omega]; exact h
/-- May an instruction be? -/
def mayB (op a : Int) : Bool :=
  if op = 1 then decide (-32768 ≤ a ∧ a ≤ 32767) else if op = 12 ∨ op = 13 ∨ op = 16 then decide (0 ≤ a ∧ a ≤ 7) else if op = 14 ∨ op = 15 then decide (0 ≤ a ∧ a ≤ 255) else decide (0 ≤ op ∧ op ≤ 16 ∧ a = 0)
def ctakes (op a : Int) : Int := if op = 2 ∨ op = 3 ∨ op = 11 ∨ op = 13 ∨ op = 15 then 1 else if 4 ≤ op ∧ op ≤ 10 then 2 else if op = 16 then callTakes a else 0
def cgives (op : Int) : Int := if op = 3 ∨ op = 4 then 2 else if op = 1 ∨ (5 ≤ op ∧ op ≤ 12) ∨ op = 16 then 1 else 0
def clong (op : Int) : Bool := decide (op = 1 ∨ (12 ≤ op ∧ op ≤ 16))
theorem op_cases (op : Int) : op = 0 ∨ op = 1 ∨ op = 2 ∨ op = 3 ∨ op = 4 ∨ op = 5 ∨ op = 6 ∨ op = 7 ∨ op = 8 ∨ op = 9 ∨ op = 10 ∨ op = 11 ∨ op = 12 ∨ op = 13 ∨ op = 14 ∨ op = 15 ∨ op = 16 ∨ (op < 0 ∨ 16 < op) := by omega
theorem shapes_no {op : Int} (h : op < 0 ∨ 16 < op) (a : Int) : code_shapes.f op a = some (0, 0, 0, 0, false, false) := by
  unfold code_shapes.f
  repeat rw [if_neg (by omega)]
theorem mayB_no {op : Int} (h : op < 0 ∨ 16 < op) (a : Int) : mayB op a = false := by
  unfold mayB
  rw [if_neg (by omega), if_neg (by omega), if_neg (by omega)]
  exact decide_eq_false (by omega)
theorem ge_and (a lo hi : Int) : (if a ≥ lo then decide (a ≤ hi) else false) = decide (lo ≤ a ∧ a ≤ hi) := by
  by_cases h : a ≥ lo
  · rw [if_pos h]
    have : lo ≤ a := h
    simp [this]
  · rw [if_neg h]
    have : ¬ lo ≤ a := h
    simp [this]
def slo (op : Int) : Int := if op = 1 then -32768 else 0
def shi (op : Int) : Int := if op = 1 then 32767 else if op = 12 ∨ op = 13 ∨ op = 16 then 7 else if op = 14 ∨ op = 15 then 255 else 0
theorem shapes_eq {op : Int} (h : 0 ≤ op ∧ op ≤ 16) (a : Int) : code_shapes.f op a = some (ctakes op a, cgives op, slo op, shi op, clong op, true) := by
  rcases op_cases op with rfl | rfl | rfl | rfl | rfl | rfl | rfl | rfl | rfl | rfl | rfl | rfl | rfl | rfl | rfl | rfl | rfl | h
  case inr.inr.inr.inr.inr.inr.inr.inr.inr.inr.inr.inr.inr.inr.inr.inr.inr => omega
  all_goals rfl
theorem mayB_yes {op : Int} (h : 0 ≤ op ∧ op ≤ 16) (a : Int) : mayB op a = decide (slo op ≤ a ∧ a ≤ shi op) := by
  unfold mayB slo shi
  by_cases h1 : op = 1
  · simp only [if_pos h1]
  · simp only [if_neg h1]
    by_cases h2 : op = 12 ∨ op = 13 ∨ op = 16
    · simp only [if_pos h2]
    · simp only [if_neg h2]
      by_cases h3 : op = 14 ∨ op = 15
      · simp only [if_pos h3]
      · simp only [if_neg h3]
        rw [Bool.eq_iff_iff, decide_eq_true_eq, decide_eq_true_eq]
        omega
/-- What the program's look at an instruction tells. -/
theorem cmay_eq (op a : Int) : ∃ lo hi, code_may.f op a = some (if 0 ≤ op ∧ op ≤ 16 then ctakes op a else 0, if 0 ≤ op ∧ op ≤ 16 then cgives op else 0, lo, hi, clong op, mayB op a) := by
  unfold code_may.f
  by_cases h : 0 ≤ op ∧ op ≤ 16
  · rw [shapes_eq h, Option.bind_some, if_pos h, if_pos h, mayB_yes h, ← ge_and]
    refine ⟨slo op, shi op, ?_⟩
    simp only [if_true]
    split <;> rfl
  · have hn : op < 0 ∨ 16 < op := by omega
    rw [shapes_no hn, Option.bind_some]
    refine ⟨0, 0, ?_⟩
    have hc : clong op = false := decide_eq_false (by omega)
    rw [mayB_no hn, hc, if_neg h, if_neg h]
    rfl
theorem within_eq (a lo hi : Int) : bureauref21_within.f a lo hi = some (decide (lo ≤ a ∧ a ≤ hi)) := by
  unfold bureauref21_within.f
  rw [← ge_and]
  split <;> rfl
theorem rmay_eq (k : Nat) (op a : Int) : bureauref21_May.f (k + 3) op a = some (mayB op a) := by
  unfold bureauref21_May.f mayB
  by_cases h1 : op = 1
  · rw [if_pos h1, if_pos h1, within_eq]; rfl
  · rw [if_neg h1, if_neg h1]
    by_cases h2 : op = 12 ∨ op = 13 ∨ op = 16
    · rw [if_pos h2]
      rcases h2 with rfl | rfl | rfl <;> simp [bureauref21_May.j0, within_eq]
    · rw [if_neg h2, if_neg (by omega), if_neg (by omega)]
      simp only [bureauref21_May.j0]
      rw [if_neg (by simp; omega)]
      by_cases h3 : op = 14 ∨ op = 15
      · rw [if_pos h3]
        rcases h3 with rfl | rfl <;> simp [bureauref21_May.j1, within_eq]
      · rw [if_neg h3, if_neg (by omega)]
        simp only [bureauref21_May.j1]
        rw [if_neg (by simp; omega), within_eq, Option.bind_some]
        by_cases h4 : 0 ≤ op ∧ op ≤ 16
        · rw [if_pos (by simpa using h4)]
          congr 1
          rw [Bool.eq_iff_iff]
          simp [h4]
        · rw [if_neg (by simpa using h4)]
          congr 1
          symm
          apply decide_eq_false
          omega
theorem rtakes_eq (k : Nat) (op a : Int) : bureauref21_Takes.f (k + 8) op a = some (if mayB op a then ctakes op a else -1) := by
  unfold bureauref21_Takes.f
  rw [rmay_eq (k + 5), Option.bind_some]
  by_cases hm : mayB op a = true
  · rw [if_pos hm, if_pos hm]
    rcases op_cases op with rfl | rfl | rfl | rfl | rfl | rfl | rfl | rfl | rfl | rfl | rfl | rfl | rfl | rfl | rfl | rfl | rfl | h
    case inr.inr.inr.inr.inr.inr.inr.inr.inr.inr.inr.inr.inr.inr.inr.inr.inr => rw [mayB_no h] at hm; cases hm
    case inr.inr.inr.inr.inr.inr.inr.inr.inr.inr.inr.inr.inr.inr.inr.inr.inl =>
      have h8 : a = 0 ∨ a = 1 ∨ a = 2 ∨ a = 3 ∨ a = 4 ∨ a = 5 ∨ a = 6 ∨ a = 7 := by
        simp [mayB] at hm
        omega
      rcases h8 with rfl | rfl | rfl | rfl | rfl | rfl | rfl | rfl <;> rfl
    all_goals rfl
  · rw [if_neg hm, if_neg hm]
theorem rgives_eq (k : Nat) (op a : Int) : bureauref21_Gives.f (k + 4) op a = some (if mayB op a then cgives op else -1) := by
  unfold bureauref21_Gives.f
  rw [rmay_eq (k + 1), Option.bind_some]
  by_cases hm : mayB op a = true
  · rw [if_pos hm, if_pos hm]
    rcases op_cases op with rfl | rfl | rfl | rfl | rfl | rfl | rfl | rfl | rfl | rfl | rfl | rfl | rfl | rfl | rfl | rfl | rfl | h
    case inr.inr.inr.inr.inr.inr.inr.inr.inr.inr.inr.inr.inr.inr.inr.inr.inr => rw [mayB_no h] at hm; cases hm
    all_goals rfl
  · rw [if_neg hm, if_neg hm]
theorem wrap_nat {n : Nat} (h : n < 4611686018427387904) : wrap64 (n : Int) = n := by
  unfold wrap64
  omega
theorem wrap_succ {i : Nat} (h : i < 4611686018427387904) : wrap64 ((i : Int) + 1) = ((i + 1 : Nat) : Int) := by
  unfold wrap64
  omega
theorem drop_cons {α : Type} {xs : List α} {i : Nat} (h : i < xs.length) : xs.drop i = xs[i] :: xs.drop (i + 1) := List.drop_eq_getElem_cons h
theorem rd36 {xs : List S36} {i : Nat} (h : i < xs.length) : rd_T36 xs (i : Int) = xs[i] := by
  unfold rd_T36
  simp [List.getD, h]
theorem rd41 {xs : List S41} {i : Nat} (h : i < xs.length) : rd_T41 xs (i : Int) = xs[i] := by
  unfold rd_T41
  simp [List.getD, h]
def to41 (x : S36) : S41 := ⟨x.f0, x.f1⟩
def to36 (x : S41) : S36 := ⟨x.f0, x.f1⟩
def mk41 (p : Int × Int) : S41 := ⟨p.1, p.2⟩
def mk36 (p : Int × Int) : S36 := ⟨p.1, p.2⟩
theorem theirs_l0 (xs : List S36) (hx : xs.length < 1000000) : ∀ (d i k : Nat) (acc : List S41), xs.length - i = d → i ≤ xs.length → d < k → acc.length + d < 1000000 → bureaulaw21_Theirs.l0 k acc xs (xs.length : Int) (i : Int) = some (acc ++ (xs.drop i).map to41) := by
  intro d
  induction d with
  | zero =>
    intro i k acc hd hi hk _
    obtain ⟨k, rfl⟩ : ∃ m, k = m + 1 := ⟨k - 1, by omega⟩
    simp only [bureaulaw21_Theirs.l0]
    rw [if_neg (by omega), List.drop_eq_nil_of_le (by omega)]
    simp
  | succ d ih =>
    intro i k acc hd hi hk ha
    obtain ⟨k, rfl⟩ : ∃ m, k = m + 1 := ⟨k - 1, by omega⟩
    have hlt : i < xs.length := by omega
    simp only [bureaulaw21_Theirs.l0]
    rw [if_pos (by omega), if_pos (by omega), if_pos (by omega), if_pos (by omega), wrap_succ (by omega), ih (i + 1) k _ (by omega) (by omega) (by omega) (by simp; omega), drop_cons hlt, rd36 hlt, List.map_cons, List.append_assoc]
    rfl
theorem Theirs_eq {xs : List S36} (hx : xs.length < 1000000) {k : Nat} (hk : xs.length < k) : bureaulaw21_Theirs.f k xs = some (xs.map to41) := by
  unfold bureaulaw21_Theirs.f
  have := theirs_l0 xs hx xs.length 0 k [] (by omega) (by omega) hk (by simp; omega)
  simpa using this

/-! ### bytes of instructions -/
def ib (op a : Int) : List Int := op % 256 :: if clong op then [a / 256 % 256, a % 256] else []
def encR (acc : List Int) (l : List (Int × Int)) : List Int × Int := if l.all (fun p => mayB p.1 p.2) then (acc ++ l.flatMap (fun p => ib p.1 p.2), 0) else ([], 2)
theorem encR_nil (acc : List Int) : encR acc [] = (acc, 0) := by simp [encR]
theorem encR_yes (acc : List Int) {p : Int × Int} (l : List (Int × Int)) (h : mayB p.1 p.2 = true) : encR acc (p :: l) = encR (acc ++ ib p.1 p.2) l := by
  unfold encR
  rw [List.all_cons, h, Bool.true_and, List.flatMap_cons, List.append_assoc]
theorem encR_no (acc : List Int) {p : Int × Int} (l : List (Int × Int)) (h : ¬ mayB p.1 p.2 = true) : encR acc (p :: l) = ([], 2) := by
  unfold encR
  rw [List.all_cons, Bool.eq_false_iff.mpr h, Bool.false_and, if_neg (by simp)]
def un41 (x : S41) : Int × Int := (x.f0, x.f1)
theorem enc_l0 (xs : List S41) (hx : xs.length < 1000) : ∀ (d i k : Nat) (acc : List Int), xs.length - i = d → i ≤ xs.length → d < k → acc.length + 3 * d < 1000000 → code_Encode.l0 k acc xs (xs.length : Int) (i : Int) = some (encR acc ((xs.drop i).map un41)) := by
  intro d
  induction d with
  | zero =>
    intro i k acc hd hi hk _
    obtain ⟨k, rfl⟩ : ∃ m, k = m + 1 := ⟨k - 1, by omega⟩
    simp only [code_Encode.l0]
    rw [if_neg (by omega), List.drop_eq_nil_of_le (by omega), List.map_nil, encR_nil]
  | succ d ih =>
    intro i k acc hd hi hk ha
    obtain ⟨k, rfl⟩ : ∃ m, k = m + 1 := ⟨k - 1, by omega⟩
    have hlt : i < xs.length := by omega
    simp only [code_Encode.l0]
    rw [if_pos (by omega), if_pos (by omega), if_pos (by omega), rd41 hlt, drop_cons hlt, List.map_cons]
    obtain ⟨lo, hi', hm⟩ := cmay_eq xs[i].f0 xs[i].f1
    rw [hm, Option.bind_some]
    simp only []
    by_cases hb : mayB xs[i].f0 xs[i].f1 = true
    · rw [if_pos hb, if_pos (by omega), Option.bind_some, encR_yes _ _ hb]
      simp only [un41]
      unfold ib
      cases hc : clong xs[i].f0
      · rw [if_neg (by simp), if_neg (by simp), wrap_succ (by omega)]
        exact ih (i + 1) k _ (by omega) (by omega) (by omega) (by simp; omega)
      · rw [if_pos rfl, if_pos rfl, Option.bind_some, if_pos (by simp; omega), wrap_succ (by omega), List.append_assoc]
        exact ih (i + 1) k _ (by omega) (by omega) (by omega) (by simp; omega)
    · rw [if_neg hb, encR_no _ _ hb]
theorem Encode_eq {xs : List S41} {k : Nat} (hk : 300 < k) : code_Encode.f k xs = some (if xs.length > 256 then ([], 3) else encR [] (xs.map un41)) := by
  unfold code_Encode.f
  by_cases h : xs.length > 256
  · rw [if_pos (by omega), if_pos h]
  · rw [if_neg (by omega), if_neg h]
    have := enc_l0 xs (by omega) xs.length 0 k [] (by omega) (by omega) (by omega) (by simp; omega)
    simpa using this

/-! ### instructions of bytes -/
/-- The number of two bytes, as instruction op has it. -/
theorem rd_nat {xs : List Int} {i : Nat} (h : i < xs.length) : rd xs (i : Int) = xs[i] := by
  unfold rd
  simp [List.getD, h]
/-! ### programs as graphs: which instruction is come to, with how many values -/
def pop (ps : List (Int × Int)) (i : Nat) : Int := (ps.getD i (0, 0)).1
def parg (ps : List (Int × Int)) (i : Nat) : Int := (ps.getD i (0, 0)).2
def pt (ps : List (Int × Int)) (i : Nat) : Int := ctakes (pop ps i) (parg ps i)
def pg (ps : List (Int × Int)) (i : Nat) : Int := cgives (pop ps i)
theorem pg_nonneg (ps : List (Int × Int)) (i : Nat) : 0 ≤ pg ps i := by
  unfold pg cgives
  split
  · omega
  · split <;> omega
def suc (ps : List (Int × Int)) (i : Nat) : List Int := if pop ps i = 0 then [] else if pop ps i = 14 then [parg ps i] else if pop ps i = 15 then [parg ps i, (i : Int) + 1] else [(i : Int) + 1]
def Rch (ps : List (Int × Int)) : Nat → Nat → Int → Prop
  | 0, i, n => i = 0 ∧ n = 0
  | s + 1, i, n => ∃ j m, Rch ps s j m ∧ j < ps.length ∧ pt ps j ≤ m ∧ m - pt ps j + pg ps j ≤ 16 ∧ (i : Int) ∈ suc ps j ∧ n = m - pt ps j + pg ps j
def Come (ps : List (Int × Int)) (i : Nat) (n : Int) : Prop := ∃ s, Rch ps s i n
theorem Come.zero (ps : List (Int × Int)) : Come ps 0 0 := ⟨0, rfl, rfl⟩
theorem Come.step {ps : List (Int × Int)} {i j : Nat} {n : Int} (h : Come ps i n) (hi : i < ps.length) (h1 : pt ps i ≤ n) (h2 : n - pt ps i + pg ps i ≤ 16) (hj : (j : Int) ∈ suc ps i) : Come ps j (n - pt ps i + pg ps i) := by
  obtain ⟨s, hs⟩ := h
  exact ⟨s + 1, i, n, hs, hi, h1, h2, hj, rfl⟩
/-- What may not be: too few or too many values, a way out of the program, two numbers of values at one instruction. -/
def Bad (ps : List (Int × Int)) : Prop :=
  (∃ i n, Come ps i n ∧ i < ps.length ∧ (n < pt ps i ∨ n - pt ps i + pg ps i > 16)) ∨ (∃ i n j, Come ps i n ∧ i < ps.length ∧ pt ps i ≤ n ∧ n - pt ps i + pg ps i ≤ 16 ∧ (j : Int) ∈ suc ps i ∧ (ps.length : Int) ≤ j) ∨ (∃ i n m, Come ps i n ∧ Come ps i m ∧ n ≠ m)
/-- What one instruction asks of the numbers. -/
def Sat (ps : List (Int × Int)) (d : List Int) (i : Nat) : Prop := pt ps i ≤ d.getD i (-1) ∧ d.getD i (-1) - pt ps i + pg ps i ≤ 16 ∧ ∀ t ∈ suc ps i, 0 ≤ t ∧ t < ps.length ∧ d.getD t.toNat (-1) = d.getD i (-1) - pt ps i + pg ps i
/-- Numbers that are right: all that is come to, and nothing else. -/
structure Right (ps : List (Int × Int)) (d : List Int) : Prop where
  len : d.length = ps.length
  zero : d.getD 0 (-1) = 0
  low : ∀ i, i < ps.length → -1 ≤ d.getD i (-1)
  come : ∀ i, i < ps.length → 0 ≤ d.getD i (-1) → Come ps i (d.getD i (-1))
  sat : ∀ i, i < ps.length → 0 ≤ d.getD i (-1) → Sat ps d i
theorem Right.tells {ps : List (Int × Int)} {d : List Int} (h : Right ps d) (h0 : 0 < ps.length) : ∀ (s i : Nat) (n : Int), Rch ps s i n → i < ps.length ∧ d.getD i (-1) = n ∧ 0 ≤ n := by
  intro s
  induction s with
  | zero =>
    rintro i n ⟨rfl, rfl⟩
    exact ⟨h0, h.zero, by omega⟩
  | succ s ih =>
    rintro i n ⟨j, m, hj, hl, h1, h2, h3, rfl⟩
    obtain ⟨_, e, e0⟩ := ih j m hj
    obtain ⟨_, _, hs⟩ := h.sat j hl (by omega)
    obtain ⟨_, h4, h5⟩ := hs _ h3
    have hgj := pg_nonneg ps j
    refine ⟨by omega, ?_, by omega⟩
    rw [Int.toNat_natCast] at h5
    rw [h5, e]
theorem Right.good {ps : List (Int × Int)} {d : List Int} (h : Right ps d) (h0 : 0 < ps.length) : ¬ Bad ps := by
  rintro (⟨i, n, ⟨s, hs⟩, hi, hb⟩ | ⟨i, n, j, ⟨s, hs⟩, hi, _, _, hj, hl⟩ | ⟨i, n, m, ⟨s, hs⟩, ⟨s', hs'⟩, hne⟩)
  · obtain ⟨_, e, e0⟩ := h.tells h0 s i n hs
    obtain ⟨h1, h2, _⟩ := h.sat i hi (by omega)
    omega
  · obtain ⟨_, e, e0⟩ := h.tells h0 s i n hs
    obtain ⟨_, _, h3⟩ := h.sat i hi (by omega)
    have := (h3 _ hj).2.1
    omega
  · obtain ⟨_, e, _⟩ := h.tells h0 s i n hs
    obtain ⟨_, e', _⟩ := h.tells h0 s' i m hs'
    omega
theorem Right.one {ps : List (Int × Int)} {d d' : List Int} (h : Right ps d) (h' : Right ps d') (h0 : 0 < ps.length) : d = d' := by
  refine List.ext_getElem (h.len.trans h'.len.symm) fun i h1 h2 => ?_
  have hi : i < ps.length := by rw [← h.len]; exact h1
  have e1 : d.getD i (-1) = d[i] := by simp [List.getD, h1]
  have e2 : d'.getD i (-1) = d'[i] := by simp [List.getD, h2]
  rw [← e1, ← e2]
  by_cases c : 0 ≤ d.getD i (-1)
  · obtain ⟨s, hs⟩ := h.come i hi c
    exact (h'.tells h0 s i _ hs).2.1.symm
  · by_cases c' : 0 ≤ d'.getD i (-1)
    · obtain ⟨s, hs⟩ := h'.come i hi c'
      exact (h.tells h0 s i _ hs).2.1
    · have := h.low i hi
      have := h'.low i hi
      omega
/-- The numbers on the way: what is marked is come to; 'todo' and 'at': what isn't looked at yet. -/
structure On (ps : List (Int × Int)) (d : List Int) (open_ : Nat → Prop) : Prop where
  len : d.length = ps.length
  zero : d.getD 0 (-1) = 0
  low : ∀ i, i < ps.length → -1 ≤ d.getD i (-1) ∧ d.getD i (-1) ≤ 16
  come : ∀ i, i < ps.length → 0 ≤ d.getD i (-1) → Come ps i (d.getD i (-1))
  sat : ∀ i, i < ps.length → 0 ≤ d.getD i (-1) → open_ i ∨ Sat ps d i
theorem On.right {ps : List (Int × Int)} {d : List Int} {o : Nat → Prop} (h : On ps d o) (ho : ∀ i, i < ps.length → 0 ≤ d.getD i (-1) → ¬ o i) : Right ps d :=
  ⟨h.len, h.zero, fun i hi => (h.low i hi).1, h.come, fun i hi h0 => (h.sat i hi h0).resolve_left (ho i hi h0)⟩
theorem On.mono {ps : List (Int × Int)} {d : List Int} {o o' : Nat → Prop} (h : On ps d o) (ho : ∀ i, i < ps.length → 0 ≤ d.getD i (-1) → o i → o' i ∨ Sat ps d i) : On ps d o' :=
  ⟨h.len, h.zero, h.low, h.come, fun i hi h0 => (h.sat i hi h0).elim (ho i hi h0) .inr⟩
theorem getD_set (d : List Int) (i j : Nat) (n : Int) (hi : i < d.length) : (d.set i n).getD j (-1) = if j = i then n else d.getD j (-1) := by
  by_cases h : j = i
  · subst h
    simp [List.getD, hi]
  · rw [if_neg h]
    simp [List.getD, List.getElem?_set, Ne.symm h]
/-- One more is marked. -/
theorem On.mark {ps : List (Int × Int)} {d : List Int} {o : Nat → Prop} (h : On ps d o) {t : Nat} {n : Int} (ht : t < ps.length) (hu : d.getD t (-1) < 0) (hn : 0 ≤ n ∧ n ≤ 16) (hc : Come ps t n) : On ps (d.set t n) (fun i => o i ∨ i = t) := by
  have hl : t < d.length := by rw [h.len]; exact ht
  have hz : ¬ 0 = t := by
    rintro rfl
    rw [h.zero] at hu
    omega
  refine ⟨by rw [List.length_set]; exact h.len, by rw [getD_set _ _ _ _ hl, if_neg hz]; exact h.zero, fun i hi => ?_, fun i hi h0 => ?_, fun i hi h0 => ?_⟩
  · rw [getD_set _ _ _ _ hl]
    have := h.low i hi
    split <;> omega
  · rw [getD_set _ _ _ _ hl] at h0 ⊢
    split
    · rename_i e; rw [e]; exact hc
    · rename_i e; rw [if_neg e] at h0; exact h.come i hi h0
  · by_cases e : i = t
    · exact .inl (.inr e)
    · rw [getD_set _ _ _ _ hl, if_neg e] at h0
      rcases h.sat i hi h0 with ho | ⟨s1, s2, s3⟩
      · exact .inl (.inl ho)
      · right
        unfold Sat
        rw [getD_set _ _ _ _ hl, if_neg e]
        refine ⟨s1, s2, fun q hq => ?_⟩
        obtain ⟨q0, q1, q2⟩ := s3 q hq
        refine ⟨q0, q1, ?_⟩
        rw [getD_set _ _ _ _ hl]
        have hp := pg_nonneg ps i
        rw [if_neg (fun e' => by rw [e'] at q2; omega)]
        exact q2

/-! ### the ways on from one instruction, one by one -/
/-- The program's: the marks and what is to be looked at; nothing: refused. -/
def inner (N : Nat) (n : Int) : List Int → List Int → List Nat → Option (List Int × List Nat)
  | [], d, td => some (d, td)
  | t :: r, d, td => if t ≥ (N : Int) ∨ (0 ≤ d.getD t.toNat (-1) ∧ d.getD t.toNat (-1) ≠ n) then none else if d.getD t.toNat (-1) < 0 then inner N n r (d.set t.toNat n) (td ++ [t.toNat]) else inner N n r d td
def unm (d : List Int) : Nat := d.countP (fun x => decide (x < 0))
theorem unm_set {d : List Int} {t : Nat} {n : Int} (ht : t < d.length) (hu : d.getD t (-1) < 0) (hn : 0 ≤ n) : unm (d.set t n) + 1 = unm d := by
  have e : d.getD t (-1) = d[t] := by simp [List.getD, ht]
  rw [e] at hu
  have hpos : 0 < unm d := List.countP_pos_iff.2 ⟨d[t], List.getElem_mem ht, by simpa using hu⟩
  unfold unm at hpos ⊢
  rw [List.countP_set ht, if_pos (by simpa using hu), if_neg (by simp; omega)]
  omega
theorem inner_spec {ps : List (Int × Int)} {i : Nat} {v : Int} (hi : i < ps.length) (hc : Come ps i v) (h1 : pt ps i ≤ v) (h2 : v - pt ps i + pg ps i ≤ 16) :
    ∀ (s : List Int) (d : List Int) (td : List Nat) (o : Nat → Prop), (∀ t ∈ s, t ∈ suc ps i ∧ 0 ≤ t) → On ps d (fun j => j ∈ td ∨ o j) → (∀ t ∈ td, t < ps.length ∧ 0 ≤ d.getD t (-1)) → 0 ≤ v - pt ps i + pg ps i →
    match inner ps.length (v - pt ps i + pg ps i) s d td with
    | none => Bad ps
    | some (d', td') => On ps d' (fun j => j ∈ td' ∨ o j) ∧ (∀ t ∈ td', t < ps.length ∧ 0 ≤ d'.getD t (-1)) ∧ (∀ t ∈ s, t < ps.length ∧ d'.getD t.toNat (-1) = v - pt ps i + pg ps i) ∧ (∀ j, 0 ≤ d.getD j (-1) → d'.getD j (-1) = d.getD j (-1)) ∧ td'.length + unm d' = td.length + unm d := by
  intro s
  induction s with
  | nil =>
    intro d td o _ hon htd _
    simp only [inner]
    refine ⟨hon, htd, ?_, ?_, ?_⟩ <;> simp
  | cons t r ih =>
    intro d td o hs hon htd hn
    obtain ⟨hts, ht0⟩ := hs t (by simp)
    have hcast : ((t.toNat : Nat) : Int) = t := by omega
    have hcome : Come ps t.toNat (v - pt ps i + pg ps i) := Come.step hc hi h1 h2 (by rw [hcast]; exact hts)
    simp only [inner]
    by_cases hb : t ≥ (ps.length : Int) ∨ (0 ≤ d.getD t.toNat (-1) ∧ d.getD t.toNat (-1) ≠ v - pt ps i + pg ps i)
    · rw [if_pos hb]
      simp only []
      by_cases hge : t ≥ (ps.length : Int)
      · exact .inr (.inl ⟨i, v, t.toNat, hc, hi, h1, h2, by rw [hcast]; exact hts, by omega⟩)
      · obtain ⟨hb0, hb1⟩ := hb.resolve_left hge
        exact .inr (.inr ⟨t.toNat, _, _, hon.come t.toNat (by omega) hb0, hcome, hb1⟩)
    · rw [if_neg hb]
      have hlt : t.toNat < ps.length := by omega
      by_cases hu : d.getD t.toNat (-1) < 0
      · rw [if_pos hu]
        have hl : t.toNat < d.length := by rw [hon.len]; exact hlt
        have hon' := (hon.mark hlt hu ⟨hn, h2⟩ hcome).mono (o' := fun j => j ∈ td ++ [t.toNat] ∨ o j) (fun j _ _ hj => by
          left
          rcases hj with (hj | hj) | hj
          · exact .inl (by simp [hj])
          · exact .inr hj
          · exact .inl (by simp [hj]))
        have htd' : ∀ q ∈ td ++ [t.toNat], q < ps.length ∧ 0 ≤ (d.set t.toNat (v - pt ps i + pg ps i)).getD q (-1) := by
          intro q hq
          rw [getD_set _ _ _ _ hl]
          rcases List.mem_append.1 hq with hq | hq
          · have := htd q hq
            refine ⟨this.1, ?_⟩
            split
            · exact hn
            · exact this.2
          · rw [List.mem_singleton] at hq
            subst hq
            exact ⟨hlt, by rw [if_pos rfl]; exact hn⟩
        have hih := ih (d.set t.toNat (v - pt ps i + pg ps i)) (td ++ [t.toNat]) o (fun q hq => hs q (by simp [hq])) hon' htd' hn
        generalize inner ps.length (v - pt ps i + pg ps i) r (d.set t.toNat (v - pt ps i + pg ps i)) (td ++ [t.toNat]) = res at hih
        cases res with
        | none => exact hih
        | some q =>
          obtain ⟨d', td'⟩ := q
          obtain ⟨g1, g2, g3, g4, g5⟩ := hih
          refine ⟨g1, g2, fun q hq => ?_, fun j hj => ?_, ?_⟩
          · rcases List.mem_cons.1 hq with rfl | hq
            · have := g4 q.toNat (by rw [getD_set _ _ _ _ hl, if_pos rfl]; exact hn)
              rw [getD_set _ _ _ _ hl, if_pos rfl] at this
              exact ⟨by omega, this⟩
            · exact g3 q hq
          · have hne : ¬ j = t.toNat := by rintro rfl; omega
            have := g4 j (by rw [getD_set _ _ _ _ hl, if_neg hne]; exact hj)
            rw [getD_set _ _ _ _ hl, if_neg hne] at this
            exact this
          · have := unm_set hl hu hn
            rw [List.length_append] at g5
            simp at g5
            omega
      · rw [if_neg hu]
        have hih := ih d td o (fun q hq => hs q (by simp [hq])) hon htd hn
        generalize inner ps.length (v - pt ps i + pg ps i) r d td = res at hih
        cases res with
        | none => exact hih
        | some q =>
          obtain ⟨d', td'⟩ := q
          obtain ⟨g1, g2, g3, g4, g5⟩ := hih
          refine ⟨g1, g2, fun q hq => ?_, g4, g5⟩
          rcases List.mem_cons.1 hq with rfl | hq
          · have h0 : 0 ≤ d.getD q.toNat (-1) := by omega
            have he : d.getD q.toNat (-1) = v - pt ps i + pg ps i := by
              by_cases e : d.getD q.toNat (-1) = v - pt ps i + pg ps i
              · exact e
              · exact absurd (.inr ⟨h0, e⟩) hb
            exact ⟨by omega, (g4 q.toNat h0).trans he⟩
          · exact g3 q hq
/-! ### the program's depths -/
def nats (td : List Nat) : List Int := td.map (fun t : Nat => (t : Int))
theorem rdD {d : List Int} {t : Int} (h : t.toNat < d.length) : rd d t = d.getD t.toNat (-1) := by
  unfold rd
  simp [List.getD, h]
theorem l2_eq {xs : List S41} {n : Int} {s : List Int} (hs : s.length ≤ 2) (hs0 : ∀ t ∈ s, 0 ≤ t) (hx : xs.length ≤ 256) : ∀ (m i : Nat) (d : List Int) (td : List Nat), s.length - i = m → i ≤ s.length → d.length = xs.length → td.length < 1000 + i →
    match inner xs.length n (s.drop i) d td with
    | none => ∀ k, 2 * m + 2 ≤ k → code_Depths.l2 k xs d (nats td) n s (s.length : Int) (i : Int) = some ([], 12)
    | some (d', td') => ∀ k k1 r, (∀ k', k1 ≤ k' → code_Depths.l1 k' xs d' (nats td') = some r) → k1 + 2 * m + 1 ≤ k → code_Depths.l2 k xs d (nats td) n s (s.length : Int) (i : Int) = some r := by
  intro m
  induction m with
  | zero =>
    intro i d td hm hi hd ht
    rw [List.drop_eq_nil_of_le (by omega)]
    simp only [inner]
    intro k k1 r hl1 hk
    obtain ⟨k, rfl⟩ : ∃ q, k = q + 1 := ⟨k - 1, by omega⟩
    simp only [code_Depths.l2]
    rw [if_neg (by omega)]
    exact hl1 k (by omega)
  | succ m ih =>
    intro i d td hm hi hd ht
    have hlt : i < s.length := by omega
    have h0 := hs0 s[i] (List.getElem_mem hlt)
    rw [drop_cons hlt]
    simp only [inner]
    -- the step of the printed loop, told once
    have step : ∀ k, code_Depths.l2 (k + 2) xs d (nats td) n s (s.length : Int) (i : Int) = if s[i] ≥ (xs.length : Int) ∨ (0 ≤ d.getD s[i].toNat (-1) ∧ d.getD s[i].toNat (-1) ≠ n) then some ([], 12) else if d.getD s[i].toNat (-1) < 0 then code_Depths.l2 k xs (d.set s[i].toNat n) (nats (td ++ [s[i].toNat])) n s (s.length : Int) ((i + 1 : Nat) : Int) else code_Depths.l2 k xs d (nats td) n s (s.length : Int) ((i + 1 : Nat) : Int) := by
      intro k
      rw [code_Depths.l2]
      rw [if_pos (by omega), if_pos (by omega), if_pos (by omega), rd_nat hlt]
      by_cases hge : s[i] ≥ (xs.length : Int)
      · rw [if_pos hge, if_pos (.inl hge)]
        simp only [code_Depths.j4]
        simp
      · have hl : s[i].toNat < d.length := by omega
        rw [if_neg hge, if_pos h0, if_pos (by omega), rdD hl]
        have hj : ∀ b, b = decide (0 ≤ d.getD s[i].toNat (-1) ∧ d.getD s[i].toNat (-1) ≠ n) → code_Depths.j4 (k + 1) xs d (nats td) n s[i] s (s.length : Int) (i : Int) b = if s[i] ≥ (xs.length : Int) ∨ (0 ≤ d.getD s[i].toNat (-1) ∧ d.getD s[i].toNat (-1) ≠ n) then some ([], 12) else if d.getD s[i].toNat (-1) < 0 then code_Depths.l2 k xs (d.set s[i].toNat n) (nats (td ++ [s[i].toNat])) n s (s.length : Int) ((i + 1 : Nat) : Int) else code_Depths.l2 k xs d (nats td) n s (s.length : Int) ((i + 1 : Nat) : Int) := by
          intro b hb
          rw [code_Depths.j4]
          by_cases hq : 0 ≤ d.getD s[i].toNat (-1) ∧ d.getD s[i].toNat (-1) ≠ n
          · rw [hb, if_pos (by simpa using hq), if_pos (.inr hq)]
          · rw [hb, if_neg (by simpa using hq), if_neg (not_or.2 ⟨hge, hq⟩), if_pos h0, if_pos (by omega), rdD hl, wrap_succ (by omega)]
            have hlen : (nats td).length < 17592186044416 := by unfold nats; rw [List.length_map]; omega
            have hn : nats td ++ [s[i]] = nats (td ++ [s[i].toNat]) := by
              unfold nats
              rw [List.map_append, List.map_singleton]
              congr 2
              omega
            rw [if_pos hlen, hn]
        by_cases hp : d.getD s[i].toNat (-1) ≥ 0
        · rw [if_pos hp]
          refine hj _ ?_
          have hp' : 0 ≤ d.getD s[i].toNat (-1) := hp
          rw [Bool.eq_iff_iff, decide_eq_true_eq, bne_iff_ne]
          exact ⟨fun h => ⟨hp', h⟩, fun h => h.2⟩
        · rw [if_neg hp]
          refine hj _ ?_
          have hp' : ¬ 0 ≤ d.getD s[i].toNat (-1) := hp
          exact (decide_eq_false (fun h => hp' h.1)).symm
    by_cases hb : s[i] ≥ (xs.length : Int) ∨ (0 ≤ d.getD s[i].toNat (-1) ∧ d.getD s[i].toNat (-1) ≠ n)
    · rw [if_pos hb]
      simp only []
      intro k hk
      obtain ⟨k, rfl⟩ : ∃ q, k = q + 2 := ⟨k - 2, by omega⟩
      rw [step, if_pos hb]
    · rw [if_neg hb]
      by_cases hu : d.getD s[i].toNat (-1) < 0
      · rw [if_pos hu]
        have hih := ih (i + 1) (d.set s[i].toNat n) (td ++ [s[i].toNat]) (by omega) (by omega) (by rw [List.length_set]; exact hd) (by simp; omega)
        generalize inner xs.length n (s.drop (i + 1)) (d.set s[i].toNat n) (td ++ [s[i].toNat]) = res at hih
        cases res with
        | none =>
          intro k hk
          obtain ⟨k, rfl⟩ : ∃ q, k = q + 2 := ⟨k - 2, by omega⟩
          rw [step, if_neg hb, if_pos hu]
          exact hih k (by omega)
        | some q =>
          intro k k1 r hl1 hk
          obtain ⟨k, rfl⟩ : ∃ q, k = q + 2 := ⟨k - 2, by omega⟩
          rw [step, if_neg hb, if_pos hu]
          exact hih k k1 r hl1 (by omega)
      · rw [if_neg hu]
        have hih := ih (i + 1) d td (by omega) (by omega) hd (by omega)
        generalize inner xs.length n (s.drop (i + 1)) d td = res at hih
        cases res with
        | none =>
          intro k hk
          obtain ⟨k, rfl⟩ : ∃ q, k = q + 2 := ⟨k - 2, by omega⟩
          rw [step, if_neg hb, if_neg hu]
          exact hih k (by omega)
        | some q =>
          intro k k1 r hl1 hk
          obtain ⟨k, rfl⟩ : ∃ q, k = q + 2 := ⟨k - 2, by omega⟩
          rw [step, if_neg hb, if_neg hu]
          exact hih k k1 r hl1 (by omega)
theorem un_at {xs : List S41} {i : Nat} (h : i < xs.length) : pop (xs.map un41) i = xs[i].f0 ∧ parg (xs.map un41) i = xs[i].f1 := by
  unfold pop parg
  simp [List.getD, h, un41]
theorem suc_len (ps : List (Int × Int)) (i : Nat) : (suc ps i).length ≤ 2 := by
  unfold suc
  split
  · simp
  · split
    · simp
    · split <;> simp
/-- Where an instruction leads is no number below 0. -/
theorem suc_pos {ps : List (Int × Int)} {i : Nat} (h : mayB (pop ps i) (parg ps i) = true) : ∀ t ∈ suc ps i, 0 ≤ t := by
  intro t ht
  have ha : pop ps i = 14 ∨ pop ps i = 15 → 0 ≤ parg ps i := by
    intro ho
    unfold mayB at h
    rw [if_neg (by omega), if_neg (by omega), if_pos ho] at h
    simp at h
    exact h.1
  unfold suc at ht
  split at ht
  · simp at ht
  · split at ht
    · rename_i h14
      simp at ht
      have := ha (.inl h14)
      omega
    · split at ht
      · rename_i h15
        simp at ht
        have := ha (.inr h15)
        omega
      · simp at ht
        omega
theorem behind_eq {xs : List S41} {i : Nat} (h : i < xs.length) (hx : xs.length ≤ 256) : code_behind.f xs[i].f0 xs[i].f1 (i : Int) = some (suc (xs.map un41) i) := by
  unfold code_behind.f suc
  rw [(un_at h).1, (un_at h).2, wrap_succ (by omega)]
  split
  · rfl
  · split
    · rfl
    · split <;> rfl
theorem mayB_range {op a : Int} (h : mayB op a = true) : 0 ≤ op ∧ op ≤ 16 := by
  rcases op_cases op with h' | h' | h' | h' | h' | h' | h' | h' | h' | h' | h' | h' | h' | h' | h' | h' | h' | h'
  all_goals first | omega | (rw [mayB_no h'] at h; cases h)
theorem ct_bound (op a : Int) : 0 ≤ ctakes op a ∧ ctakes op a ≤ 4 := by
  unfold ctakes callTakes
  split
  · omega
  · split
    · omega
    · split
      · repeat (first | omega | split)
      · omega
theorem cg_bound (op : Int) : 0 ≤ cgives op ∧ cgives op ≤ 2 := by
  unfold cgives
  split
  · omega
  · split <;> omega
/-- The whole walk: it ends with what is right, or has seen what may not be. -/
theorem l1_ends {xs : List S41} (hx : xs.length ≤ 256) (h0 : 0 < xs.length) (hm : ∀ i, i < xs.length → mayB (pop (xs.map un41) i) (parg (xs.map un41) i) = true) : ∀ (m : Nat) (d : List Int) (td : List Nat), td.length + unm d = m → m ≤ 256 → On (xs.map un41) d (fun j => j ∈ td) → (∀ t ∈ td, t < xs.length ∧ 0 ≤ d.getD t (-1)) →
    (∃ d', Right (xs.map un41) d' ∧ ∀ k, 10 * m + 10 ≤ k → code_Depths.l1 k xs d (nats td) = some (d', 0)) ∨ (Bad (xs.map un41) ∧ ∀ k, 10 * m + 10 ≤ k → code_Depths.l1 k xs d (nats td) = some ([], 12)) := by
  have hpl : (xs.map un41).length = xs.length := List.length_map ..
  intro m
  induction m with
  | zero =>
    intro d td hmm _ hon htd
    have : td = [] := by
      cases td with
      | nil => rfl
      | cons a b => simp at hmm
    subst this
    left
    refine ⟨d, hon.right (fun i _ _ h => by simp at h), fun k hk => ?_⟩
    obtain ⟨k, rfl⟩ : ∃ q, k = q + 1 := ⟨k - 1, by omega⟩
    rw [code_Depths.l1]
    rw [if_neg (by simp [nats])]
  | succ m ih =>
    intro d td hmm hmb hon htd
    rcases List.eq_nil_or_concat td with rfl | ⟨td, t, rfl⟩
    · left
      refine ⟨d, hon.right (fun i _ _ h => by simp at h), fun k hk => ?_⟩
      obtain ⟨k, rfl⟩ : ∃ q, k = q + 1 := ⟨k - 1, by omega⟩
      rw [code_Depths.l1]
      rw [if_neg (by simp [nats])]
    · rw [List.concat_eq_append] at *
      obtain ⟨htl, htm⟩ := htd t (by simp)
      have htp : t < (xs.map un41).length := by rw [hpl]; exact htl
      have hcome := hon.come t htp htm
      have hlow := hon.low t htp
      have hct := ct_bound (pop (xs.map un41) t) (parg (xs.map un41) t)
      have hcg := cg_bound (pop (xs.map un41) t)
      have hnl : (nats (td ++ [t])).length = td.length + 1 := by simp [nats]
      have hdl : d.length = xs.length := hon.len.trans hpl
      have htdl : td.length ≤ 256 := by rw [List.length_append] at hmm; simp at hmm; omega
      have hwl : wrap64 (((nats (td ++ [t])).length : Int) - 1) = (td.length : Int) := by rw [hnl]; unfold wrap64; omega
      have hrd : rd (nats (td ++ [t])) (td.length : Int) = t := by
        unfold rd nats
        simp [List.getD]
      have htake : (nats (td ++ [t])).take ((td.length : Int)).toNat = nats td := by
        unfold nats
        rw [Int.toNat_natCast, List.map_append, List.take_append_of_le_length (by simp), List.take_of_length_le (by simp)]
      have hrt := rdD (d := d) (t := (t : Int)) (by rw [Int.toNat_natCast, hdl]; exact htl)
      rw [Int.toNat_natCast] at hrt
      obtain ⟨lo, hi, hcm⟩ := cmay_eq xs[t].f0 xs[t].f1
      have hrange := mayB_range (hm t htl)
      have hu := un_at htl
      rw [← hu.1, ← hu.2, if_pos hrange, if_pos hrange] at hcm
      have hn : wrap64 (wrap64 (d.getD t (-1) - ctakes (pop (xs.map un41) t) (parg (xs.map un41) t)) + cgives (pop (xs.map un41) t)) = d.getD t (-1) - pt (xs.map un41) t + pg (xs.map un41) t := by
        unfold pt pg wrap64
        omega
      have hstep : ∀ k, code_Depths.l1 (k + 1) xs d (nats (td ++ [t])) = code_Depths.j2 k xs d (nats td) (t : Int) (d.getD t (-1) - pt (xs.map un41) t + pg (xs.map un41) t) (decide (d.getD t (-1) < pt (xs.map un41) t ∨ d.getD t (-1) - pt (xs.map un41) t + pg (xs.map un41) t > 16)) := by
        intro k
        rw [code_Depths.l1, hwl, hnl, hrd, htake, hrt, rd41 htl, ← hu.1, ← hu.2, hcm]
        rw [if_pos (by omega), if_pos (by omega), if_pos (by omega), if_pos (by omega), Option.bind_some, if_pos (by omega), if_pos (by omega), Option.bind_some, if_pos (by omega)]
        simp only []
        rw [hn]
        by_cases hlt : d.getD t (-1) < ctakes (pop (xs.map un41) t) (parg (xs.map un41) t)
        · rw [if_pos hlt]
          congr 1
          symm
          apply decide_eq_true
          exact .inl hlt
        · rw [if_neg hlt]
          congr 1
          rw [Bool.eq_iff_iff, decide_eq_true_eq, decide_eq_true_eq]
          constructor
          · exact .inr
          · rintro (h | h)
            · exact absurd h hlt
            · exact h
      by_cases hbad : d.getD t (-1) < pt (xs.map un41) t ∨ d.getD t (-1) - pt (xs.map un41) t + pg (xs.map un41) t > 16
      · right
        refine ⟨.inl ⟨t, _, hcome, htp, hbad⟩, fun k hk => ?_⟩
        obtain ⟨k, rfl⟩ : ∃ q, k = q + 2 := ⟨k - 2, by omega⟩
        rw [hstep]
        rw [code_Depths.j2]
        rw [if_pos (by simpa using hbad)]
      · have h1 : pt (xs.map un41) t ≤ d.getD t (-1) := by omega
        have h2 : d.getD t (-1) - pt (xs.map un41) t + pg (xs.map un41) t ≤ 16 := by omega
        have hpos : 0 ≤ d.getD t (-1) - pt (xs.map un41) t + pg (xs.map un41) t := by
          have := pg_nonneg (xs.map un41) t
          omega
        have hsp := suc_pos (hm t htl)
        have hon' : On (xs.map un41) d (fun j => j ∈ td ∨ j = t) := hon.mono (fun j _ _ hj => by
          left
          rcases List.mem_append.1 hj with hj | hj
          · exact .inl hj
          · exact .inr (by simpa using hj))
        have hins := inner_spec htp hcome h1 h2 (suc (xs.map un41) t) d td (fun j => j = t) (fun q hq => ⟨hq, hsp q hq⟩) hon' (fun q hq => by rw [hpl]; exact htd q (by simp [hq])) hpos
        have hl2 := l2_eq (n := d.getD t (-1) - pt (xs.map un41) t + pg (xs.map un41) t) (suc_len (xs.map un41) t) hsp hx (suc (xs.map un41) t).length 0 d td (by omega) (by omega) hdl (by omega)
        rw [List.drop_zero] at hl2
        rw [hpl] at hins
        have hj2 : ∀ k, code_Depths.j2 (k + 1) xs d (nats td) (t : Int) (d.getD t (-1) - pt (xs.map un41) t + pg (xs.map un41) t) (decide (d.getD t (-1) < pt (xs.map un41) t ∨ d.getD t (-1) - pt (xs.map un41) t + pg (xs.map un41) t > 16)) = code_Depths.l2 k xs d (nats td) (d.getD t (-1) - pt (xs.map un41) t + pg (xs.map un41) t) (suc (xs.map un41) t) ((suc (xs.map un41) t).length : Int) ((0 : Nat) : Int) := by
          intro k
          rw [code_Depths.j2, rd41 htl, behind_eq htl hx]
          rw [if_neg (by simpa using hbad), if_pos (by omega), if_pos (by omega), Option.bind_some]
          rfl
        have hsl := suc_len (xs.map un41) t
        generalize inner xs.length (d.getD t (-1) - pt (xs.map un41) t + pg (xs.map un41) t) (suc (xs.map un41) t) d td = res at hins hl2
        cases res with
        | none =>
          right
          refine ⟨hins, fun k hk => ?_⟩
          obtain ⟨k, rfl⟩ : ∃ q, k = q + 2 := ⟨k - 2, by omega⟩
          rw [hstep, hj2]
          exact hl2 k (by omega)
        | some q =>
          obtain ⟨d', td'⟩ := q
          obtain ⟨g1, g2, g3, g4, g5⟩ := hins
          have hsat : Sat (xs.map un41) d' t := by
            unfold Sat
            rw [g4 t htm]
            exact ⟨h1, h2, fun q hq => ⟨hsp q hq, by rw [hpl]; exact (g3 q hq).1, (g3 q hq).2⟩⟩
          have g1' : On (xs.map un41) d' (fun j => j ∈ td') := g1.mono (fun j _ _ hj => by
            rcases hj with hj | hj
            · exact .inl hj
            · right; rw [hj]; exact hsat)
          rw [List.length_append] at hmm
          simp at hmm
          rcases ih d' td' (by omega) (by omega) g1' (fun q hq => g2 q hq) with ⟨d2, hr, hk2⟩ | ⟨hr, hk2⟩
          · left
            refine ⟨d2, hr, fun k hk => ?_⟩
            obtain ⟨k, rfl⟩ : ∃ q, k = q + 2 := ⟨k - 2, by omega⟩
            rw [hstep, hj2]
            exact hl2 k (10 * m + 10) _ hk2 (by omega)
          · right
            refine ⟨hr, fun k hk => ?_⟩
            obtain ⟨k, rfl⟩ : ∃ q, k = q + 2 := ⟨k - 2, by omega⟩
            rw [hstep, hj2]
            exact hl2 k (10 * m + 10) _ hk2 (by omega)

/-! ### the beginning -/
def rep (N i : Nat) : List Int := List.replicate i (-1) ++ List.replicate (N - i) 0
theorem rep_set {N i : Nat} (h : i < N) : (rep N i).set i (-1) = rep N (i + 1) := by
  unfold rep
  rw [List.set_append_right _ _ (by simp)]
  rw [List.length_replicate, Nat.sub_self]
  have e : N - i = (N - (i + 1)) + 1 := by omega
  rw [e, List.replicate_succ, List.set_cons_zero, show List.replicate (i + 1) (-1 : Int) = List.replicate i (-1) ++ [-1] from List.replicate_succ', List.append_assoc]
  rfl
theorem rep_len {N i : Nat} (h : i ≤ N) : (rep N i).length = N := by
  unfold rep
  simp
  omega
def start (N : Nat) : List Int := (List.replicate N (-1)).set 0 0
theorem start_at (N i : Nat) (h : i < N) : (start N).getD i (-1) = if i = 0 then 0 else -1 := by
  unfold start
  rw [getD_set _ _ _ _ (by simp; omega)]
  split
  · rfl
  · simp [List.getD, h]
theorem start_on {ps : List (Int × Int)} (h0 : 0 < ps.length) : On ps (start ps.length) (fun j => j ∈ [0]) := by
  refine ⟨by simp [start], by rw [start_at _ _ h0, if_pos rfl], fun i hi => ?_, fun i hi hp => ?_, fun i hi hp => ?_⟩
  · rw [start_at _ _ hi]
    split <;> omega
  · rw [start_at _ _ hi] at hp ⊢
    split at hp
    · rename_i e
      rw [e, if_pos rfl]
      exact Come.zero ps
    · omega
  · rw [start_at _ _ hi] at hp
    split at hp
    · rename_i e
      left
      simp [e]
    · omega
theorem start_unm (N : Nat) (h0 : 0 < N) : unm (start N) + 1 = N := by
  have h : (List.replicate N (-1 : Int)).getD 0 (-1) < 0 := by simp [List.getD, h0]
  have := unm_set (d := List.replicate N (-1)) (t := 0) (n := 0) (by simpa using h0) h (by omega)
  show unm ((List.replicate N (-1)).set 0 0) + 1 = N
  rw [this]
  unfold unm
  rw [List.countP_replicate]
  simp
def okAll (ps : List (Int × Int)) : Bool := ps.all (fun p => mayB p.1 p.2)
theorem okAll_at {ps : List (Int × Int)} (h : okAll ps = true) (i : Nat) (hi : i < ps.length) : mayB (pop ps i) (parg ps i) = true := by
  unfold okAll at h
  rw [List.all_eq_true] at h
  have := h ps[i] (List.getElem_mem hi)
  unfold pop parg
  simpa [List.getD, hi] using this
theorem l0_ends {xs : List S41} (hx : xs.length ≤ 256) {R : List Int × Int} {k1 : Nat} (hl1 : ∀ k, k1 ≤ k → code_Depths.l1 k xs (start xs.length) (nats [0]) = some R) : ∀ (m i : Nat), xs.length - i = m → i ≤ xs.length → ∀ k, k1 + m + 1 ≤ k →
    code_Depths.l0 k xs (rep xs.length i) xs (xs.length : Int) (i : Int) = some (if okAll ((xs.map un41).drop i) = true then (if xs.length = 0 then ([], 12) else R) else ([], 2)) := by
  intro m
  induction m with
  | zero =>
    intro i hm hi k hk
    obtain ⟨k, rfl⟩ : ∃ q, k = q + 1 := ⟨k - 1, by omega⟩
    rw [code_Depths.l0]
    rw [if_neg (by omega), List.drop_eq_nil_of_le (by rw [List.length_map]; omega), if_pos (show okAll ([] : List (Int × Int)) = true from rfl)]
    by_cases h0 : xs.length = 0
    · rw [if_pos (by omega), if_pos h0]
    · have e : rep xs.length i = List.replicate xs.length (-1) := by
        unfold rep
        rw [show xs.length - i = 0 by omega, show i = xs.length by omega]
        simp
      rw [if_neg (by omega), if_neg h0, e, if_pos (by simp; omega)]
      exact hl1 k (by omega)
  | succ m ih =>
    intro i hm hi k hk
    obtain ⟨k, rfl⟩ : ∃ q, k = q + 1 := ⟨k - 1, by omega⟩
    have hlt : i < xs.length := by omega
    rw [code_Depths.l0]
    obtain ⟨lo, hi', hcm⟩ := cmay_eq xs[i].f0 xs[i].f1
    have hd : (xs.map un41).drop i = un41 xs[i] :: (xs.map un41).drop (i + 1) := by
      rw [← List.map_drop, drop_cons hlt, List.map_cons, List.map_drop]
    have hok : okAll ((xs.map un41).drop i) = (mayB xs[i].f0 xs[i].f1 && okAll ((xs.map un41).drop (i + 1))) := by
      rw [hd]
      rfl
    rw [if_pos (by omega), if_pos (by omega), if_pos (by omega), rd41 hlt, hcm, Option.bind_some]
    simp only []
    by_cases hb : mayB xs[i].f0 xs[i].f1 = true
    · rw [if_pos hb, if_pos (by rw [rep_len hi]; omega), Int.toNat_natCast, rep_set hlt, wrap_succ (by omega), ih (i + 1) (by omega) (by omega) k (by omega), hok, hb, Bool.true_and]
    · rw [if_neg hb, hok, Bool.eq_false_iff.mpr hb, Bool.false_and, if_neg (by simp)]
/-- What the program's depths are. -/
theorem Depths_ends (xs : List S41) (hx : xs.length ≤ 256) : ∃ R, (∀ k, 4000 ≤ k → code_Depths.f k xs = some R) ∧ (okAll (xs.map un41) = false → R = ([], 2)) ∧ (okAll (xs.map un41) = true → xs.length = 0 → R = ([], 12)) ∧ (okAll (xs.map un41) = true → 0 < xs.length → (∃ d, Right (xs.map un41) d ∧ R = (d, 0)) ∨ (Bad (xs.map un41) ∧ R = ([], 12))) := by
  have hf : ∀ k, code_Depths.f k xs = code_Depths.l0 k xs (rep xs.length 0) xs (xs.length : Int) ((0 : Nat) : Int) := by
    intro k
    unfold code_Depths.f
    rw [if_neg (by omega), if_pos (by omega), if_pos (by omega)]
    simp [rep]
  have hpl : (xs.map un41).length = xs.length := List.length_map ..
  by_cases h0 : xs.length = 0
  · have hxs : xs = [] := List.length_eq_zero_iff.1 h0
    subst hxs
    refine ⟨([], 12), fun k hk => ?_, fun h => by simp [okAll] at h, fun _ _ => rfl, fun _ h => by simp at h⟩
    rw [hf]
    obtain ⟨k, rfl⟩ : ∃ q, k = q + 1 := ⟨k - 1, by omega⟩
    rw [code_Depths.l0]
    simp
  · by_cases hok : okAll (xs.map un41) = true
    · have hon := start_on (ps := xs.map un41) (by omega)
      rw [hpl] at hon
      have hun := start_unm xs.length (by omega)
      have htd : ∀ t ∈ [0], t < xs.length ∧ 0 ≤ (start xs.length).getD t (-1) := by
        intro t ht
        rw [List.mem_singleton] at ht
        subst ht
        exact ⟨by omega, by rw [start_at _ _ (by omega)]; simp⟩
      rcases l1_ends hx (by omega) (fun i hi => okAll_at hok i (by omega)) xs.length (start xs.length) [0] (by simp; omega) hx hon htd with ⟨d, hr, hk⟩ | ⟨hb, hk⟩
      · refine ⟨(d, 0), fun k hk' => ?_, (fun h => by rw [hok] at h; cases h), fun _ h => absurd h h0, fun _ _ => .inl ⟨d, hr, rfl⟩⟩
        rw [hf, l0_ends hx hk xs.length 0 (by omega) (by omega) k (by omega), List.drop_zero, if_pos hok, if_neg h0]
      · refine ⟨([], 12), fun k hk' => ?_, (fun h => by rw [hok] at h; cases h), fun _ h => absurd h h0, fun _ _ => .inr ⟨hb, rfl⟩⟩
        rw [hf, l0_ends hx hk xs.length 0 (by omega) (by omega) k (by omega), List.drop_zero, if_pos hok, if_neg h0]
    · refine ⟨([], 2), fun k hk' => ?_, fun _ => rfl, fun h => absurd h hok, fun h => absurd h hok⟩
      rw [hf]
      -- the walk behind the first part is not come to: any answer serves
      have : ∀ (m i : Nat), xs.length - i = m → i ≤ xs.length → okAll ((xs.map un41).drop i) = false → ∀ k, m + 1 ≤ k → code_Depths.l0 k xs (rep xs.length i) xs (xs.length : Int) (i : Int) = some ([], 2) := by
        intro m
        induction m with
        | zero =>
          intro i hm hi hno
          rw [List.drop_eq_nil_of_le (by rw [hpl]; omega)] at hno
          cases hno
        | succ m ih =>
          intro i hm hi hno k hk
          obtain ⟨k, rfl⟩ : ∃ q, k = q + 1 := ⟨k - 1, by omega⟩
          have hlt : i < xs.length := by omega
          rw [code_Depths.l0]
          obtain ⟨lo, hi', hcm⟩ := cmay_eq xs[i].f0 xs[i].f1
          have hok : okAll ((xs.map un41).drop i) = (mayB xs[i].f0 xs[i].f1 && okAll ((xs.map un41).drop (i + 1))) := by
            rw [← List.map_drop, drop_cons hlt, List.map_cons, List.map_drop]
            rfl
          rw [if_pos (by omega), if_pos (by omega), if_pos (by omega), rd41 hlt, hcm, Option.bind_some]
          simp only []
          by_cases hb : mayB xs[i].f0 xs[i].f1 = true
          · rw [hok, hb, Bool.true_and] at hno
            rw [if_pos hb, if_pos (by rw [rep_len hi]; omega), Int.toNat_natCast, rep_set hlt, wrap_succ (by omega), ih (i + 1) (by omega) (by omega) hno k (by omega)]
          · rw [if_neg hb]
      exact this xs.length 0 (by omega) (by omega) (by simpa using hok) k (by omega)
def un36 (x : S36) : Int × Int := (x.f0, x.f1)
theorem un36_at {xs : List S36} {i : Nat} (h : i < xs.length) : pop (xs.map un36) i = xs[i].f0 ∧ parg (xs.map un36) i = xs[i].f1 := by
  unfold pop parg
  simp [List.getD, h, un36]
theorem Behind_eq {xs : List S36} {i : Nat} (h : i < xs.length) (hx : xs.length ≤ 256) : bureauref21_Behind.f xs (i : Int) = some (suc (xs.map un36) i) := by
  unfold bureauref21_Behind.f suc
  rw [if_pos (by omega), if_pos (by omega), rd36 h, (un36_at h).1, (un36_at h).2, wrap_succ (by omega)]
  split
  · rfl
  · split
    · rfl
    · split <;> rfl
theorem alive_big {k : Nat} (h : 40 ≤ k) : bureaulaw21_alive.f k = some true := LeO.le_ bureaulaw21_alive.mono (by decide +kernel : bureaulaw21_alive.f 40 = some true) h
theorem rmay_big {k : Nat} (h : 3 ≤ k) (op a : Int) : bureauref21_May.f k op a = some (mayB op a) := by
  obtain ⟨q, rfl⟩ : ∃ q, k = q + 3 := ⟨k - 3, by omega⟩
  exact rmay_eq q op a
theorem rtakes_big {k : Nat} (h : 8 ≤ k) (op a : Int) : bureauref21_Takes.f k op a = some (if mayB op a then ctakes op a else -1) := by
  obtain ⟨q, rfl⟩ : ∃ q, k = q + 8 := ⟨k - 8, by omega⟩
  exact rtakes_eq q op a
theorem rgives_big {k : Nat} (h : 4 ≤ k) (op a : Int) : bureauref21_Gives.f k op a = some (if mayB op a then cgives op else -1) := by
  obtain ⟨q, rfl⟩ : ∃ q, k = q + 4 := ⟨k - 4, by omega⟩
  exact rgives_eq q op a
theorem rd_mem {s : List Int} {i : Nat} (h : i < s.length) : rd s (i : Int) ∈ s := by
  rw [rd_nat h]
  exact List.getElem_mem h
theorem w64 {x : Int} (h : -100 ≤ x ∧ x ≤ 100) : wrap64 x = x := by
  unfold wrap64
  omega
theorem safe_l0 {xs : List S36} {bs : List Bool} {d : List Int} (hx : xs.length ≤ 256) (hm : ∀ i, i < xs.length → mayB (pop (xs.map un36) i) (parg (xs.map un36) i) = true) (hr : Right (xs.map un36) d) : ∀ (m i w rr : Nat) (n : Int), rr + m = 3000 → w ≤ rr → i < xs.length → d.getD i (-1) = n → 0 ≤ n → ∀ k, 6 * m + 20 ≤ k → bureaulaw21_CodeSafe.l0 k xs bs d (i : Int) n (w : Int) (rr : Int) = some true := by
  have hpl : (xs.map un36).length = xs.length := List.length_map ..
  have hdl : d.length = xs.length := hr.len.trans hpl
  intro m
  induction m with
  | zero =>
    intro i w rr n hrr hw hi hn h0 k hk
    obtain ⟨k, rfl⟩ : ∃ q, k = q + 1 := ⟨k - 1, by omega⟩
    rw [bureaulaw21_CodeSafe.l0]
    rw [if_neg (by omega)]
  | succ m ih =>
    intro i w rr n hrr hw hi hn h0 k hk
    obtain ⟨k, rfl⟩ : ∃ q, k = q + 5 := ⟨k - 5, by omega⟩
    obtain ⟨s1, s2, s3⟩ := hr.sat i (by omega) (by omega)
    rw [hn] at s1 s2 s3
    have hu := un36_at hi
    have hmi := hm i hi
    have hc := ct_bound (pop (xs.map un36) i) (parg (xs.map un36) i)
    have hg := cg_bound (pop (xs.map un36) i)
    have ept : pt (xs.map un36) i = ctakes (pop (xs.map un36) i) (parg (xs.map un36) i) := rfl
    have epg : pg (xs.map un36) i = cgives (pop (xs.map un36) i) := rfl
    have ed : rd d (i : Int) = n := by
      rw [rdD (by omega), Int.toNat_natCast]; exact hn
    have step : ∀ t ∈ suc (xs.map un36) i, ∀ w' : Nat, w' ≤ rr + 1 → bureaulaw21_CodeSafe.l0 k xs bs d t (n - pt (xs.map un36) i + pg (xs.map un36) i) (w' : Int) ((rr + 1 : Nat) : Int) = some true := by
      intro t ht w' hw'
      obtain ⟨t0, t1, t2⟩ := s3 t ht
      have := ih t.toNat w' (rr + 1) _ (by omega) hw' (by omega) t2 (by omega) k (by omega)
      rwa [show ((t.toNat : Nat) : Int) = t by omega] at this
    rw [bureaulaw21_CodeSafe.l0]
    rw [if_pos (by omega), if_neg (by omega), if_neg (by omega), if_pos (by omega), if_pos (by omega), ed]
    rw [bureaulaw21_CodeSafe.j2]
    rw [if_neg (by simp), if_pos (by omega), if_pos (by omega), rd36 hi, ← hu.1, ← hu.2, rmay_big (by omega), Option.bind_some, hmi, if_pos rfl, rtakes_big (by omega), Option.bind_some, hmi, if_pos rfl, ← ept]
    rw [decide_eq_false (by omega : ¬ n < pt (xs.map un36) i)]
    rw [bureaulaw21_CodeSafe.j3]
    rw [if_neg (by simp), rgives_big (by omega), Option.bind_some, rtakes_big (by omega), Option.bind_some, hmi, if_pos rfl, if_pos rfl, ← ept, ← epg]
    have e1 : wrap64 (n + wrap64 (pg (xs.map un36) i - pt (xs.map un36) i)) = n - pt (xs.map un36) i + pg (xs.map un36) i := by
      rw [w64 (x := pg (xs.map un36) i - pt (xs.map un36) i) (by omega), w64 (by omega)]
      omega
    rw [e1, if_neg (by omega), decide_eq_false (by omega : ¬ n - pt (xs.map un36) i + pg (xs.map un36) i > 16)]
    rw [bureaulaw21_CodeSafe.j4]
    rw [if_neg (by simp)]
    by_cases hz : pop (xs.map un36) i = 0
    · rw [if_pos hz]
    · rw [if_neg hz, Behind_eq hi hx, Option.bind_some]
      have hs1 : 1 ≤ (suc (xs.map un36) i).length := by
        unfold suc
        rw [if_neg hz]
        split
        · simp
        · split <;> simp
      have h00 := rd_mem (s := suc (xs.map un36) i) (i := 0) (by omega)
      rw [Int.natCast_zero] at h00
      by_cases hl : ((suc (xs.map un36) i).length : Int) > 1
      · have h11 := rd_mem (s := suc (xs.map un36) i) (i := 1) (by omega)
        rw [show ((1 : Nat) : Int) = 1 from rfl] at h11
        rw [if_pos hl, bureaulaw21_CodeSafe.j5]
        by_cases hb : (w : Int) < (bs.length : Int)
        · rw [if_pos (by simpa using hb), if_pos (by omega), if_pos hb, wrap_succ (by omega), wrap_succ (by omega)]
          by_cases hbb : rdOf false bs (w : Int) = true
          · rw [if_pos hbb, if_pos (by omega)]
            exact step _ h11 (w + 1) (by omega)
          · rw [if_neg hbb, if_pos (by omega), if_pos (by omega)]
            exact step _ h00 (w + 1) (by omega)
        · rw [if_neg (by simpa using hb), if_pos (by omega), if_pos (by omega), wrap_succ (by omega)]
          exact step _ h00 w (by omega)
      · rw [if_neg hl, bureaulaw21_CodeSafe.j5]
        rw [if_neg (by simp), if_pos (by omega), if_pos (by omega), wrap_succ (by omega)]
        exact step _ h00 w (by omega)
theorem CodeSafe : bureaulaw21_CodeSafe.Pure := by
  intro l bs _ _ _
  refine ⟨30000, ?_⟩
  unfold bureaulaw21_CodeSafe.f
  rw [alive_big (by omega), Option.bind_some, if_pos rfl]
  by_cases h1 : (l.length : Int) > 2048
  · rw [if_pos h1]
  · rw [if_neg h1, Theirs_eq (by omega) (by omega), Option.bind_some]
    by_cases h2 : l.length > 256
    · have : code_Depths.f 30000 (l.map to41) = some ([], 3) := by
        unfold code_Depths.f
        rw [if_pos (by rw [List.length_map]; omega)]
      rw [this, Option.bind_some, if_neg (by simp)]
      rfl
    · obtain ⟨R, a1, a2, a3, a4⟩ := Depths_ends (l.map to41) (by rw [List.length_map]; omega)
      have e1 : (l.map to41).map un41 = l.map un36 := by
        rw [List.map_map]
        rfl
      rw [e1, List.length_map] at a3 a4
      rw [e1] at a2
      have hpl : (l.map un36).length = l.length := List.length_map ..
      rw [a1 30000 (by omega), Option.bind_some]
      cases hok : okAll (l.map un36) with
      | false => rw [a2 hok, if_neg (by simp)]; rfl
      | true =>
        by_cases h0 : l.length = 0
        · rw [a3 hok h0, if_neg (by simp)]; rfl
        · rcases a4 hok (by omega) with ⟨d, hr, rfl⟩ | ⟨hb, rfl⟩
          · have hdl : d.length = l.length := hr.len.trans hpl
            rw [if_pos rfl, if_pos (by simp only []; omega), bureaulaw21_CodeSafe.j0]
            rw [if_neg (by simp; intro h; exact h0 (by simp [h]))]
            exact safe_l0 (by omega) (fun i hi => okAll_at hok i (by omega)) hr 3000 0 0 0 0 (by omega) (by omega) (by omega) hr.zero (by omega) _ (by omega)
          · rw [if_neg (by simp)]; rfl

end Go.Proofs.Ytlpiknclbgogbaa.Pure
