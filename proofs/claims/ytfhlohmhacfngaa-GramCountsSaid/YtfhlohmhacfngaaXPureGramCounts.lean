/- A count ahead of a motion is told as it is, up to the greatest one: for all counts and motions. -/
import Derived.Test.YtfhlohmhacfngaaXGramCountsx3
import Derived.Test.YtfhlohmhacfngaaExt11
import Derived.OpenShut
set_option linter.unusedVariables false
set_option linter.unusedSimpArgs false
namespace Go.Proofs.Ytfhlohmhacfngaa.Pure
open Go.RowKit Go.Proofs.Ytfhlohmhacfngaa.XGramCounts Go.Proofs.YtfhlohmhacfngaaW.PrintWords Go.Proofs.YtfhlohmhacfngaaW.PrintMore Go.Proofs.Ytfhlohmhacfngaa.Ext

theorem wrapZ (a : Int) (h0 : -9223372036854775808 ≤ a) (h1 : a < 9223372036854775808) : wrap64 a = a := by
  unfold wrap64
  omega
set_option maxRecDepth 20000 in
theorem alive_eq : bureaulaw11_alive.f = some true := by kernel_rfl
theorem Parse_eq (l : List Int) (v : Bool) (h : l.length ≤ 35184372088832) : gram_Parse.f l v = some (parseZ l v) := by
  unfold gram_Parse.f
  rw [if_pos h]
/-- A fact about the keys of a table is one about numbers below 128. -/
theorem inZ_all {s : ByteArray} {k : Int} (h : inZ k s = true) (Q : Int → Prop) (hq : ∀ n, n < 128 → inZ ((n : Nat) : Int) s = true → Q ((n : Nat) : Int)) : Q k := by
  have h' := h
  unfold inZ at h'
  simp only [Bool.and_eq_true, decide_eq_true_eq] at h'
  obtain ⟨h0, h1, _⟩ := h'
  have e : k = ((k.toNat : Nat) : Int) := by omega
  rw [e] at h ⊢
  exact hq k.toNat (by omega) h
def dgt (k : Int) : Bool := decide (48 ≤ k) && decide (k ≤ 57)
theorem digZ_not {k : Int} (h : ¬ (48 ≤ k ∧ k ≤ 57)) (b : Bool) : digZ b k = false := by
  unfold digZ
  by_cases h1 : 48 ≤ k
  · have : ¬ k ≤ 57 := by omega
    simp [this]
  · simp [h1]
/-- What a run of digits leaves. -/
def numF (n : Int) : List Int → Int
  | [] => n
  | d :: ds => numF (min (n * 10 + d) 999) ds
theorem digZ_is {d : Int} (h0 : 0 ≤ d) (h1 : d ≤ 9) : digZ true (48 + d) = true := by
  unfold digZ
  simp; omega
theorem run_digits (v : Bool) (r : List Int) : ∀ (ds : List Int) (i : Nat) (s : St), (∀ d ∈ ds, 0 ≤ d ∧ d ≤ 9) → s.nx = .verb → s.told = true → s.state = 0 →
    parseL v (ds.map (48 + ·) ++ r) i s = parseL v r (i + ds.length) { s with n := numF s.n ds }
  | [], i, s, _, _, _, _ => rfl
  | d :: ds, i, s, hd, hx, ht, hs => by
    obtain ⟨h0, h1⟩ := hd d (by simp)
    have hst : Ext.step v s (48 + d) = { s with n := min (s.n * 10 + d) 999 } := by
      unfold Ext.step
      rw [hx]
      simp only [verbS, ht, digZ_is h0 h1, if_true, digS]
      have e : (48 + d - 48 : Int) = d := by omega
      rw [e]
      cases s
      simp_all
    have h1' : ¬ (Ext.step v s (48 + d)).state = 1 := by rw [hst]; show ¬ s.state = 1; omega
    have h3' : ¬ (Ext.step v s (48 + d)).state = 3 := by rw [hst]; show ¬ s.state = 3; omega
    rw [List.map_cons, List.cons_append]
    simp only [parseL, if_neg h1', if_neg h3']
    rw [hst]
    have := run_digits v r ds (i + 1) { s with n := min (s.n * 10 + d) 999 } (fun x hx => hd x (by simp [hx])) hx ht hs
    rw [this]
    simp only [List.length_cons, numF]
    congr 1
    omega
/-- The first digit, behind nothing or behind a register. -/
theorem first_digit (v : Bool) (d : Int) (r : List Int) (i : Nat) (s : St) (h0 : 1 ≤ d) (h1 : d ≤ 9) (hx : s.nx = .first ∨ s.nx = .verb) (ht : s.told = false) (hn : s.n = 0) (hs : s.state = 0) :
    parseL v ((48 + d) :: r) i s = parseL v r (i + 1) { s with n := d, told := true, nx := .verb } := by
  have hd : digZ false (48 + d) = true := by
    unfold digZ
    simp; omega
  have e : min (0 * 10 + (48 + d - 48)) (999 : Int) = d := by omega
  have hst : Ext.step v s (48 + d) = { s with n := d, told := true, nx := .verb } := by
    have hne : ¬ (48 + d : Int) = 34 := by omega
    unfold Ext.step
    rcases hx with hx | hx
    · rw [hx]
      simp only [if_neg hne, verbS, ht, hd, if_true, digS, hn, e]
    · rw [hx]
      simp only [verbS, ht, hd, if_true, digS, hn, e]
      cases s
      simp_all
  have h1' : ¬ (Ext.step v s (48 + d)).state = 1 := by rw [hst]; show ¬ s.state = 1; omega
  have h3' : ¬ (Ext.step v s (48 + d)).state = 3 := by rw [hst]; show ¬ s.state = 3; omega
  simp only [parseL, if_neg h1', if_neg h3']
  rw [hst]
/-- The digits of a number, as keys. -/
def digsOf (n : Int) : List Int :=
  if n < 1 then [] else if n < 10 then [n] else if n < 100 then [n / 10, n % 10] else if n < 1000 then [n / 100, n / 10 % 10, n % 10]
  else if n < 10000 then [n / 1000, n / 100 % 10, n / 10 % 10, n % 10] else [n / 10000, n / 1000 % 10, n / 100 % 10, n / 10 % 10, n % 10]
/-- The state behind a number's digits. -/
def behind (s : St) (n : Int) : St := if n < 1 then s else { s with n := min n 999, told := true, nx := .verb }
theorem parse_fin (v : Bool) (r : List Int) {i j : Nat} {s : St} {n m : Int} (hij : i = j) (hnm : n = m) : parseL v r i { s with n := n, told := true, nx := .verb } = parseL v r j { s with n := m, told := true, nx := .verb } := by rw [hij, hnm]
theorem parse_digs (v : Bool) (r : List Int) (i : Nat) (s : St) (n : Int) (h0 : 0 ≤ n) (h1 : n ≤ 99999) (hx : s.nx = .first ∨ s.nx = .verb) (ht : s.told = false) (hn : s.n = 0) (hs : s.state = 0) :
    parseL v ((digsOf n).map (48 + ·) ++ r) i s = parseL v r (i + (digsOf n).length) (behind s n) := by
  unfold digsOf behind
  by_cases c0 : n < 1
  · simp only [if_pos c0]
    rfl
  · simp only [if_neg c0]
    by_cases c1 : n < 10
    · simp only [if_pos c1, List.map_cons, List.map_nil, List.cons_append, List.nil_append]
      rw [first_digit v n r i s (by omega) (by omega) hx ht hn hs]
      have e : min n 999 = n := by omega
      rw [e]
      rfl
    · simp only [if_neg c1]
      by_cases c2 : n < 100
      · simp only [if_pos c2, List.map_cons, List.cons_append]
        rw [first_digit v (n / 10) _ i s (by omega) (by omega) hx ht hn hs]
        rw [show ((48 + n % 10) :: ([].map (48 + ·) ++ r) : List Int) = [n % 10].map (48 + ·) ++ r from rfl]
        rw [run_digits v r [n % 10] _ { s with n := n / 10, told := true, nx := .verb } (by simp; omega) rfl rfl hs]
        exact parse_fin v r (by simp <;> omega) (by simp only [numF]; omega)
      · simp only [if_neg c2]
        by_cases c3 : n < 1000
        · simp only [if_pos c3, List.map_cons, List.cons_append]
          rw [first_digit v (n / 100) _ i s (by omega) (by omega) hx ht hn hs]
          rw [show ((48 + n / 10 % 10) :: (48 + n % 10) :: ([].map (48 + ·) ++ r) : List Int) = [n / 10 % 10, n % 10].map (48 + ·) ++ r from rfl]
          rw [run_digits v r [n / 10 % 10, n % 10] _ { s with n := n / 100, told := true, nx := .verb } (by simp; omega) rfl rfl hs]
          exact parse_fin v r (by simp <;> omega) (by simp only [numF]; omega)
        · simp only [if_neg c3]
          by_cases c4 : n < 10000
          · simp only [if_pos c4, List.map_cons, List.cons_append]
            rw [first_digit v (n / 1000) _ i s (by omega) (by omega) hx ht hn hs]
            rw [show ((48 + n / 100 % 10) :: (48 + n / 10 % 10) :: (48 + n % 10) :: ([].map (48 + ·) ++ r) : List Int) = [n / 100 % 10, n / 10 % 10, n % 10].map (48 + ·) ++ r from rfl]
            rw [run_digits v r [n / 100 % 10, n / 10 % 10, n % 10] _ { s with n := n / 1000, told := true, nx := .verb } (by simp; omega) rfl rfl hs]
            exact parse_fin v r (by simp <;> omega) (by simp only [numF]; omega)
          · simp only [if_neg c4, List.map_cons, List.cons_append]
            rw [first_digit v (n / 10000) _ i s (by omega) (by omega) hx ht hn hs]
            rw [show ((48 + n / 1000 % 10) :: (48 + n / 100 % 10) :: (48 + n / 10 % 10) :: (48 + n % 10) :: ([].map (48 + ·) ++ r) : List Int) = [n / 1000 % 10, n / 100 % 10, n / 10 % 10, n % 10].map (48 + ·) ++ r from rfl]
            rw [run_digits v r [n / 1000 % 10, n / 100 % 10, n / 10 % 10, n % 10] _ { s with n := n / 10000, told := true, nx := .verb } (by simp; omega) rfl rfl hs]
            exact parse_fin v r (by simp <;> omega) (by simp only [numF]; omega)
/-- A motion of one key, behind a count. -/
theorem one_key (v : Bool) (i : Nat) (s : St) (k : Int) (hk : motZ k = true) (h103 : ¬ k = 103) (hf : inZ k tFar = false) (hd : ¬ (48 ≤ k ∧ k ≤ 57)) (h34 : ¬ k = 34)
    (hx : s.nx = .first ∨ s.nx = .verb) :
    parseL v [k] i s = (s.reg, (ctdS s).cnt, k, s.move, s.arg, ((i + 1 : Nat) : Int), 1) := by
  have hst : ∀ t : St, verbS v t k = endsS { ctdS t with verb := k } true := fun t => by
    unfold verbS
    rw [digZ_not hd, if_neg (by simp)]
    unfold verbT
    rw [if_pos hk]
    unfold motS
    rw [if_neg h103, hf, if_neg (by simp)]
  have hs : Ext.step v s k = endsS { ctdS { s with nx := .verb } with verb := k } true := by
    unfold Ext.step
    rcases hx with hx | hx
    · rw [hx]
      simp only [if_neg h34]
      exact hst _
    · rw [hx]
      simp only
      rw [hst]
      cases s
      simp_all
  simp only [parseL]
  rw [hs]
  refine (if_pos ?_).trans ?_ <;> rfl
theorem parse_count (v : Bool) (n k : Int) (h0 : 0 ≤ n) (h1 : n ≤ 65535) (hk : motZ k = true) (h103 : ¬ k = 103) (hf : inZ k tFar = false) (hd : ¬ (48 ≤ k ∧ k ≤ 57)) (h34 : ¬ k = 34) :
    parseZ ((digsOf n).map (48 + ·) ++ [k]) v = (0, min n 999, k, 0, 0, (((digsOf n).length + 1 : Nat) : Int), 1) := by
  unfold parseZ
  rw [parse_digs v [k] 0 {} n h0 (by omega) (.inl rfl) rfl rfl rfl]
  rw [one_key v _ (behind {} n) k hk h103 hf hd h34 (by unfold behind; split; exact .inl rfl; exact .inr rfl)]
  unfold behind
  split
  · have e : min n 999 = 0 := by omega
    rw [e, Nat.zero_add]
    rfl
  · rw [Nat.zero_add]
    rfl
theorem mn_min (a b : Int) : mn a b = min a b := by unfold mn; split <;> omega
theorem l0_step (k : Nat) (n key : Int) (v : Bool) (l : List Int) (d : Int) (h0 : 0 ≤ n) (h1 : n ≤ 65535) (hd : 0 < d) (hdd : d ≤ 10000) (hl : l.length ≤ 10) :
    bureaulaw11_GramCounts.l0 (k + 1) n key v l d = bureaulaw11_GramCounts.l0 k n key v (if n ≥ d then l ++ [48 + n / d % 10] else l) (d / 10) := by
  have hw : wrap64 n = n := wrapZ _ (by omega) (by omega)
  have hq : Int.tdiv n d = n / d := Int.tdiv_eq_ediv_of_nonneg h0
  have hq0 : 0 ≤ n / d := Int.ediv_nonneg h0 (by omega)
  have hq1 : n / d ≤ n := Int.ediv_le_self _ h0
  have hw2 : wrap64 (n / d) = n / d := wrapZ _ (by omega) (by omega)
  have hm : Int.tmod (n / d) 10 = n / d % 10 := Int.tmod_eq_emod_of_nonneg hq0
  have hw3 : wrap64 (48 + n / d % 10) = 48 + n / d % 10 := wrapZ _ (by omega) (by omega)
  have hw4 : wrap32 (48 + n / d % 10) = 48 + n / d % 10 := by unfold wrap32; omega
  have hd10 : Int.tdiv d 10 = d / 10 := Int.tdiv_eq_ediv_of_nonneg (by omega)
  have hw5 : wrap64 (d / 10) = d / 10 := wrapZ _ (by omega) (by omega)
  rw [bureaulaw11_GramCounts.l0]
  rw [if_pos hd, hw, hq, hw2, hm, hw3, hw4, hd10, hw5]
  by_cases c : n ≥ d
  · rw [if_pos c, if_pos c, if_neg (by omega), if_pos (by omega)]
  · rw [if_neg c, if_neg c]
theorem digs_list (n : Int) (h0 : 0 ≤ n) (h1 : n ≤ 65535) (k : Nat) (key : Int) (v : Bool) :
    bureaulaw11_GramCounts.l0 (k + 5) n key v [] 10000 = bureaulaw11_GramCounts.l0 k n key v ((digsOf n).map (48 + ·)) 0 := by
  unfold digsOf
  rw [l0_step _ n key v [] 10000 h0 h1 (by omega) (by omega) (by simp)]
  rw [l0_step _ n key v _ _ h0 h1 (by omega) (by omega) (by (repeat' split) <;> simp)]
  rw [l0_step _ n key v _ _ h0 h1 (by omega) (by omega) (by (repeat' split) <;> simp)]
  rw [l0_step _ n key v _ _ h0 h1 (by omega) (by omega) (by (repeat' split) <;> simp)]
  rw [l0_step _ n key v _ _ h0 h1 (by omega) (by omega) (by (repeat' split) <;> simp)]
  by_cases c0 : n < 1
  · simp [show ¬ n ≥ 10000 by omega, show ¬ n ≥ 1000 by omega, show ¬ n ≥ 100 by omega, show ¬ n ≥ 10 by omega, show ¬ n ≥ 1 by omega, c0]
  · by_cases c1 : n < 10
    · simp [show ¬ n ≥ 10000 by omega, show ¬ n ≥ 1000 by omega, show ¬ n ≥ 100 by omega, show ¬ n ≥ 10 by omega, show n ≥ 1 by omega, c0, c1, show n % 10 = n by omega]
    · by_cases c2 : n < 100
      · simp [show ¬ n ≥ 10000 by omega, show ¬ n ≥ 1000 by omega, show ¬ n ≥ 100 by omega, show n ≥ 10 by omega, show n ≥ 1 by omega, c0, c1, c2, show n / 10 % 10 = n / 10 by omega]
      · by_cases c3 : n < 1000
        · simp [show ¬ n ≥ 10000 by omega, show ¬ n ≥ 1000 by omega, show n ≥ 100 by omega, show n ≥ 10 by omega, show n ≥ 1 by omega, c0, c1, c2, c3, show n / 100 % 10 = n / 100 by omega]
        · by_cases c4 : n < 10000
          · simp [show ¬ n ≥ 10000 by omega, show n ≥ 1000 by omega, show n ≥ 100 by omega, show n ≥ 10 by omega, show n ≥ 1 by omega, c0, c1, c2, c3, c4, show n / 1000 % 10 = n / 1000 by omega]
          · simp [show n ≥ 10000 by omega, show n ≥ 1000 by omega, show n ≥ 100 by omega, show n ≥ 10 by omega, show n ≥ 1 by omega, c0, c1, c2, c3, c4, show n / 10000 % 10 = n / 10000 by omega]
theorem digs_len (n : Int) : (digsOf n).length ≤ 5 := by unfold digsOf; (repeat' split) <;> simp
theorem GramCounts : bureaulaw11_GramCounts.Pure := by
  intro n key v hn hk
  refine ⟨6, ?_⟩
  have h0 : 0 ≤ n ∧ n ≤ 65535 := by simpa [Lit.wf, IntKind.min, IntKind.max, IntKind.signed, IntKind.bits] using hn
  obtain ⟨h0, h1⟩ := h0
  unfold bureaulaw11_GramCounts.f
  rw [alive_eq, Option.bind_some, if_pos rfl, digs_list n h0 h1 1]
  have hl := digs_len n
  have hll : ((digsOf n).map (48 + ·)).length = (digsOf n).length := by simp
  have hw : wrap64 n = n := wrapZ _ (by omega) (by omega)
  have fin : ∀ key, motZ key = true → ¬ key = 103 → inZ key tFar = false → ¬ (48 ≤ key ∧ key ≤ 57) → ¬ key = 34 →
      (if ((digsOf n).map (48 + ·)).length < 35184372088832 then ((gram_Parse.f ((digsOf n).map (48 + ·) ++ [key]) v).bind fun bt132 => (if (bt132.1 == 0 && (bt132.2.1 == (mn (wrap64 (n)) 999) && (bt132.2.2.1 == key && (bt132.2.2.2.1 == 0 && (bt132.2.2.2.2.1 == 0))))) = true then (if bt132.2.2.2.2.2.1 = (wrap64 ((((digsOf n).map (48 + ·)).length : Int) + 1)) then (some (bt132.2.2.2.2.2.2 == 1)) else (some false)) else (some false))) else (none)) = some true := fun key a b c d e => by
    rw [if_pos (by omega), Parse_eq _ _ (by simp; omega), Option.bind_some, parse_count v n key h0 h1 a b c d e, hw, mn_min, hll]
    have hw2 : wrap64 (((digsOf n).length : Int) + 1) = (((digsOf n).length + 1 : Nat) : Int) := by rw [wrapZ _ (by omega) (by omega)]; omega
    rw [hw2]
    simp
  rw [bureaulaw11_GramCounts.l0]
  rw [if_neg (by omega)]
  by_cases q0 : key = 104
  · rw [if_pos q0]; subst q0; exact fin _ (by kernel_rfl) (by omega) (by kernel_rfl) (by omega) (by omega)
  rw [if_neg q0]
  by_cases q1 : key = 106
  · rw [if_pos q1]; subst q1; exact fin _ (by kernel_rfl) (by omega) (by kernel_rfl) (by omega) (by omega)
  rw [if_neg q1]
  by_cases q2 : key = 107
  · rw [if_pos q2]; subst q2; exact fin _ (by kernel_rfl) (by omega) (by kernel_rfl) (by omega) (by omega)
  rw [if_neg q2]
  by_cases q3 : key = 108
  · rw [if_pos q3]; subst q3; exact fin _ (by kernel_rfl) (by omega) (by kernel_rfl) (by omega) (by omega)
  rw [if_neg q3]
  by_cases q4 : key = 119
  · rw [if_pos q4]; subst q4; exact fin _ (by kernel_rfl) (by omega) (by kernel_rfl) (by omega) (by omega)
  rw [if_neg q4]
  by_cases q5 : key = 98
  · rw [if_pos q5]; subst q5; exact fin _ (by kernel_rfl) (by omega) (by kernel_rfl) (by omega) (by omega)
  rw [if_neg q5]
  by_cases q6 : key = 101
  · rw [if_pos q6]; subst q6; exact fin _ (by kernel_rfl) (by omega) (by kernel_rfl) (by omega) (by omega)
  rw [if_neg q6]
  by_cases q7 : key = 71
  · rw [if_pos q7]; subst q7; exact fin _ (by kernel_rfl) (by omega) (by kernel_rfl) (by omega) (by omega)
  rw [if_neg q7]
  by_cases q8 : key = 36
  · rw [if_pos q8]; subst q8; exact fin _ (by kernel_rfl) (by omega) (by kernel_rfl) (by omega) (by omega)
  rw [if_neg q8]
  by_cases q9 : key = 123
  · rw [if_pos q9]; subst q9; exact fin _ (by kernel_rfl) (by omega) (by kernel_rfl) (by omega) (by omega)
  rw [if_neg q9]
  by_cases q10 : key = 125
  · rw [if_pos q10]; subst q10; exact fin _ (by kernel_rfl) (by omega) (by kernel_rfl) (by omega) (by omega)
  rw [if_neg q10]

end Go.Proofs.Ytfhlohmhacfngaa.Pure
