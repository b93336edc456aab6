/- Each command that keys tell is told by the keys of what it says: for all keys. -/
import Derived.Test.YtfhlohmhacfngaaXGramToldx3
import Derived.Test.YtfhlohmhacfngaaExt11
import Derived.OpenShut
set_option linter.unusedVariables false
set_option linter.unusedSimpArgs false
namespace Go.Proofs.Ytfhlohmhacfngaa.Pure
open Go.RowKit Go.Proofs.Ytfhlohmhacfngaa.XGramTold Go.Proofs.YtfhlohmhacfngaaW.PrintWords Go.Proofs.YtfhlohmhacfngaaW.PrintMore Go.Proofs.Ytfhlohmhacfngaa.Ext

theorem wrapZ (a : Int) (h0 : -9223372036854775808 ≤ a) (h1 : a < 9223372036854775808) : wrap64 a = a := by
  unfold wrap64
  omega
set_option maxRecDepth 20000 in
theorem alive_eq : bureaulaw11_alive.f = some true := by kernel_rfl
theorem Parse_eq (l : List Int) (v : Bool) (h : l.length ≤ 35184372088832) : gram_Parse.f l v = some (parseZ l v) := by
  unfold gram_Parse.f
  rw [if_pos h]
/-- A fact about the keys of a table is one about numbers below 128. -/
theorem inZ_all {s : ByteArray} {k : Int} (h : inZ k s = true) (Q : Int → Prop) (hq : ∀ n, n < 128 → inZ ((n : Nat) : Int) s = true → Q ((n : Nat) : Int)) : Q k := by
  have h' := h
  unfold inZ at h'
  simp only [Bool.and_eq_true, decide_eq_true_eq] at h'
  obtain ⟨h0, h1, _⟩ := h'
  have e : k = ((k.toNat : Nat) : Int) := by omega
  rw [e] at h ⊢
  exact hq k.toNat (by omega) h
def dgt (k : Int) : Bool := decide (48 ≤ k) && decide (k ≤ 57)
theorem digZ_not {k : Int} (h : ¬ (48 ≤ k ∧ k ≤ 57)) (b : Bool) : digZ b k = false := by
  unfold digZ
  by_cases h1 : 48 ≤ k
  · have : ¬ k ≤ 57 := by omega
    simp [this]
  · simp [h1]
/-- What a run of digits leaves. -/
def numF (n : Int) : List Int → Int
  | [] => n
  | d :: ds => numF (min (n * 10 + d) 999) ds
theorem digZ_is {d : Int} (h0 : 0 ≤ d) (h1 : d ≤ 9) : digZ true (48 + d) = true := by
  unfold digZ
  simp; omega
theorem run_digits (v : Bool) (r : List Int) : ∀ (ds : List Int) (i : Nat) (s : St), (∀ d ∈ ds, 0 ≤ d ∧ d ≤ 9) → s.nx = .verb → s.told = true → s.state = 0 →
    parseL v (ds.map (48 + ·) ++ r) i s = parseL v r (i + ds.length) { s with n := numF s.n ds }
  | [], i, s, _, _, _, _ => rfl
  | d :: ds, i, s, hd, hx, ht, hs => by
    obtain ⟨h0, h1⟩ := hd d (by simp)
    have hst : Ext.step v s (48 + d) = { s with n := min (s.n * 10 + d) 999 } := by
      unfold Ext.step
      rw [hx]
      simp only [verbS, ht, digZ_is h0 h1, if_true, digS]
      have e : (48 + d - 48 : Int) = d := by omega
      rw [e]
      cases s
      simp_all
    have h1' : ¬ (Ext.step v s (48 + d)).state = 1 := by rw [hst]; show ¬ s.state = 1; omega
    have h3' : ¬ (Ext.step v s (48 + d)).state = 3 := by rw [hst]; show ¬ s.state = 3; omega
    rw [List.map_cons, List.cons_append]
    simp only [parseL, if_neg h1', if_neg h3']
    rw [hst]
    have := run_digits v r ds (i + 1) { s with n := min (s.n * 10 + d) 999 } (fun x hx => hd x (by simp [hx])) hx ht hs
    rw [this]
    simp only [List.length_cons, numF]
    congr 1
    omega
/-- The first digit, behind nothing or behind a register. -/
theorem first_digit (v : Bool) (d : Int) (r : List Int) (i : Nat) (s : St) (h0 : 1 ≤ d) (h1 : d ≤ 9) (hx : s.nx = .first ∨ s.nx = .verb) (ht : s.told = false) (hn : s.n = 0) (hs : s.state = 0) :
    parseL v ((48 + d) :: r) i s = parseL v r (i + 1) { s with n := d, told := true, nx := .verb } := by
  have hd : digZ false (48 + d) = true := by
    unfold digZ
    simp; omega
  have e : min (0 * 10 + (48 + d - 48)) (999 : Int) = d := by omega
  have hst : Ext.step v s (48 + d) = { s with n := d, told := true, nx := .verb } := by
    have hne : ¬ (48 + d : Int) = 34 := by omega
    unfold Ext.step
    rcases hx with hx | hx
    · rw [hx]
      simp only [if_neg hne, verbS, ht, hd, if_true, digS, hn, e]
    · rw [hx]
      simp only [verbS, ht, hd, if_true, digS, hn, e]
      cases s
      simp_all
  have h1' : ¬ (Ext.step v s (48 + d)).state = 1 := by rw [hst]; show ¬ s.state = 1; omega
  have h3' : ¬ (Ext.step v s (48 + d)).state = 3 := by rw [hst]; show ¬ s.state = 3; omega
  simp only [parseL, if_neg h1', if_neg h3']
  rw [hst]
/-- The digits of a number, as keys. -/
def digsOf (n : Int) : List Int :=
  if n < 1 then [] else if n < 10 then [n] else if n < 100 then [n / 10, n % 10] else if n < 1000 then [n / 100, n / 10 % 10, n % 10]
  else if n < 10000 then [n / 1000, n / 100 % 10, n / 10 % 10, n % 10] else [n / 10000, n / 1000 % 10, n / 100 % 10, n / 10 % 10, n % 10]
/-- The state behind a number's digits. -/
def behind (s : St) (n : Int) : St := if n < 1 then s else { s with n := min n 999, told := true, nx := .verb }
theorem parse_fin (v : Bool) (r : List Int) {i j : Nat} {s : St} {n m : Int} (hij : i = j) (hnm : n = m) : parseL v r i { s with n := n, told := true, nx := .verb } = parseL v r j { s with n := m, told := true, nx := .verb } := by rw [hij, hnm]
theorem parse_digs (v : Bool) (r : List Int) (i : Nat) (s : St) (n : Int) (h0 : 0 ≤ n) (h1 : n ≤ 99999) (hx : s.nx = .first ∨ s.nx = .verb) (ht : s.told = false) (hn : s.n = 0) (hs : s.state = 0) :
    parseL v ((digsOf n).map (48 + ·) ++ r) i s = parseL v r (i + (digsOf n).length) (behind s n) := by
  unfold digsOf behind
  by_cases c0 : n < 1
  · simp only [if_pos c0]
    rfl
  · simp only [if_neg c0]
    by_cases c1 : n < 10
    · simp only [if_pos c1, List.map_cons, List.map_nil, List.cons_append, List.nil_append]
      rw [first_digit v n r i s (by omega) (by omega) hx ht hn hs]
      have e : min n 999 = n := by omega
      rw [e]
      rfl
    · simp only [if_neg c1]
      by_cases c2 : n < 100
      · simp only [if_pos c2, List.map_cons, List.cons_append]
        rw [first_digit v (n / 10) _ i s (by omega) (by omega) hx ht hn hs]
        rw [show ((48 + n % 10) :: ([].map (48 + ·) ++ r) : List Int) = [n % 10].map (48 + ·) ++ r from rfl]
        rw [run_digits v r [n % 10] _ { s with n := n / 10, told := true, nx := .verb } (by simp; omega) rfl rfl hs]
        exact parse_fin v r (by simp <;> omega) (by simp only [numF]; omega)
      · simp only [if_neg c2]
        by_cases c3 : n < 1000
        · simp only [if_pos c3, List.map_cons, List.cons_append]
          rw [first_digit v (n / 100) _ i s (by omega) (by omega) hx ht hn hs]
          rw [show ((48 + n / 10 % 10) :: (48 + n % 10) :: ([].map (48 + ·) ++ r) : List Int) = [n / 10 % 10, n % 10].map (48 + ·) ++ r from rfl]
          rw [run_digits v r [n / 10 % 10, n % 10] _ { s with n := n / 100, told := true, nx := .verb } (by simp; omega) rfl rfl hs]
          exact parse_fin v r (by simp <;> omega) (by simp only [numF]; omega)
        · simp only [if_neg c3]
          by_cases c4 : n < 10000
          · simp only [if_pos c4, List.map_cons, List.cons_append]
            rw [first_digit v (n / 1000) _ i s (by omega) (by omega) hx ht hn hs]
            rw [show ((48 + n / 100 % 10) :: (48 + n / 10 % 10) :: (48 + n % 10) :: ([].map (48 + ·) ++ r) : List Int) = [n / 100 % 10, n / 10 % 10, n % 10].map (48 + ·) ++ r from rfl]
            rw [run_digits v r [n / 100 % 10, n / 10 % 10, n % 10] _ { s with n := n / 1000, told := true, nx := .verb } (by simp; omega) rfl rfl hs]
            exact parse_fin v r (by simp <;> omega) (by simp only [numF]; omega)
          · simp only [if_neg c4, List.map_cons, List.cons_append]
            rw [first_digit v (n / 10000) _ i s (by omega) (by omega) hx ht hn hs]
            rw [show ((48 + n / 1000 % 10) :: (48 + n / 100 % 10) :: (48 + n / 10 % 10) :: (48 + n % 10) :: ([].map (48 + ·) ++ r) : List Int) = [n / 1000 % 10, n / 100 % 10, n / 10 % 10, n % 10].map (48 + ·) ++ r from rfl]
            rw [run_digits v r [n / 1000 % 10, n / 100 % 10, n / 10 % 10, n % 10] _ { s with n := n / 10000, told := true, nx := .verb } (by simp; omega) rfl rfl hs]
            exact parse_fin v r (by simp <;> omega) (by simp only [numF]; omega)
/-! ### which commands keys tell -/
def ArgOf (k a : Int) : Prop := (k = 103 ∧ a = 0) ∨ (k ≠ 103 ∧ inZ k tFar = true ∧ signZ a = true) ∨ (k ≠ 103 ∧ inZ k tFar = false ∧ a = 0)
def GoodT (v : Bool) (verb move a : Int) : Prop :=
  (motZ verb = true ∧ move = 0 ∧ ArgOf verb a) ∨
  (v = true ∧ motZ verb = false ∧ inZ verb tIa = true ∧ move = 0 ∧ objZ a = true) ∨
  (v = true ∧ motZ verb = false ∧ inZ verb tIa = false ∧ (verb == 27 || inZ verb tVis) = true ∧ move = 0 ∧ a = 0) ∨
  (v = false ∧ motZ verb = false ∧ opZ verb = true ∧ ((move = verb ∧ a = 0) ∨ (move ≠ verb ∧ motZ move = true ∧ ArgOf move a) ∨ (move ≠ verb ∧ motZ move = false ∧ inZ move tIa = true ∧ objZ a = true))) ∨
  (v = false ∧ motZ verb = false ∧ opZ verb = false ∧ verb = 114 ∧ move = 0 ∧ signZ a = true) ∨
  (v = false ∧ motZ verb = false ∧ opZ verb = false ∧ verb ≠ 114 ∧ inZ verb tQat = true ∧ move = 0 ∧ macZ a = true) ∨
  (v = false ∧ motZ verb = false ∧ opZ verb = false ∧ verb ≠ 114 ∧ inZ verb tQat = false ∧ (verb == 18 || (verb == 27 || inZ verb tRest)) = true ∧ move = 0 ∧ a = 0)
def R32 (k : Int) : Prop := -2147483648 ≤ k ∧ k ≤ 2147483647
def Ok (s : St) : Prop := (s.reg = 0 ∨ nameZ s.reg = true) ∧ Bd s ∧ R32 s.reg ∧ R32 s.verb ∧ R32 s.move ∧ R32 s.arg
def InvN (v : Bool) (s : St) : Nx → Prop
  | .first => s.cnt = 0 ∧ s.move = 0 ∧ s.arg = 0
  | .name => s.cnt = 0 ∧ s.move = 0 ∧ s.arg = 0
  | .verb => s.cnt = 0 ∧ s.move = 0 ∧ s.arg = 0
  | .far => v = false ∧ motZ s.verb = false ∧ opZ s.verb = true ∧ s.arg = 0
  | .aw ta rt => (s.verb = 48 → s.cnt = 0) ∧ ∀ k, rtZ rt k = true → GoodT v s.verb s.move (if ta then k else s.arg)
def Inv (v : Bool) (s : St) : Prop := Ok s ∧ InvN v s s.nx
def Fin (v : Bool) (s : St) : Prop := Ok s ∧ (s.verb = 48 → s.cnt = 0) ∧ GoodT v s.verb s.move s.arg
def Res (v : Bool) (s : St) : Prop := (s.state = 0 → Inv v s) ∧ (s.state = 1 → Fin v s)
theorem res_ends (v : Bool) (t : St) (ok : Bool) (ho : Ok t) (hc : t.verb = 48 → t.cnt = 0) (hg : ok = true → GoodT v t.verb t.move t.arg) : Res v (endsS t ok) := by
  cases ok
  · exact ⟨fun h => by simp [endsS] at h, fun h => by simp [endsS] at h⟩
  · exact ⟨fun h => by simp [endsS] at h, fun _ => ⟨ho, hc, hg rfl⟩⟩
theorem res_aw (v : Bool) (t : St) (ta : Bool) (rt : Rt) (ho : Ok t) (hs : t.state = 0) (hc : t.verb = 48 → t.cnt = 0) (hg : ∀ k, rtZ rt k = true → GoodT v t.verb t.move (if ta then k else t.arg)) :
    Res v { t with nx := .aw ta rt } :=
  ⟨fun _ => ⟨ho, hc, hg⟩, fun h => absurd (show t.state = 1 from h) (by omega)⟩
theorem res_motS (v : Bool) (t : St) (k : Int) (ho : Ok t) (hs : t.state = 0) (hc : t.verb = 48 → t.cnt = 0) (ha : t.arg = 0) (hg : ∀ a, ArgOf k a → GoodT v t.verb t.move a) : Res v (motS t k) := by
  unfold motS
  by_cases c : k = 103
  · rw [if_pos c]
    exact res_aw v t false .isG ho hs hc fun x _ => by
      rw [if_neg (by simp), ha]; exact hg 0 (.inl ⟨c, rfl⟩)
  · rw [if_neg c]
    cases f : inZ k tFar
    · rw [if_neg (by simp)]
      exact res_ends v t true ho hc fun _ => by rw [ha]; exact hg 0 (.inr (.inr ⟨c, f, rfl⟩))
    · rw [if_pos rfl]
      exact res_aw v t true .sign ho hs hc fun x hx => by
        rw [if_pos rfl]; exact hg x (.inr (.inl ⟨c, f, hx⟩))
theorem res_verbT (v : Bool) (t : St) (k : Int) (ho : Ok t) (hs : t.state = 0) (hv : t.verb = k) (hm : t.move = 0) (ha : t.arg = 0) (hc : t.verb = 48 → t.cnt = 0) : Res v (verbT v t k) := by
  subst hv
  unfold verbT
  cases m : motZ t.verb
  · rw [if_neg (by simp)]
    cases v
    · rw [if_neg (by simp)]
      cases o : opZ t.verb
      · rw [if_neg (by simp)]
        by_cases r : t.verb = 114
        · rw [if_pos r]
          exact res_aw false t true .sign ho hs hc fun x hx => by
            rw [if_pos rfl]; exact .inr (.inr (.inr (.inr (.inl ⟨rfl, m, o, r, hm, hx⟩))))
        · rw [if_neg r]
          cases q : inZ t.verb tQat
          · rw [if_neg (by simp)]
            exact res_ends false t _ ho hc fun h => .inr (.inr (.inr (.inr (.inr (.inr ⟨rfl, m, o, r, q, h, hm, ha⟩)))))
          · rw [if_pos rfl]
            exact res_aw false t true .mac ho hs hc fun x hx => by
              rw [if_pos rfl]; exact .inr (.inr (.inr (.inr (.inr (.inl ⟨rfl, m, o, r, q, hm, hx⟩)))))
      · rw [if_pos rfl]
        exact ⟨fun _ => ⟨ho, rfl, m, o, ha⟩, fun h => absurd (show t.state = 1 from h) (by omega)⟩
    · rw [if_pos rfl]
      cases i : inZ t.verb tIa
      · rw [if_neg (by simp)]
        exact res_ends true t _ ho hc fun h => .inr (.inr (.inl ⟨rfl, m, i, h, hm, ha⟩))
      · rw [if_pos rfl]
        exact res_aw true t true .object ho hs hc fun x hx => by
          rw [if_pos rfl]; exact .inr (.inl ⟨rfl, m, i, hm, hx⟩)
  · rw [if_pos rfl]
    exact res_motS v t _ ho hs hc ha fun a h => .inl ⟨m, hm, h⟩
theorem ok_ctd {s : St} (h : Ok s) : Ok (ctdS s) := ⟨h.1, bd_ctd h.2.1, h.2.2⟩
theorem res_verbS (v : Bool) (s : St) (k : Int) (hk : R32 k) (ho : Ok s) (hs : s.state = 0) (hx : s.nx = .verb) (hn : s.cnt = 0) (hm : s.move = 0) (ha : s.arg = 0) : Res v (verbS v s k) := by
  unfold verbS
  cases d : digZ s.told k
  · rw [if_neg (by simp)]
    have ho' := ok_ctd ho
    refine res_verbT v { ctdS s with verb := k } k ⟨ho'.1, ho'.2.1, ho'.2.2.1, hk, ho'.2.2.2.2⟩ hs rfl hm ha ?_
    intro h
    have h' : k = 48 := h
    subst h'
    have ht : s.told = false := by
      cases t : s.told
      · rfl
      · rw [t] at d; simp [digZ] at d
    show (ctdS s).cnt = 0
    unfold ctdS
    simp [ht, hn]
  · rw [if_pos rfl]
    have hd : 48 ≤ k ∧ k ≤ 57 := by
      simp only [digZ, Bool.and_eq_true, decide_eq_true_eq] at d
      exact ⟨d.1, d.2.1⟩
    refine ⟨fun _ => ⟨⟨ho.1, bd_dig ho.2.1 hd.1 hd.2, ho.2.2⟩, ?_⟩, fun h => absurd (show s.state = 1 from h) (by omega)⟩
    show InvN v (digS s k) s.nx
    rw [hx]
    exact ⟨hn, hm, ha⟩
set_option maxRecDepth 20000 in
theorem op_not48 {k : Int} (h : opZ k = true) : k ≠ 48 := inZ_all (s := tOp) h (fun k => k ≠ 48) (by decide)
theorem res_farS (v : Bool) (s : St) (k : Int) (hk : R32 k) (ho : Ok s) (hs : s.state = 0) (hx : s.nx = .far) (hv : v = false) (m : motZ s.verb = false) (o : opZ s.verb = true) (ha : s.arg = 0) : Res v (farS s k) := by
  subst hv
  have h48 : ∀ c : Int, s.verb = 48 → c = 0 := fun c h => absurd h (op_not48 o)
  unfold farS
  cases d : digZ s.told k
  · rw [if_neg (by simp)]
    have ho' := ok_ctd ho
    have hot : Ok { ctdS s with move := k } := ⟨ho'.1, ho'.2.1, ho'.2.2.1, ho'.2.2.2.1, hk, ho'.2.2.2.2.2⟩
    unfold farT
    by_cases c : k = s.verb
    · rw [if_pos (show k = ({ ctdS s with move := k } : St).verb from c)]
      exact res_ends false _ true hot (h48 _) fun _ => .inr (.inr (.inr (.inl ⟨rfl, m, o, .inl ⟨c, ha⟩⟩)))
    · rw [if_neg (show ¬ k = ({ ctdS s with move := k } : St).verb from c)]
      cases mk : motZ k
      · rw [if_neg (by simp)]
        cases i : inZ k tIa
        · rw [if_neg (by simp)]
          exact res_ends false _ false hot (h48 _) fun h => by cases h
        · rw [if_pos rfl]
          exact res_aw false _ true .object hot hs (h48 _) fun x hx => by
            rw [if_pos rfl]; exact .inr (.inr (.inr (.inl ⟨rfl, m, o, .inr (.inr ⟨c, mk, i, hx⟩)⟩)))
      · rw [if_pos rfl]
        exact res_motS false _ k hot hs (h48 _) ha fun a h => .inr (.inr (.inr (.inl ⟨rfl, m, o, .inr (.inl ⟨c, mk, h⟩)⟩)))
  · rw [if_pos rfl]
    have hd : 48 ≤ k ∧ k ≤ 57 := by
      simp only [digZ, Bool.and_eq_true, decide_eq_true_eq] at d
      exact ⟨d.1, d.2.1⟩
    refine ⟨fun _ => ⟨⟨ho.1, bd_dig ho.2.1 hd.1 hd.2, ho.2.2⟩, ?_⟩, fun h => absurd (show s.state = 1 from h) (by omega)⟩
    show InvN false (digS s k) s.nx
    rw [hx]
    exact ⟨rfl, m, o, ha⟩
theorem res_step (v : Bool) (s : St) (k : Int) (hk : R32 k) (hi : Inv v s) (hs : s.state = 0) : Res v (Ext.step v s k) := by
  obtain ⟨ho, hn⟩ := hi
  cases hx : s.nx with
  | first =>
    rw [hx] at hn
    obtain ⟨a, b, c⟩ := hn
    rw [step_first v s k hx]
    split
    · exact ⟨fun _ => ⟨ho, a, b, c⟩, fun h => absurd (show s.state = 1 from h) (by omega)⟩
    · exact res_verbS v { s with nx := .verb } k hk ho hs rfl a b c
  | name =>
    rw [hx] at hn
    obtain ⟨a, b, c⟩ := hn
    rw [step_name v s k hx]
    split
    · rename_i h
      exact ⟨fun _ => ⟨⟨.inr h, ho.2.1, hk, ho.2.2.2⟩, a, b, c⟩, fun h => absurd (show s.state = 1 from h) (by omega)⟩
    · exact ⟨fun h => by simp [endsS] at h, fun h => by simp [endsS] at h⟩
  | verb =>
    rw [hx] at hn
    obtain ⟨a, b, c⟩ := hn
    rw [step_verb v s k hx]
    exact res_verbS v s k hk ho hs hx a b c
  | far =>
    rw [hx] at hn
    obtain ⟨a, b, c, d⟩ := hn
    rw [step_far v s k hx]
    exact res_farS v s k hk ho hs hx a b c d
  | aw ta rt =>
    rw [hx] at hn
    obtain ⟨a, b⟩ := hn
    rw [step_aw v s k ta rt hx]
    refine res_ends v { s with arg := if ta then k else s.arg } (rtZ rt k) ⟨ho.1, ho.2.1, ho.2.2.1, ho.2.2.2.1, ho.2.2.2.2.1, ?_⟩ a fun h => b k h
    show R32 (if ta then k else s.arg)
    split
    · exact hk
    · exact ho.2.2.2.2.2
theorem parse_good (v : Bool) : ∀ (l : List Int) (i : Nat) (s : St), (∀ x ∈ l, R32 x) → Inv v s → s.state = 0 → (parseL v l i s).2.2.2.2.2.2 = 1 →
    ∃ t n, Fin v t ∧ parseL v l i s = (t.reg, t.cnt, t.verb, t.move, t.arg, n, 1)
  | [], i, s, _, _, _, h => by simp [parseL] at h
  | k :: l, i, s, hr, hi, hs, h => by
    have hres := res_step v s k (hr k (by simp)) hi hs
    by_cases c1 : (Ext.step v s k).state = 1
    · refine ⟨Ext.step v s k, ((i + 1 : Nat) : Int), hres.2 c1, ?_⟩
      simp only [parseL, if_pos c1]
    · by_cases c3 : (Ext.step v s k).state = 3
      · simp only [parseL, if_neg c1, if_pos c3] at h
        omega
      · have c0 : (Ext.step v s k).state = 0 := by
          rcases state_step v hs k with h | h | h
          · exact h
          · exact absurd h c1
          · exact absurd h c3
        simp only [parseL, if_neg c1, if_neg c3] at h ⊢
        exact parse_good v l (i + 1) _ (fun x hx => hr x (by simp [hx])) (hres.1 c0) c0 h
/-! ### the keys of a command -/
def restL (verb move a : Int) : List Int := (if verb = 103 then [103] else []) ++ ((if move = 0 then [] else [move]) ++ ((if move = 103 then [103] else []) ++ (if a = 0 then [] else [a])))
def tellL (reg cnt verb move a : Int) : List Int := (if reg = 0 then [] else [34, reg]) ++ ((digsOf cnt).map (48 + ·) ++ (verb :: restL verb move a))
theorem parse0 (v : Bool) (k : Int) (l : List Int) (i : Nat) (s : St) (h : (Ext.step v s k).state = 0) : parseL v (k :: l) i s = parseL v l (i + 1) (Ext.step v s k) := by
  have h1 : ¬ (Ext.step v s k).state = 1 := by omega
  have h3 : ¬ (Ext.step v s k).state = 3 := by omega
  simp only [parseL, if_neg h1, if_neg h3]
theorem parse1 (v : Bool) (k : Int) (i : Nat) (s t : St) (e : Ext.step v s k = endsS t true) : parseL v [k] i s = (t.reg, t.cnt, t.verb, t.move, t.arg, ((i + 1 : Nat) : Int), 1) := by
  simp only [parseL, e]
  rfl
theorem parse_aw (v : Bool) (a : Int) (i : Nat) (t : St) (ta : Bool) (rt : Rt) (h : rtZ rt a = true) :
    parseL v [a] i { t with nx := .aw ta rt } = (t.reg, t.cnt, t.verb, t.move, (if ta then a else t.arg), ((i + 1 : Nat) : Int), 1) := by
  refine (parse1 v a i _ { ({ t with nx := .aw ta rt } : St) with arg := if ta then a else t.arg } ?_).trans rfl
  unfold Ext.step
  simp only [h]
/-- A motion's key, and what is behind it. -/
theorem parse_mot (v : Bool) (k a : Int) (i : Nat) (s t : St) (e : Ext.step v s k = motS t k) (hs : t.state = 0) (ha : t.arg = 0) (h : ArgOf k a) :
    parseL v (k :: ((if k = 103 then [103] else []) ++ (if a = 0 then [] else [a]))) i s = (t.reg, t.cnt, t.verb, t.move, a, ((i + ((if k = 103 then [103] else [] : List Int) ++ (if a = 0 then [] else [a])).length + 1 : Nat) : Int), 1) := by
  rcases h with ⟨c, hz⟩ | ⟨c, f, hz⟩ | ⟨c, f, hz⟩
  · subst hz
    have e' : Ext.step v s k = { t with nx := .aw false .isG } := by rw [e]; unfold motS; rw [if_pos c]
    simp only [if_pos c, if_true, List.append_nil]
    rw [parse0 v k _ i s (by rw [e']; exact hs), e', parse_aw v 103 (i + 1) t false .isG rfl]
    simp [ha]
  · have e' : Ext.step v s k = { t with nx := .aw true .sign } := by rw [e]; unfold motS; rw [if_neg c, if_pos f]
    have hne : ¬ a = 0 := by have := of_decide_eq_true (show decide (32 ≤ a) = true from hz); omega
    simp only [if_neg c, if_neg hne, List.nil_append]
    rw [parse0 v k _ i s (by rw [e']; exact hs), e', parse_aw v a (i + 1) t true .sign hz]
    simp
  · subst hz
    have e' : Ext.step v s k = endsS t true := by rw [e]; unfold motS; rw [if_neg c, if_neg (by simp [f])]
    simp only [if_neg c, if_true, List.append_nil]
    rw [parse1 v k i s t e', ha]
    simp
set_option maxRecDepth 20000 in
theorem mot_digit {k : Int} (h : motZ k = true) : k ≠ 34 ∧ k ≠ 0 ∧ ¬ (49 ≤ k ∧ k ≤ 57) := inZ_all (s := tMot) h (fun k => k ≠ 34 ∧ k ≠ 0 ∧ ¬ (49 ≤ k ∧ k ≤ 57)) (by decide)
set_option maxRecDepth 20000 in
theorem op_digit {k : Int} (h : opZ k = true) : k ≠ 34 ∧ k ≠ 0 ∧ k ≠ 103 ∧ ¬ (48 ≤ k ∧ k ≤ 57) := inZ_all (s := tOp) h (fun k => k ≠ 34 ∧ k ≠ 0 ∧ k ≠ 103 ∧ ¬ (48 ≤ k ∧ k ≤ 57)) (by decide)
set_option maxRecDepth 20000 in
theorem ia_digit {k : Int} (h : inZ k tIa = true) : k ≠ 34 ∧ k ≠ 0 ∧ k ≠ 103 ∧ ¬ (48 ≤ k ∧ k ≤ 57) := inZ_all (s := tIa) h (fun k => k ≠ 34 ∧ k ≠ 0 ∧ k ≠ 103 ∧ ¬ (48 ≤ k ∧ k ≤ 57)) (by decide)
set_option maxRecDepth 20000 in
theorem vis_digit {k : Int} (h : inZ k tVis = true) : k ≠ 34 ∧ k ≠ 0 ∧ k ≠ 103 ∧ ¬ (48 ≤ k ∧ k ≤ 57) := inZ_all (s := tVis) h (fun k => k ≠ 34 ∧ k ≠ 0 ∧ k ≠ 103 ∧ ¬ (48 ≤ k ∧ k ≤ 57)) (by decide)
set_option maxRecDepth 20000 in
theorem qat_digit {k : Int} (h : inZ k tQat = true) : k ≠ 34 ∧ k ≠ 0 ∧ k ≠ 103 ∧ ¬ (48 ≤ k ∧ k ≤ 57) := inZ_all (s := tQat) h (fun k => k ≠ 34 ∧ k ≠ 0 ∧ k ≠ 103 ∧ ¬ (48 ≤ k ∧ k ≤ 57)) (by decide)
set_option maxRecDepth 20000 in
theorem rest_digit {k : Int} (h : inZ k tRest = true) : k ≠ 34 ∧ k ≠ 0 ∧ k ≠ 103 ∧ ¬ (48 ≤ k ∧ k ≤ 57) := inZ_all (s := tRest) h (fun k => k ≠ 34 ∧ k ≠ 0 ∧ k ≠ 103 ∧ ¬ (48 ≤ k ∧ k ≤ 57)) (by decide)
set_option maxRecDepth 20000 in
theorem obj_ne {k : Int} (h : objZ k = true) : k ≠ 0 := inZ_all (s := tObj) h (fun k => k ≠ 0) (by decide)
theorem mac_ne {k : Int} (h : macZ k = true) : k ≠ 0 := by
  unfold macZ at h
  simp only [Bool.and_eq_true, decide_eq_true_eq] at h
  omega
theorem sign_ne {k : Int} (h : signZ k = true) : k ≠ 0 := by
  have := of_decide_eq_true (show decide (32 ≤ k) = true from h); omega
theorem good_verb {v : Bool} {verb move a : Int} (h : GoodT v verb move a) : verb ≠ 34 ∧ ¬ (49 ≤ verb ∧ verb ≤ 57) ∧ (motZ verb = false → verb ≠ 103 ∧ ¬ (48 ≤ verb ∧ verb ≤ 57)) := by
  rcases h with h | h | h | h | h | h | h
  · have := mot_digit h.1
    exact ⟨this.1, this.2.2, fun hh => by rw [h.1] at hh; cases hh⟩
  · have := ia_digit h.2.2.1
    omega
  · have hh := h.2.2.2.1
    rw [Bool.or_eq_true] at hh
    rcases hh with hh | hh
    · have := eq_of_beq hh; omega
    · have := vis_digit hh; omega
  · have := op_digit h.2.2.1
    omega
  · have := h.2.2.2.1
    omega
  · have := qat_digit h.2.2.2.2.1
    omega
  · have hh := h.2.2.2.2.2.1
    rw [Bool.or_eq_true, Bool.or_eq_true] at hh
    rcases hh with hh | hh | hh
    · have := eq_of_beq hh; omega
    · have := eq_of_beq hh; omega
    · have := rest_digit hh; omega
/-- The verb's key and all behind it. -/
theorem parse_verb (v : Bool) (verb move a : Int) (i : Nat) (s t : St) (hg : GoodT v verb move a) (e : Ext.step v s verb = verbT v t verb) (hs : t.state = 0) (hv : t.verb = verb) (hm : t.move = 0) (ha : t.arg = 0) (ht : t.told = false) (hc : t.cnt = t.cnt) :
    parseL v (verb :: restL verb move a) i s = (t.reg, t.cnt, verb, move, a, ((i + (restL verb move a).length + 1 : Nat) : Int), 1) := by
  have hgv := good_verb hg
  rcases hg with ⟨m, m0, h⟩ | ⟨hv1, m, q, m0, h⟩ | ⟨hv1, m, q, q2, m0, h⟩ | ⟨hv1, m, o, h⟩ | ⟨hv1, m, o, r, m0, h⟩ | ⟨hv1, m, o, r, q, m0, h⟩ | ⟨hv1, m, o, r, q, q2, m0, h⟩
  · subst m0
    have e' : Ext.step v s verb = motS t verb := by rw [e]; unfold verbT; rw [if_pos m]
    have := parse_mot v verb a i s t e' hs ha h
    unfold restL
    simp only [if_true, List.nil_append]
    rw [if_neg (show ¬ (0 : Int) = 103 by omega), List.nil_append, this, hv, hm]
  · subst m0 hv1
    have h103 := (hgv.2.2 m).1
    have hn := obj_ne h
    have e' : Ext.step true s verb = { t with nx := .aw true .object } := by rw [e]; unfold verbT; rw [if_neg (by simp [m]), if_pos rfl, if_pos q]
    have er : restL verb 0 a = [a] := by unfold restL; simp [h103, hn]
    rw [er, parse0 true verb _ i s (by rw [e']; exact hs), e', parse_aw true a (i + 1) t true .object h, hv, hm]
    simp
  · subst m0 hv1 h
    have h103 := (hgv.2.2 m).1
    have e' : Ext.step true s verb = endsS t true := by rw [e]; unfold verbT; rw [if_neg (by simp [m]), if_pos rfl, if_neg (by simp [q]), q2]
    have er : restL verb 0 0 = [] := by unfold restL; simp [h103]
    rw [er, parse1 true verb i s t e', hv, hm, ha]
    simp
  · subst hv1
    have h103 := (hgv.2.2 m).1
    have od := op_digit o
    have e' : Ext.step false s verb = { t with nx := .far } := by rw [e]; unfold verbT; rw [if_neg (by simp [m]), if_neg (by simp), if_pos o]
    have st2 : ∀ k, digZ false k = false → Ext.step false { t with nx := .far } k = farT { ctdS { t with nx := .far } with move := k } k := fun k hk => by
      show farS { t with nx := .far } k = _
      unfold farS
      rw [show ({ t with nx := .far } : St).told = false from ht, hk, if_neg (by simp)]
    have ct : ctdS { t with nx := .far } = { t with nx := .far, n := 0, told := false } := by
      unfold ctdS
      simp [ht]
    have dig0 : ∀ k : Int, ¬ (49 ≤ k ∧ k ≤ 57) → digZ false k = false := fun k hk => by
      unfold digZ
      by_cases c48 : k = 48
      · subst c48; rfl
      · by_cases c1 : 48 ≤ k
        · have : ¬ k ≤ 57 := by omega
          simp [this]
        · simp [c1]
    rw [parse0 false verb _ i s (by rw [e']; exact hs), e']
    rcases h with ⟨hmv, h0⟩ | ⟨hmv, mm, h2⟩ | ⟨hmv, mm, mi, h2⟩
    · subst h0
      have er : restL verb move 0 = [move] := by unfold restL; simp [h103, hmv, od.2.1]
      have ef : Ext.step false { t with nx := .far } move = endsS { ctdS { t with nx := .far } with move := move } true := by
        rw [st2 move (dig0 move (by omega))]
        unfold farT
        exact if_pos (show move = t.verb by omega)
      rw [er, parse1 false move (i + 1) _ _ ef, ct]
      simp [hv, ha]
    · have md := mot_digit mm
      have ef : Ext.step false { t with nx := .far } move = motS { ctdS { t with nx := .far } with move := move } move := by
        rw [st2 move (dig0 move md.2.2)]
        unfold farT
        exact (if_neg (show ¬ move = t.verb by omega)).trans (if_pos mm)
      have er : restL verb move a = move :: ((if move = 103 then [103] else []) ++ (if a = 0 then [] else [a])) := by unfold restL; simp [h103, md.2.1]
      rw [er, parse_mot false move a (i + 1) _ _ ef (by rw [ct]; exact hs) (by rw [ct]; exact ha) h2, ct]
      simp [hv]
      omega
    · have md := ia_digit mi
      have hn := obj_ne h2
      have ef : Ext.step false { t with nx := .far } move = { ({ ctdS { t with nx := .far } with move := move } : St) with nx := .aw true .object } := by
        rw [st2 move (dig0 move (by omega))]
        unfold farT
        exact (if_neg (show ¬ move = t.verb by omega)).trans ((if_neg (by simp [mm])).trans (if_pos mi))
      have er : restL verb move a = [move, a] := by unfold restL; simp [h103, md.2.1, md.2.2.1, hn]
      rw [er, parse0 false move _ (i + 1) _ (by rw [ef, ct]; exact hs), ef, parse_aw false a (i + 1 + 1) _ true .object h2, ct]
      simp [hv]
      omega
  · subst m0 hv1
    have h103 := (hgv.2.2 m).1
    have hn := sign_ne h
    have e' : Ext.step false s verb = { t with nx := .aw true .sign } := by rw [e]; unfold verbT; rw [if_neg (by simp [m]), if_neg (by simp), if_neg (by simp [o]), if_pos r]
    have er : restL verb 0 a = [a] := by unfold restL; simp [h103, hn]
    rw [er, parse0 false verb _ i s (by rw [e']; exact hs), e', parse_aw false a (i + 1) t true .sign h, hv, hm]
    simp
  · subst m0 hv1
    have h103 := (hgv.2.2 m).1
    have hn := mac_ne h
    have e' : Ext.step false s verb = { t with nx := .aw true .mac } := by rw [e]; unfold verbT; rw [if_neg (by simp [m]), if_neg (by simp), if_neg (by simp [o]), if_neg r, if_pos q]
    have er : restL verb 0 a = [a] := by unfold restL; simp [h103, hn]
    rw [er, parse0 false verb _ i s (by rw [e']; exact hs), e', parse_aw false a (i + 1) t true .mac h, hv, hm]
    simp
  · subst m0 hv1 h
    have h103 := (hgv.2.2 m).1
    have e' : Ext.step false s verb = endsS t true := by rw [e]; unfold verbT; rw [if_neg (by simp [m]), if_neg (by simp), if_neg (by simp [o]), if_neg r, if_neg (by simp [q]), q2]
    have er : restL verb 0 0 = [] := by unfold restL; simp [h103]
    rw [er, parse1 false verb i s t e', hv, hm, ha]
    simp
theorem parse_tell (v : Bool) (reg cnt verb move a : Int) (hr : reg = 0 ∨ nameZ reg = true) (c0 : 0 ≤ cnt) (c1 : cnt ≤ 999) (h48 : verb = 48 → cnt = 0) (hg : GoodT v verb move a) :
    parseZ (tellL reg cnt verb move a) v = (reg, cnt, verb, move, a, ((tellL reg cnt verb move a).length : Int), 1) := by
  have hgv := good_verb hg
  have stage : ∀ (i : Nat) (s : St), s.nx = .first ∨ s.nx = .verb → s.told = false → s.n = 0 → s.state = 0 → s.reg = reg → s.cnt = 0 → s.move = 0 → s.arg = 0 →
      parseL v ((digsOf cnt).map (48 + ·) ++ (verb :: restL verb move a)) i s = (reg, cnt, verb, move, a, ((i + ((digsOf cnt).map (48 + ·) ++ (verb :: restL verb move a)).length : Nat) : Int), 1) := by
    intro i s hx ht hn hs hreg hcnt hmv har
    rw [parse_digs v _ i s cnt c0 (by omega) hx ht hn hs]
    have hxb : (behind s cnt).nx = .first ∨ (behind s cnt).nx = .verb := by unfold behind; split; exact hx; exact .inr rfl
    have hdig : digZ (behind s cnt).told verb = false := by
      unfold behind
      split
      · rw [ht]
        unfold digZ
        by_cases e48 : verb = 48
        · subst e48; rfl
        · by_cases g1 : 48 ≤ verb
          · have : ¬ verb ≤ 57 := by omega
            simp [this]
          · simp [g1]
      · rename_i hc
        exact digZ_not (by omega) _
    have e : Ext.step v (behind s cnt) verb = verbT v { ctdS { behind s cnt with nx := .verb } with verb := verb } verb := by
      have h34 : ¬ verb = 34 := hgv.1
      unfold Ext.step
      rcases hxb with hxb | hxb
      · rw [hxb]
        simp only [if_neg h34]
        unfold verbS
        rw [hdig, if_neg (by simp)]
      · rw [hxb]
        simp only
        unfold verbS
        rw [hdig, if_neg (by simp)]
        congr 2
        cases hb : behind s cnt
        rw [hb] at hxb
        simp only at hxb
        subst hxb
        rfl
    have hcn : (ctdS { behind s cnt with nx := .verb }).cnt = cnt := by
      unfold behind
      split
      · unfold ctdS; simp [ht, hcnt]; omega
      · unfold ctdS; simp [hcnt]; omega
    have hrg : (ctdS { behind s cnt with nx := .verb }).reg = reg := by
      unfold behind
      split <;> exact hreg
    have hst : (ctdS { behind s cnt with nx := .verb }).state = 0 := by
      unfold behind
      split <;> exact hs
    have hmo : (ctdS { behind s cnt with nx := .verb }).move = 0 := by
      unfold behind
      split <;> exact hmv
    have hag : (ctdS { behind s cnt with nx := .verb }).arg = 0 := by
      unfold behind
      split <;> exact har
    rw [parse_verb v verb move a _ _ _ hg e hst rfl hmo hag rfl rfl]
    show ((ctdS { behind s cnt with nx := .verb }).reg, (ctdS { behind s cnt with nx := .verb }).cnt, verb, move, a, _, 1) = _
    rw [hcn, hrg]
    simp
    omega
  unfold parseZ tellL
  by_cases hz : reg = 0
  · rw [if_pos hz, List.nil_append]
    rw [stage 0 {} (.inl rfl) rfl rfl rfl hz.symm rfl rfl rfl]
    simp
  · rw [if_neg hz]
    have hn : nameZ reg = true := by
      rcases hr with h | h
      · exact absurd h hz
      · exact h
    have e1 : Ext.step v {} 34 = { ({} : St) with nx := .name } := rfl
    have e2 : Ext.step v { ({} : St) with nx := .name } reg = { ({} : St) with reg := reg, nx := .verb } := by
      show (if nameZ reg = true then _ else _) = _
      rw [if_pos hn]
    rw [List.cons_append, List.cons_append, List.nil_append, parse0 v 34 _ 0 {} rfl, e1, parse0 v reg _ _ _ (by rw [e2]), e2]
    rw [stage (0 + 1 + 1) _ (.inr rfl) rfl rfl rfl rfl rfl rfl rfl]
    simp
    omega
theorem wrap32Z (a : Int) (h : R32 a) : wrap32 a = a := by
  obtain ⟨h0, h1⟩ := h
  unfold wrap32
  omega
theorem dig_step (k : Nat) (n : Int) (l : List Int) (d : Int) (h0 : 0 ≤ n) (h1 : n ≤ 999) (hd : 0 < d) (hdd : d ≤ 100) (hl : l.length ≤ 10) :
    bureauref11_digits.l0 (k + 1) n l d = bureauref11_digits.l0 k n (if n ≥ d then l ++ [48 + n / d % 10] else l) (d / 10) := by
  have hq : Int.tdiv n d = n / d := Int.tdiv_eq_ediv_of_nonneg h0
  have hq0 : 0 ≤ n / d := Int.ediv_nonneg h0 (by omega)
  have hq1 : n / d ≤ n := Int.ediv_le_self _ h0
  have hw2 : wrap64 (n / d) = n / d := wrapZ _ (by omega) (by omega)
  have hm : Int.tmod (n / d) 10 = n / d % 10 := Int.tmod_eq_emod_of_nonneg hq0
  have hw3 : wrap64 (48 + n / d % 10) = 48 + n / d % 10 := wrapZ _ (by omega) (by omega)
  have hw4 : wrap32 (48 + n / d % 10) = 48 + n / d % 10 := by unfold wrap32; omega
  have hd10 : Int.tdiv d 10 = d / 10 := Int.tdiv_eq_ediv_of_nonneg (by omega)
  have hw5 : wrap64 (d / 10) = d / 10 := wrapZ _ (by omega) (by omega)
  rw [bureauref11_digits.l0]
  rw [if_pos hd, hq, hw2, hm, hw3, hw4, hd10, hw5]
  by_cases c : n ≥ d
  · rw [if_pos c, if_pos c, if_neg (by omega), if_pos (by omega)]
  · rw [if_neg c, if_neg c]
theorem digits_eq (n : Int) (h0 : 0 ≤ n) (h1 : n ≤ 999) (k : Nat) : bureauref11_digits.f (k + 4) n = some ((digsOf n).map (48 + ·)) := by
  unfold bureauref11_digits.f
  unfold digsOf
  rw [dig_step _ n [] 100 h0 h1 (by omega) (by omega) (by simp)]
  rw [dig_step _ n _ _ h0 h1 (by omega) (by omega) (by (repeat' split) <;> simp)]
  rw [dig_step _ n _ _ h0 h1 (by omega) (by omega) (by (repeat' split) <;> simp)]
  rw [bureauref11_digits.l0, if_neg (by omega)]
  by_cases c0 : n < 1
  · simp [show ¬ n ≥ 100 by omega, show ¬ n ≥ 10 by omega, show ¬ n ≥ 1 by omega, c0]
  · by_cases c1 : n < 10
    · simp [show ¬ n ≥ 100 by omega, show ¬ n ≥ 10 by omega, show n ≥ 1 by omega, c0, c1, show n % 10 = n by omega]
    · by_cases c2 : n < 100
      · simp [show ¬ n ≥ 100 by omega, show n ≥ 10 by omega, show n ≥ 1 by omega, c0, c1, c2, show n / 10 % 10 = n / 10 by omega]
      · have c3 : n < 1000 := by omega
        simp [show n ≥ 100 by omega, show n ≥ 10 by omega, show n ≥ 1 by omega, c0, c1, c2, c3, show n / 100 % 10 = n / 100 by omega]
theorem digs_len (n : Int) : (digsOf n).length ≤ 5 := by unfold digsOf; (repeat' split) <;> simp
theorem j2_eq (k : Nat) (L : List Int) (reg cnt verb move a : Int) (ha : R32 a) (hl : L.length ≤ 100) :
    bureauref11_Tell.j2 (k + 1) L reg cnt verb move a = some (L ++ ((if move = 103 then [103] else []) ++ (if a = 0 then [] else [a]))) := by
  rw [bureauref11_Tell.j2, wrap32Z a ha]
  by_cases c : move = 103
  · rw [if_pos c, if_pos c, if_pos (by omega), Option.bind_some]
    by_cases d : a = 0
    · rw [if_pos d, if_pos d, List.append_nil]
    · rw [if_neg d, if_neg d, if_pos (by simp; omega), List.append_assoc]
  · rw [if_neg c, if_neg c, List.nil_append]
    by_cases d : a = 0
    · rw [if_pos d, if_pos d, List.append_nil]
    · rw [if_neg d, if_neg d, if_pos (by omega)]
theorem j1_eq (k : Nat) (L : List Int) (reg cnt verb move a : Int) (hm : R32 move) (ha : R32 a) (hl : L.length ≤ 90) :
    bureauref11_Tell.j1 (k + 2) L reg cnt verb move a = some (L ++ ((if move = 0 then [] else [move]) ++ ((if move = 103 then [103] else []) ++ (if a = 0 then [] else [a])))) := by
  rw [bureauref11_Tell.j1, wrap32Z move hm]
  by_cases c : move = 0
  · rw [if_pos c, if_pos c, List.nil_append, j2_eq k L _ _ _ _ _ ha (by omega)]
  · rw [if_neg c, if_neg c, if_pos (by omega), j2_eq k _ _ _ _ _ _ ha (by simp; omega), List.append_assoc]
theorem j0_eq (k : Nat) (L : List Int) (reg cnt verb move a : Int) (c0 : 0 ≤ cnt) (c1 : cnt ≤ 999) (hv : R32 verb) (hm : R32 move) (ha : R32 a) (hl : L.length ≤ 2) :
    bureauref11_Tell.j0 (k + 5) L reg cnt verb move a = some (L ++ ((digsOf cnt).map (48 + ·) ++ (verb :: restL verb move a))) := by
  have hd := digs_len cnt
  have hll : ((digsOf cnt).map (48 + ·)).length = (digsOf cnt).length := by simp
  rw [bureauref11_Tell.j0, digits_eq cnt c0 c1 k, Option.bind_some, if_pos (by omega), Option.bind_some, if_pos (by rw [List.length_append]; omega), Option.bind_some, wrap32Z verb hv]
  unfold restL
  by_cases c : verb = 103
  · rw [if_pos c, if_pos c, if_pos (by simp only [List.length_append, List.length_cons, List.length_nil]; omega), j1_eq (k + 2) _ _ _ _ _ _ hm ha (by simp only [List.length_append, List.length_cons, List.length_nil]; omega)]
    simp only [List.append_assoc, List.cons_append, List.nil_append]
  · rw [if_neg c, if_neg c, j1_eq (k + 2) _ _ _ _ _ _ hm ha (by simp only [List.length_append, List.length_cons, List.length_nil]; omega)]
    simp only [List.append_assoc, List.cons_append, List.nil_append]
theorem Tell_eq (k : Nat) (reg cnt verb move a : Int) (c0 : 0 ≤ cnt) (c1 : cnt ≤ 999) (hr : R32 reg) (hv : R32 verb) (hm : R32 move) (ha : R32 a) :
    bureauref11_Tell.f (k + 5) reg cnt verb move a = some (tellL reg cnt verb move a) := by
  unfold bureauref11_Tell.f tellL
  rw [wrap32Z reg hr]
  by_cases c : reg = 0
  · rw [if_pos c, if_pos c, j0_eq k [] _ _ _ _ _ c0 c1 hv hm ha (by simp)]
  · rw [if_neg c, if_neg c, Option.bind_some, if_pos (by simp), List.nil_append, j0_eq k _ _ _ _ _ _ c0 c1 hv hm ha (by simp)]
theorem tell_len (reg cnt verb move a : Int) : (tellL reg cnt verb move a).length ≤ 100 := by
  have hd := digs_len cnt
  unfold tellL restL
  simp only [List.length_append, List.length_cons, List.length_map]
  have h1 : (if reg = 0 then [] else [34, reg] : List Int).length ≤ 2 := by split <;> simp
  have h2 : (if verb = 103 then [103] else [] : List Int).length ≤ 1 := by split <;> simp
  have h3 : (if move = 0 then [] else [move] : List Int).length ≤ 1 := by split <;> simp
  have h4 : (if move = 103 then [103] else [] : List Int).length ≤ 1 := by split <;> simp
  have h5 : (if a = 0 then [] else [a] : List Int).length ≤ 1 := by split <;> simp
  omega
theorem GramTold : bureaulaw11_GramTold.Pure := by
  intro l v _ hwf
  have hw : ∀ x ∈ l, R32 x := fun x hx => by simpa [R32, Lit.wf, IntKind.min, IntKind.max, IntKind.signed, IntKind.bits] using hwf x hx
  refine ⟨6, ?_⟩
  unfold bureaulaw11_GramTold.f
  rw [alive_eq, Option.bind_some, if_pos rfl]
  by_cases c : (l.length : Int) > 4096
  · rw [if_pos c]
  · rw [if_neg c, Parse_eq l v (by omega), Option.bind_some]
    by_cases h : (parseZ l v).2.2.2.2.2.2 = 1
    · rw [if_pos h]
      have hi : Inv v {} := ⟨⟨.inl rfl, bd0, by simp [R32], by simp [R32], by simp [R32], by simp [R32]⟩, rfl, rfl, rfl⟩
      obtain ⟨t, n, ⟨ho, h48, hg⟩, e⟩ := parse_good v l 0 {} hw hi rfl h
      have e' : parseZ l v = (t.reg, t.cnt, t.verb, t.move, t.arg, n, 1) := e
      obtain ⟨hreg, ⟨_, _, b0, b1⟩, r1, r2, r3, r4⟩ := ho
      rw [e']
      simp only
      rw [if_neg (by omega), decide_eq_false (by omega)]
      rw [bureaulaw11_GramTold.j0, if_neg (by simp)]
      unfold bureaulaw11_ours.f
      rw [Option.bind_some]
      simp only
      have w64 : ∀ x, R32 x → wrap64 x = x := fun x hx => wrapZ x (by have := hx.1; omega) (by have := hx.2; omega)
      have hT := Tell_eq 0 t.reg t.cnt t.verb t.move t.arg b0 b1 r1 r2 r3 r4
      have hlen := tell_len t.reg t.cnt t.verb t.move t.arg
      rw [w64 _ r1, w64 _ r2, w64 _ r3, w64 _ r4, hT, Option.bind_some, Parse_eq _ _ (by omega), Option.bind_some, parse_tell v t.reg t.cnt t.verb t.move t.arg hreg b0 b1 h48 hg]
      simp
    · rw [if_neg h]

end Go.Proofs.Ytfhlohmhacfngaa.Pure
