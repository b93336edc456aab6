/- What is answered hangs on no key behind those that are counted, and with fewer keys it is not whole: for all keys. -/
import Derived.Test.YtfhlohmhacfngaaXGramOneWayx3
import Derived.Test.YtfhlohmhacfngaaExt11
import Derived.OpenShut
set_option linter.unusedVariables false
set_option linter.unusedSimpArgs false
namespace Go.Proofs.Ytfhlohmhacfngaa.Pure
open Go.RowKit Go.Proofs.Ytfhlohmhacfngaa.XGramOneWay Go.Proofs.YtfhlohmhacfngaaW.PrintWords Go.Proofs.YtfhlohmhacfngaaW.PrintMore Go.Proofs.Ytfhlohmhacfngaa.Ext

theorem wrapZ (a : Int) (h0 : -9223372036854775808 ≤ a) (h1 : a < 9223372036854775808) : wrap64 a = a := by
  unfold wrap64
  omega
set_option maxRecDepth 20000 in
theorem alive_eq : bureaulaw11_alive.f = some true := by kernel_rfl
theorem Parse_eq (l : List Int) (v : Bool) (h : l.length ≤ 35184372088832) : gram_Parse.f l v = some (parseZ l v) := by
  unfold gram_Parse.f
  rw [if_pos h]
theorem parse_pre (v : Bool) : ∀ (l : List Int) (i : Nat) (s : St),
    (parseL v l i s = (0, 0, 0, 0, 0, 0, 2)) ∨
    (∃ j : Nat, j < l.length ∧ (parseL v l i s).2.2.2.2.2.1 = ((i + j + 1 : Nat) : Int) ∧ ((parseL v l i s).2.2.2.2.2.2 = 1 ∨ (parseL v l i s).2.2.2.2.2.2 = 3) ∧
      (∀ t, parseL v (l.take (j + 1) ++ t) i s = parseL v l i s) ∧ ∀ k, k ≤ j → (parseL v (l.take k) i s).2.2.2.2.2.2 = 2)
  | [], i, s => .inl rfl
  | k :: l, i, s => by
    by_cases c1 : (Ext.step v s k).state = 1
    · right
      refine ⟨0, by simp, ?_, ?_, ?_, ?_⟩
      · simp [parseL, c1]
      · simp [parseL, c1]
      · intro t; simp [parseL, c1]
      · intro q hq
        obtain rfl : q = 0 := by omega
        rfl
    · by_cases c3 : (Ext.step v s k).state = 3
      · right
        refine ⟨0, by simp, ?_, ?_, ?_, ?_⟩
        · simp [parseL, c3]
        · simp [parseL, c3]
        · intro t; simp [parseL, c3]
        · intro q hq
          obtain rfl : q = 0 := by omega
          rfl
      · have hu : ∀ r, parseL v (k :: r) i s = parseL v r (i + 1) (Ext.step v s k) := fun r => by simp only [parseL, if_neg c1, if_neg c3]
        rcases parse_pre v l (i + 1) (Ext.step v s k) with h | ⟨j, hj, h6, h7, ht, hk⟩
        · left; rw [hu]; exact h
        · right
          refine ⟨j + 1, by simp; omega, ?_, ?_, ?_, ?_⟩
          · rw [hu, h6]; congr 1; omega
          · rw [hu]; exact h7
          · intro t
            rw [List.take_succ_cons, List.cons_append, hu, hu]
            exact ht t
          · intro q hq
            cases q with
            | zero => rfl
            | succ q =>
              rw [List.take_succ_cons, hu]
              exact hk q (by omega)
theorem l0_eq (l : List Int) (v : Bool) (n : Nat) (hn : n ≤ l.length) (hl : l.length ≤ 35184372088832) (h : ∀ k, k < n → (parseZ (l.take k) v).2.2.2.2.2.2 = 2) :
    ∀ (d i f : Nat), i + d = n → d < f → bureaulaw11_GramOneWay.l0 f l v (n : Int) (i : Int) = some true
  | _, _, 0, _, hf => by omega
  | 0, i, f + 1, e, _ => by
    have hc : ¬ ((i : Int) < (n : Int)) := by omega
    simp only [bureaulaw11_GramOneWay.l0, if_neg hc]
  | d + 1, i, f + 1, e, hf => by
    have hc : ((i : Int) < (n : Int)) := by omega
    have h0 : (0 : Int) ≤ (i : Int) := by omega
    have hi : (i : Int) ≤ (l.length : Int) := by omega
    have hw : wrap64 ((i : Int) + 1) = ((i + 1 : Nat) : Int) := by rw [wrapZ _ (by omega) (by omega)]; omega
    have hp := Parse_eq (l.take i) v (by rw [List.length_take]; omega)
    rw [bureaulaw11_GramOneWay.l0]
    rw [if_pos hc, if_pos h0, if_pos hi, Int.toNat_natCast, hp, Option.bind_some, if_pos (h i (by omega)), hw]
    exact l0_eq l v n hn hl h d (i + 1) f (by omega) (by omega)
theorem five (a b c d e : Int) : (!(a == a) || (!(b == b) || (!(c == c) || (!(d == d) || (!(e == e)))))) = false := by simp
theorem GramOneWay : bureaulaw11_GramOneWay.Pure := by
  intro l0 l1 a2 _ _ _ _
  refine ⟨l0.length + 10, ?_⟩
  unfold bureaulaw11_GramOneWay.f
  rw [alive_eq, Option.bind_some, if_pos rfl]
  by_cases c1 : (l0.length : Int) > 300
  · rw [if_pos c1]
    simp only [bureaulaw11_GramOneWay.j0, if_true]
  · rw [if_neg c1]
    by_cases c2 : (l1.length : Int) > 4096
    · rw [decide_eq_true c2]
      simp only [bureaulaw11_GramOneWay.j0, if_true]
    · rw [decide_eq_false c2]
      have hl : l0.length ≤ 300 := by omega
      have hl1 : l1.length ≤ 4096 := by omega
      simp only [bureaulaw11_GramOneWay.j0, Bool.false_eq_true, if_false]
      rw [Parse_eq l0 a2 (by omega), Option.bind_some]
      rcases parse_pre a2 l0 0 {} with h | ⟨j, hj, h6, h7, ht, hk⟩
      · have h' : parseZ l0 a2 = (0, 0, 0, 0, 0, 0, 2) := h
        rw [h']
        simp
      · have h6' : (parseZ l0 a2).2.2.2.2.2.1 = ((j + 1 : Nat) : Int) := by rw [show parseZ l0 a2 = parseL a2 l0 0 {} from rfl, h6]; congr 1; omega
        have ht' : parseZ (l0.take (j + 1) ++ l1) a2 = parseZ l0 a2 := ht l1
        have hne2 : ¬ (parseZ l0 a2).2.2.2.2.2.2 = 2 := by
          have : (parseZ l0 a2).2.2.2.2.2.2 = 1 ∨ (parseZ l0 a2).2.2.2.2.2.2 = 3 := h7
          omega
        have hlt : (l0.take (j + 1)).length ≤ 300 := by rw [List.length_take]; omega
        have key : bureaulaw11_GramOneWay.j1 (l0.length + 9) l0 l1 a2 (parseZ l0 a2).2.2.2.2.2.1 (parseZ l0 a2).2.2.2.2.2.2 false (parseZ l0 a2).1 (parseZ l0 a2).2.1 (parseZ l0 a2).2.2.1 (parseZ l0 a2).2.2.2.1 (parseZ l0 a2).2.2.2.2.1 = some true := by
          rw [bureaulaw11_GramOneWay.j1]
          rw [if_neg (by simp), h6', if_pos (by omega), if_pos (by omega), Int.toNat_natCast, if_pos (by simp only [List.length_nil]; omega), Option.bind_some, List.nil_append, if_pos (by omega), Parse_eq _ _ (by rw [List.length_append]; omega), Option.bind_some, ht', five, if_neg (by simp), h6', if_pos rfl]
          have hx : ((parseZ l0 a2).2.2.2.2.2.2 != (parseZ l0 a2).2.2.2.2.2.2) = false := by simp
          rw [hx]
          rw [bureaulaw11_GramOneWay.j2]
          rw [if_neg (by simp)]
          exact l0_eq l0 a2 (j + 1) (by omega) (by omega) (fun k hkk => hk k (by omega)) (j + 1) 0 _ (by omega) (by omega)
        rw [if_neg hne2, if_neg (by rw [h6']; omega), if_neg (by rw [h6']; omega)]
        rcases h7 with h1 | h3
        · have h1' : (parseZ l0 a2).2.2.2.2.2.2 = 1 := h1
          rw [if_pos h1']; exact key
        · have h3' : (parseZ l0 a2).2.2.2.2.2.2 = 3 := h3
          rw [if_neg (by omega)]
          have hb : ((parseZ l0 a2).2.2.2.2.2.2 != 3) = false := by rw [h3']; rfl
          rw [hb]; exact key

end Go.Proofs.Ytfhlohmhacfngaa.Pure
