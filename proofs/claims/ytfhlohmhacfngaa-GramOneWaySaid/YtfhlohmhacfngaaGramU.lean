/- The grammar's verb and far, each by its ways. -/
import Derived.Test.YtfhlohmhacfngaaProg
import Derived.WalkKit
import Derived.WalkMore
import Derived.Deep.RegionWith
import Derived.BigQuiet
import Derived.Below
import Derived.KernelRfl
import Derived.Laws.Rows
import Derived.Laws.EntriesVeiled
import Derived.Test.YtfhlohmhacfngaaWWords
import Derived.Test.YtfhlohmhacfngaaGramUA
import Derived.Test.YtfhlohmhacfngaaGramUB
import Derived.Test.YtfhlohmhacfngaaGramUC
import Derived.Test.YtfhlohmhacfngaaGramUD
set_option linter.unusedVariables false
set_option linter.unusedSimpArgs false
namespace Go.Proofs.Ytfhlohmhacfngaa.Ext
open Go.RowKit Go.Lib Go.Proofs.YtfhlohmhacfngaaW.PrintWords

set_option maxRecDepth 100000 in
set_option maxHeartbeats 8000000 in
theorem verb_w (B R : Nat) (s : St) (vis : Bool) (k : Int) (w : World) (hB : B ≤ R) (hR : Row w R s vis (.func (.func 20) #[.pointer (some ⟨R, 0, none⟩)] #[])) (hbd : Bd s) (hnx : s.nx = .verb) :
    Calls Try.prog 20 #[.pointer (some ⟨R, 0, none⟩), .int .i32 k] w (Stp B R vis (verbS vis s k) w) := by
  have D := digit_w B R s vis _ k w hB hR hbd
  generalize hv : (.func (.func 20) #[.pointer (some ⟨R, 0, none⟩)] #[] : Value) = v at hR D
  cases hd : digZ s.told k
  · rw [hd] at D
    simp only [Bool.false_eq_true, if_false] at D
    have C := fun w1 hR1 => counted_w B R s vis v w1 hB hR1 hbd
    have E : verbS vis s k = verbT vis { ctdS s with verb := k } k := by simp [verbS, hd]
    rw [E]
    clear E
    generalize ctdS s = t at C ⊢
    have IM := fun w => Motion_w k w
    have I1 := fun w => in_w k tIa w
    have I2 := fun w => in_w k tVis w
    have I3 := fun w => in_w k tQat w
    have I4 := fun w => in_w k tRest w
    have IO := fun w => Operator_w k w
    cases hm : motZ k
    · simp only [hm] at IM
      cases vis
      · cases ho : opZ k
        · simp only [ho] at IO
          by_cases c : k = 114
          · have cb : (k == 114) = true := beq_iff_eq.mpr c
            have e : verbT false { t with verb := k } k = { ({ t with verb := k } : St) with nx := .aw true .sign } := by simp only [verbT, Bool.false_eq_true, if_false, if_true, Bool.true_or, Bool.false_or, Bool.or_true, beq_self_eq_true, hm, ho, if_pos c]
            rw [e]
            exact verb_A1 B R s t k v w hB D C IM IO cb
          · have cb : (k == 114) = false := beq_eq_false_iff_ne.mpr c
            cases hq : inZ k tQat
            · simp only [hq] at I3
              cases h18 : (k == 18)
              · cases h27 : (k == 27)
                · skip
                  have e : verbT false { t with verb := k } k = endsS { t with verb := k } (inZ k tRest) := by simp only [verbT, Bool.false_eq_true, if_false, if_true, Bool.true_or, Bool.false_or, Bool.or_true, beq_self_eq_true, hm, ho, if_neg c, hq, h18, h27]
                  rw [e]
                  exact verb_A2 B R s t k v w hB D C IM IO I3 I4 cb h18 h27
                · skip
                  have e : verbT false { t with verb := k } k = endsS { t with verb := k } true := by simp only [verbT, Bool.false_eq_true, if_false, if_true, Bool.true_or, Bool.false_or, Bool.or_true, beq_self_eq_true, hm, ho, if_neg c, hq, h18, h27]
                  rw [e]
                  exact verb_A3 B R s t k v w hB D C IM IO I3 cb h18 h27
              · skip
                have e : verbT false { t with verb := k } k = endsS { t with verb := k } true := by simp only [verbT, Bool.false_eq_true, if_false, if_true, Bool.true_or, Bool.false_or, Bool.or_true, beq_self_eq_true, hm, ho, if_neg c, hq, h18]
                rw [e]
                exact verb_A4 B R s t k v w hB D C IM IO I3 cb h18
            · simp only [hq] at I3
              have e : verbT false { t with verb := k } k = { ({ t with verb := k } : St) with nx := .aw true .mac } := by simp only [verbT, Bool.false_eq_true, if_false, if_true, Bool.true_or, Bool.false_or, Bool.or_true, beq_self_eq_true, hm, ho, if_neg c, hq]
              rw [e]
              exact verb_A5 B R s t k v w hB D C IM IO I3 cb
        · simp only [ho] at IO
          have e : verbT false { t with verb := k } k = { ({ t with verb := k } : St) with nx := .far } := by simp only [verbT, Bool.false_eq_true, if_false, if_true, Bool.true_or, Bool.false_or, Bool.or_true, beq_self_eq_true, hm, ho]
          rw [e]
          exact verb_A6 B R s t k v w hB D C IM IO
      · cases hi : inZ k tIa
        · simp only [hi] at I1
          cases h27 : (k == 27)
          · skip
            have e : verbT true { t with verb := k } k = endsS { t with verb := k } (inZ k tVis) := by simp only [verbT, Bool.false_eq_true, if_false, if_true, Bool.true_or, Bool.false_or, Bool.or_true, beq_self_eq_true, hm, hi, h27]
            rw [e]
            exact verb_V1 B R s t k v w hB D C IM I1 I2 h27
          · skip
            have e : verbT true { t with verb := k } k = endsS { t with verb := k } true := by simp only [verbT, Bool.false_eq_true, if_false, if_true, Bool.true_or, Bool.false_or, Bool.or_true, beq_self_eq_true, hm, hi, h27]
            rw [e]
            exact verb_V2 B R s t k v w hB D C IM I1 h27
        · simp only [hi] at I1
          have e : verbT true { t with verb := k } k = { ({ t with verb := k } : St) with nx := .aw true .object } := by simp only [verbT, Bool.false_eq_true, if_false, if_true, Bool.true_or, Bool.false_or, Bool.or_true, beq_self_eq_true, hm, hi]
          rw [e]
          exact verb_V3 B R s t k v w hB D C IM I1
    · simp only [hm] at IM
      have e : verbT vis { t with verb := k } k = motS { t with verb := k } k := by simp only [verbT, Bool.false_eq_true, if_false, if_true, Bool.true_or, Bool.false_or, Bool.or_true, beq_self_eq_true, hm]
      rw [e]
      exact verb_M B R s t vis k v w hB D C IM
  · rw [hd] at D
    simp only [if_true] at D
    have HD := Aside0.mk D
    have HV := Aside0.mk hv
    have HNX := Aside0.mk hnx
    clear D hv hnx hR
    have HE : Aside0 (verbS vis s k = digS s k) := ⟨by simp [verbS, hd]⟩
    go_enter Try.func20, Try.ntmps20
    go_wp2_with (go_at_call 25; refine HD.out.mono ?_; rintro e w1 ⟨rfl, hR1, hB1⟩)
    go_end0
    rw [HE.out]
    exact ⟨rfl, v, hR1, fun _ => by rw [show (digS s k).nx = s.nx from rfl, HNX.out]; exact HV.out.symm, hB1⟩
set_option maxRecDepth 100000 in
set_option maxHeartbeats 8000000 in
theorem far_w (B R : Nat) (s : St) (vis : Bool) (k : Int) (w : World) (hB : B ≤ R) (hR : Row w R s vis (.func (.func 30) #[.pointer (some ⟨R, 0, none⟩)] #[])) (hbd : Bd s) (hnx : s.nx = .far) :
    Calls Try.prog 30 #[.pointer (some ⟨R, 0, none⟩), .int .i32 k] w (Stp B R vis (farS s k) w) := by
  have D := digit_w B R s vis _ k w hB hR hbd
  generalize hv : (.func (.func 30) #[.pointer (some ⟨R, 0, none⟩)] #[] : Value) = v at hR D
  cases hd : digZ s.told k
  · rw [hd] at D
    simp only [Bool.false_eq_true, if_false] at D
    have C := fun w1 hR1 => counted_w B R s vis v w1 hB hR1 hbd
    have E : farS s k = farT { ctdS s with move := k } k := by simp [farS, hd]
    rw [E]
    clear E
    generalize ctdS s = t at C ⊢
    have IM := fun w => Motion_w k w
    have I1 := fun w => in_w k tIa w
    have I2 := fun w => in_w k tVis w
    have I3 := fun w => in_w k tQat w
    have I4 := fun w => in_w k tRest w
    have IO := fun w => Operator_w k w
    by_cases c : k = t.verb
    · have cb : (k == t.verb) = true := beq_iff_eq.mpr c
      have e : farT { t with move := k } k = endsS { t with move := k } true := by simp only [farT, Bool.false_eq_true, if_false, if_true, Bool.true_or, Bool.false_or, Bool.or_true, beq_self_eq_true, if_pos c]
      rw [e]
      exact far_1 B R s t vis k v w hB D C cb
    · have cb : (k == t.verb) = false := beq_eq_false_iff_ne.mpr c
      cases hm : motZ k
      · simp only [hm] at IM
        cases hi : inZ k tIa
        · simp only [hi] at I1
          have e : farT { t with move := k } k = endsS { t with move := k } false := by simp only [farT, Bool.false_eq_true, if_false, if_true, Bool.true_or, Bool.false_or, Bool.or_true, beq_self_eq_true, hm, hi, if_neg c]
          rw [e]
          exact far_2 B R s t vis k v w hB D C IM I1 cb
        · simp only [hi] at I1
          have e : farT { t with move := k } k = { ({ t with move := k } : St) with nx := .aw true .object } := by simp only [farT, Bool.false_eq_true, if_false, if_true, Bool.true_or, Bool.false_or, Bool.or_true, beq_self_eq_true, hm, hi, if_neg c]
          rw [e]
          exact far_3 B R s t vis k v w hB D C IM I1 cb
      · simp only [hm] at IM
        have e : farT { t with move := k } k = motS { t with move := k } k := by simp only [farT, Bool.false_eq_true, if_false, if_true, Bool.true_or, Bool.false_or, Bool.or_true, beq_self_eq_true, hm, if_neg c]
        rw [e]
        exact far_4 B R s t vis k v w hB D C IM cb
  · rw [hd] at D
    simp only [if_true] at D
    have HD := Aside0.mk D
    have HV := Aside0.mk hv
    have HNX := Aside0.mk hnx
    clear D hv hnx hR
    have HE : Aside0 (farS s k = digS s k) := ⟨by simp [farS, hd]⟩
    go_enter Try.func30, Try.ntmps30
    go_wp2_with (go_at_call 25; refine HD.out.mono ?_; rintro e w1 ⟨rfl, hR1, hB1⟩)
    go_end0
    rw [HE.out]
    exact ⟨rfl, v, hR1, fun _ => by rw [show (digS s k).nx = s.nx from rfl, HNX.out]; exact HV.out.symm, hB1⟩
end Go.Proofs.Ytfhlohmhacfngaa.Ext
