/- runs.Normal and strip.Make, by their walks. -/
import Derived.Test.YtgaggoglbkcomaaExtRI
import Derived.Test.YtgaggoglbkcomaaXRRx2
import Derived.Test.YtgaggoglbkcomaaXRRx3
import Derived.Test.YtgaggoglbkcomaaXRRx4
import Derived.Test.YtgaggoglbkcomaaXRRx0
import Derived.Test.YtgaggoglbkcomaaWMore
import Derived.WalkKit
import Derived.WalkMore
import Derived.Below
import Derived.KernelRfl
import Derived.LoopTactic
import Derived.Deep.RegionWith
import Derived.Deep.RegionHeld3
import Derived.IntWalk
import Derived.Deep.DeepCutAuto
import Derived.Deep.CutBlock
import Derived.BigQuiet
import Derived.Laws.RangeString
import Derived.Laws.RangeAny
import Derived.Laws.Rows
import Derived.Laws.Runes
import Derived.Lib.OthersKept
import Derived.OpenShut
set_option linter.unusedVariables false
set_option linter.unusedSimpArgs false
namespace Go.Proofs.Ytgaggoglbkcomaa.Ext
open Go.RowKit Go.Lib Go.Proofs.YtgaggoglbkcomaaW.PrintWords Go.Proofs.YtgaggoglbkcomaaW.PrintMore Go.Proofs.Ytgaggoglbkcomaa.XRR

def negL (l : List Rn) : Bool := l.any (fun r => decide (r.f1 < 0))
def norZ (l : List Rn) : List Rn × Int := if negL l = true then ([], 2) else if totG 0 l > 4096 then ([], 3) else (someR 0 4096 0 l [], 0)
theorem neg_cons (r : Rn) (l : List Rn) : negL (r :: l) = (decide (r.f1 < 0) || negL l) := rfl
theorem totG_each : ∀ (l : List Rn) (n : Int), 0 ≤ n → (∀ r, r ∈ l → 0 ≤ r.f1) → totG n l ≤ 4096 → ∀ r, r ∈ l → r.f1 ≤ 5000
  | [], _, _, _, _, r, hr => by cases hr
  | x :: l, n, hn, hp, ht, r, hr => by
    unfold totG at ht
    by_cases c : x.f1 > 4096 - n
    · rw [if_pos c] at ht; omega
    · rw [if_neg c] at ht
      rcases List.mem_cons.1 hr with e | h
      · rw [e]; omega
      · exact totG_each l (n + max x.f1 0) (by omega) (fun y hy => hp y (List.mem_cons_of_mem _ hy)) ht r h
abbrev WC (w : World) (v : Value) : World := w.alloc (.cells #[v] 22)
/-- strip.Make: bytes, runs, error. -/
def makT (s : ByteArray) (L : Int) : ByteArray × List Rn × Int := if (s.size : Int) > 4096 then (⟨#[]⟩, [], 3) else (s, (if s.size = 0 then [] else [⟨L, s.size⟩]), 0)
theorem norZ_one (s : ByteArray) (L : Int) : norZ [⟨L, (s.size : Int)⟩] = if (s.size : Int) > 4096 then ([], 3) else ((if s.size = 0 then [] else [⟨L, s.size⟩]), 0) := by
  have hn : negL [⟨L, (s.size : Int)⟩] = false := by
    show (decide ((s.size : Int) < 0) || false) = false
    rw [decide_eq_false (by omega)]
    rfl
  unfold norZ
  rw [if_neg (by rw [hn]; decide)]
  by_cases c : (s.size : Int) > 4096
  · rw [if_pos c, if_pos (by unfold totG; rw [if_pos (by simpa using c)]; decide)]
  · rw [if_neg c, if_neg (by unfold totG; rw [if_neg (by simpa using c)]; unfold totG; simp only; omega)]
    have e : someR 0 4096 0 [⟨L, (s.size : Int)⟩] [] = addR [] ⟨L, s.size⟩ := by
      show addR [] ⟨L, min (0 + (s.size : Int)) 4096 - max 0 0⟩ = _
      rw [show min (0 + (s.size : Int)) 4096 - max 0 0 = (s.size : Int) by omega]
    rw [e]
    unfold addR
    by_cases c2 : s.size = 0
    · rw [if_pos c2, if_pos (by simp only; omega)]
    · rw [if_neg c2, if_neg (by simp only; omega)]
      rfl
theorem C_one (w : World) (b : Nat) (L n : Int) (h0 : w.cell? ⟨b, 0, none⟩ = some (.int .u64 L)) (h1 : w.cell? ⟨b, 1, none⟩ = some (.int .i64 n)) : Kd.C k29 w (some ⟨b, 0, none⟩) 1 [(⟨L, n⟩ : Rn)] := by
  refine ⟨rfl, by decide, fun _ => ⟨_, rfl, fun j p hj => ?_⟩⟩
  cases j with
  | zero =>
    cases hj
    refine ⟨_, ?_, k29_mk w ⟨L, n⟩, fun i u hu => ?_⟩
    · rfl
    · match i, hu with
      | 0, hu => cases hu; exact h0
      | 1, hu => cases hu; exact h1
  | succ j => cases hj
abbrev WM (w : World) (s : ByteArray) (L : Int) : World := (w.alloc (.cells #[.string e0, .slice none 0 0] 24)).alloc (.cells #[.int .u64 L, .int .i64 s.size] 29)

end Go.Proofs.Ytgaggoglbkcomaa.Ext
