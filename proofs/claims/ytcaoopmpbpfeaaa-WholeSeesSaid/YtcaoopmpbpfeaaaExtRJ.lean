/- runs.Normal and strip.Make, by their walks. -/
import Derived.Test.YtcaoopmpbpfeaaaExtRI
import Derived.Test.YtcaoopmpbpfeaaaXRRx2
import Derived.Test.YtcaoopmpbpfeaaaXRRx4
import Derived.Test.YtcaoopmpbpfeaaaXRRx0
import Derived.Test.YtcaoopmpbpfeaaaWMore
import Derived.WalkKit
import Derived.WalkMore
import Derived.Below
import Derived.KernelRfl
import Derived.LoopTactic
import Derived.Deep.RegionWith
import Derived.Deep.RegionHeld3
import Derived.IntWalk
import Derived.Deep.DeepCutAuto
import Derived.Deep.CutBlock
import Derived.BigQuiet
import Derived.Laws.RangeString
import Derived.Laws.RangeAny
import Derived.Laws.Rows
import Derived.Laws.Runes
import Derived.Lib.OthersKept
import Derived.OpenShut
set_option linter.unusedVariables false
set_option linter.unusedSimpArgs false
namespace Go.Proofs.Ytcaoopmpbpfeaaa.Ext
open Go.RowKit Go.Lib Go.Proofs.YtcaoopmpbpfeaaaW.PrintWords Go.Proofs.YtcaoopmpbpfeaaaW.PrintMore Go.Proofs.Ytcaoopmpbpfeaaa.XRR

def negL (l : List Rn) : Bool := l.any (fun r => decide (r.f1 < 0))
def norZ (l : List Rn) : List Rn × Int := if negL l = true then ([], 2) else if totG 0 l > 4096 then ([], 3) else (someR 0 4096 0 l [], 0)
theorem neg_cons (r : Rn) (l : List Rn) : negL (r :: l) = (decide (r.f1 < 0) || negL l) := rfl
theorem totG_each : ∀ (l : List Rn) (n : Int), 0 ≤ n → (∀ r, r ∈ l → 0 ≤ r.f1) → totG n l ≤ 4096 → ∀ r, r ∈ l → r.f1 ≤ 5000
  | [], _, _, _, _, r, hr => by cases hr
  | x :: l, n, hn, hp, ht, r, hr => by
    unfold totG at ht
    by_cases c : x.f1 > 4096 - n
    · rw [if_pos c] at ht; omega
    · rw [if_neg c] at ht
      rcases List.mem_cons.1 hr with e | h
      · rw [e]; omega
      · exact totG_each l (n + max x.f1 0) (by omega) (fun y hy => hp y (List.mem_cons_of_mem _ hy)) ht r h
abbrev WC (w : World) (v : Value) : World := w.alloc (.cells #[v] 26)
set_option maxRecDepth 100000 in
set_option maxHeartbeats 8000000 in
theorem Normal_w (w : World) (A : Option Addr) (c : Nat) (l : List Rn) (hr : Kd.C k43 w A l.length l) (hc : l.length ≤ c) (hl : l.length ≤ 5000) :
    Calls Try.prog 17 #[.slice A l.length c] w fun e w' => ∃ v0 : Value, e = .returned (.tuple #[v0, .int .i64 (norZ l).2]) ∧ Kd.R k43 43 w' w.heap.size (fun _ => True) v0 (norZ l).1 ∧ Below w.heap.size w w' := by
  have hx := heap_alloc_new w (.cells #[.slice A l.length c] 26)
  have HX := Aside0.mk hx
  have c0 := cell_of_one hx
  have HB := Aside0.mk (below_alloc (Below.refl w.heap.size w) (.cells #[.slice A l.length c] 26))
  have HR := Aside0.mk hr
  clear hx hr
  obtain ⟨z, hz⟩ : ∃ z, z = norZ l := ⟨_, rfl⟩
  rw [← hz]
  have HZ := Aside0.mk hz
  clear hz
  go_enter Try.func17, Try.ntmps17
  go_wp2
  go_loopw [8] (fun ii wr => ∃ (wr1 : World) (q : Nat), wr1 = wr ∧ ii = .int .i64 q ∧ q ≤ l.length ∧ Aside0 (∀ (j : Nat) (hj : j < l.length), j < q → 0 ≤ (l[j]'hj).f1) ∧ Aside0 (Below (w.alloc (.cells #[.slice A l.length c] 26)).heap.size (w.alloc (.cells #[.slice A l.length c] 26)) wr1)) (fun ii _ => l.length - (intOf ii).toNat)
  case atStart => exact ⟨_, 0, rfl, rfl, Nat.zero_le _, ⟨fun j hj h => (Nat.not_lt_zero _ h).elim⟩, ⟨Below.refl _ _⟩⟩
  case round =>
    obtain ⟨wr1, q, rfl, rfl, hq, HN, HBW⟩ := hrel
    by_cases hql : q < l.length
    · obtain ⟨ad, eA, hz0, hz1⟩ := g43 rfl (Kd.C_below HR.out (below_step HB.out HBW.out)) q hql
      cases eA
      by_cases hneg : l[q].f1 < 0
      · have hnl : negL l = true := List.any_eq_true.2 ⟨l[q], List.getElem_mem hql, decide_eq_true hneg⟩
        have ez : norZ l = ([], 2) := by unfold norZ; rw [if_pos hnl]
        have EZ := Aside0.mk (HZ.out.trans ez)
        clear hnl ez
        generalize l[q] = x at hz0 hz1 hneg
        obtain ⟨x0, x1⟩ := x
        simp only at hz0 hz1 hneg
        go_wp2
        exact bodyPost_ret (v := .tuple #[.slice none 0 0, .int .i64 2]) (by simp [results, Try.results17, go_sem]) rfl ⟨_, by rw [EZ.out], by rw [EZ.out]; exact Kd.R_nil _ _ _ _ _, below_alloc (below_step HB.out HBW.out) _⟩
      · have hn2 : ∀ (j : Nat) (hj : j < l.length), j < q + 1 → 0 ≤ (l[j]'hj).f1 := by
          intro j hj h
          by_cases e : j = q
          · subst e; omega
          · exact HN.out j hj (by omega)
        have HN2 := Aside0.mk hn2
        have HB2 := Aside0.mk (below_alloc HBW.out (.cells #[.int .u64 l[q].f0, .int .i64 l[q].f1] 43))
        clear hn2 HN
        generalize l[q] = x at hz0 hz1 hneg HB2
        obtain ⟨x0, x1⟩ := x
        simp only at hz0 hz1 hneg HB2
        go_wp2
        exact ⟨⟨_, q + 1, rfl, by go_num, by omega, HN2, HB2⟩, by simp [intOf]; omega⟩
    · have hqg : l.length ≤ q := by omega
      have hn : negL l = false := by
        refine Bool.eq_false_iff.2 (fun h => ?_)
        obtain ⟨r, hr, hd⟩ := List.any_eq_true.1 h
        obtain ⟨j, hj, rfl⟩ := List.getElem_of_mem hr
        have := HN.out j hj (by omega)
        have := of_decide_eq_true hd
        omega
      have hpos : ∀ r, r ∈ l → 0 ≤ r.f1 := by
        intro r hr
        obtain ⟨j, hj, rfl⟩ := List.getElem_of_mem hr
        exact HN.out j hj (by omega)
      have hbr := below_step HB.out HBW.out
      have hxr := (HBW.out.block w.heap.size (by simp)).trans HX.out
      have HBR := Aside0.mk hbr
      have HXR := Aside0.mk hxr
      have c1 := cell_of_one hxr
      have HTL := Aside0.mk (fun (w1 : World) (hb : Below w.heap.size w w1) => runs_Total.calls (l.length + 1) A c l (totG 0 l) w1 (Kd.C_below HR.out hb) hc (Total_k l (by omega) _ (Nat.le_refl _)))
      by_cases hbig : totG 0 l > 4096
      · have ez : norZ l = ([], 3) := by unfold norZ; rw [if_neg (by rw [hn]; decide), if_pos hbig]
        have EZ := Aside0.mk (HZ.out.trans ez)
        clear ez hn hpos hbr hxr HN
        go_wp2_with (first | (go_at_call 19; (with_reducible refine (HTL.out _ HBR.out).mono ?_); rintro e w6 ⟨rfl, hb6⟩; have HB6 := Aside0.mk (below_step HBR.out hb6); have hx6 := (hb6.block w.heap.size (Nat.lt_of_lt_of_le (Nat.lt_succ_self _) (by have := HBW.out.size; simp at this; omega))).trans HXR.out; have HX6 := Aside0.mk hx6; have c6 := cell_of_one hx6; clear hb6 hx6))
        exact bodyPost_ret (v := .tuple #[.slice none 0 0, .int .i64 3]) (by simp [results, Try.results17, go_sem]) rfl ⟨_, by rw [EZ.out], by rw [EZ.out]; exact Kd.R_nil _ _ _ _ _, HB6.out⟩
      · have ez : norZ l = (someR 0 4096 0 l [], 0) := by unfold norZ; rw [if_neg (by rw [hn]; decide), if_neg hbig]
        have EZ := Aside0.mk (HZ.out.trans ez)
        have hok : okL l := ⟨fun r hr => ⟨hpos r hr, totG_each l 0 (by decide) hpos (by omega) r hr⟩, hl⟩
        have HGA := Aside0.mk (fun (w1 : World) (hb : Below w.heap.size w w1) (hF : w1.heap[w.heap.size]? = some (.cells #[.slice A l.length c] 26 (0, 0))) => gather_normal w1 w.heap.size (someR 0 4096 0 l []) (fun w2 hg => normal1_w w1 w2 A c l w1.heap.size w.heap.size (Kd.C_below HR.out hb) ⟨hF⟩ hg hok))
        clear ez hn hpos hbr hxr HN hok
        go_wp2_with (first | (go_at_call 19; (with_reducible refine (HTL.out _ HBR.out).mono ?_); rintro e w6 ⟨rfl, hb6⟩; have HB6 := Aside0.mk (below_step HBR.out hb6); have hx6 := (hb6.block w.heap.size (Nat.lt_of_lt_of_le (Nat.lt_succ_self _) (by have := HBW.out.size; simp at this; omega))).trans HXR.out; have HX6 := Aside0.mk hx6; have c6 := cell_of_one hx6; clear hb6 hx6) | (go_at_call 26; (with_reducible refine (HGA.out _ HB6.out HX6.out).mono ?_); rintro e w7 ⟨v7, rfl, hr7, hb7⟩; have HR7 := Aside0.mk (Kd.R_lower hr7 HB6.out.size); have HB7 := Aside0.mk (below_step HB6.out hb7); obtain ⟨A7, c7, e7⟩ := Kd.R_slice hr7; subst e7; clear hr7 hb7))
        exact bodyPost_ret (v := .tuple #[.slice A7 (someR 0 4096 0 l []).length c7, .int .i64 0]) (by simp [results, Try.results17, go_sem]) rfl ⟨_, by rw [EZ.out], by rw [EZ.out]; exact HR7.out, HB7.out⟩
/-- strip.Make: bytes, runs, error. -/
def makT (s : ByteArray) (L : Int) : ByteArray × List Rn × Int := if (s.size : Int) > 4096 then (⟨#[]⟩, [], 3) else (s, (if s.size = 0 then [] else [⟨L, s.size⟩]), 0)
theorem norZ_one (s : ByteArray) (L : Int) : norZ [⟨L, (s.size : Int)⟩] = if (s.size : Int) > 4096 then ([], 3) else ((if s.size = 0 then [] else [⟨L, s.size⟩]), 0) := by
  have hn : negL [⟨L, (s.size : Int)⟩] = false := by
    show (decide ((s.size : Int) < 0) || false) = false
    rw [decide_eq_false (by omega)]
    rfl
  unfold norZ
  rw [if_neg (by rw [hn]; decide)]
  by_cases c : (s.size : Int) > 4096
  · rw [if_pos c, if_pos (by unfold totG; rw [if_pos (by simpa using c)]; decide)]
  · rw [if_neg c, if_neg (by unfold totG; rw [if_neg (by simpa using c)]; unfold totG; simp only; omega)]
    have e : someR 0 4096 0 [⟨L, (s.size : Int)⟩] [] = addR [] ⟨L, s.size⟩ := by
      show addR [] ⟨L, min (0 + (s.size : Int)) 4096 - max 0 0⟩ = _
      rw [show min (0 + (s.size : Int)) 4096 - max 0 0 = (s.size : Int) by omega]
    rw [e]
    unfold addR
    by_cases c2 : s.size = 0
    · rw [if_pos c2, if_pos (by simp only; omega)]
    · rw [if_neg c2, if_neg (by simp only; omega)]
      rfl
theorem C_one (w : World) (b : Nat) (L n : Int) (h0 : w.cell? ⟨b, 0, none⟩ = some (.int .u64 L)) (h1 : w.cell? ⟨b, 1, none⟩ = some (.int .i64 n)) : Kd.C k43 w (some ⟨b, 0, none⟩) 1 [(⟨L, n⟩ : Rn)] := by
  refine ⟨rfl, by decide, fun _ => ⟨_, rfl, fun j p hj => ?_⟩⟩
  cases j with
  | zero =>
    cases hj
    refine ⟨_, ?_, k43_mk w ⟨L, n⟩, fun i u hu => ?_⟩
    · rfl
    · match i, hu with
      | 0, hu => cases hu; exact h0
      | 1, hu => cases hu; exact h1
  | succ j => cases hj
abbrev WM (w : World) (s : ByteArray) (L : Int) : World := (w.alloc (.cells #[.string e0, .slice none 0 0] 28)).alloc (.cells #[.int .u64 L, .int .i64 s.size] 43)
set_option maxRecDepth 100000 in
set_option maxHeartbeats 8000000 in
theorem makT_w (w : World) (s : ByteArray) (L : Int) (hs : s.size ≤ 9000000000000000000) :
    Calls Try.prog 10 #[.string s, .int .u64 L] w fun e w' => ∃ v0 : Value, e = .returned (.tuple #[vT (makT s L).1 v0, .int .i64 (makT s L).2.2]) ∧ Kd.R k43 43 w' w.heap.size (fun _ => True) v0 (makT s L).2.1 ∧ Below w.heap.size w w' := by
  have hB := below_alloc (below_alloc (Below.refl w.heap.size w) (.cells #[.string e0, .slice none 0 0] 28)) (.cells #[.int .u64 L, .int .i64 s.size] 43)
  have hx : BX (WM w s L) w.heap.size e0 (.slice none 0 0) := ⟨by rw [Below.heap_alloc _ _ _ (by simp)]; exact heap_alloc_new _ _⟩
  have hrow : (WM w s L).heap[w.heap.size + 1]? = some (.cells #[.int .u64 L, .int .i64 s.size] 43 (0, 0)) := by
    have := heap_alloc_new (w.alloc (.cells #[.string e0, .slice none 0 0] 28)) (.cells #[.int .u64 L, .int .i64 s.size] 43)
    rwa [show (w.alloc (.cells #[.string e0, .slice none 0 0] 28)).heap.size = w.heap.size + 1 by simp] at this
  have hC : Kd.C k43 (WM w s L) (some ⟨w.heap.size + 1, 0, none⟩) 1 [(⟨L, s.size⟩ : Rn)] := C_one _ _ _ _ (by rw [cell_of_row _ _ _ _ _ _ hrow]; rfl) (by rw [cell_of_row _ _ _ _ _ _ hrow]; rfl)
  have HN := Aside0.mk (Normal_w (WM w s L) (some ⟨w.heap.size + 1, 0, none⟩) 1 [⟨L, s.size⟩] hC (Nat.le_refl _) (by show 1 ≤ 5000; decide))
  have HB := Aside0.mk hB
  have HX := Aside0.mk hx
  clear hB hx hrow hC
  rw [norZ_one, show ([(⟨L, (s.size : Int)⟩ : Rn)]).length = 1 from rfl] at HN
  by_cases hbig : (s.size : Int) > 4096
  · have ez : makT s L = (⟨#[]⟩, [], 3) := by unfold makT; rw [if_pos hbig]
    rw [if_pos hbig] at HN
    rw [ez]
    clear ez hbig
    go_enter Try.func10, Try.ntmps10
    go_wp2_with (first | (go_at_call 17; (with_reducible refine HN.out.mono ?_); rintro e w7 ⟨v7, rfl, hr7, hb7⟩; obtain ⟨A7, c7, e7⟩ := Kd.R_slice hr7; subst e7; have HR7 := Aside0.mk (Kd.R_lower hr7 HB.out.size); have HB7 := Aside0.mk (below_step HB.out hb7); have HX7 := Aside0.mk (HX.out.below hb7); obtain ⟨c0, c1, f0, f1⟩ := HX7.out.cells; have lc7 := HX7.out.lt; clear hb7 hr7))
    exact bodyPost_ret (v := .tuple #[vT e0 (.slice none 0 0), .int .i64 3]) (by simp [results, Try.results10, go_sem, c0, c1, lc7]) rfl ⟨_, rfl, Kd.R_nil _ _ _ _ _, two_set HB7.out (by omega)⟩
  · have ez : makT s L = (s, (if s.size = 0 then [] else [⟨L, s.size⟩]), 0) := by unfold makT; rw [if_neg hbig]
    rw [if_neg hbig] at HN
    rw [ez]
    generalize (if s.size = 0 then [] else [⟨L, (s.size : Int)⟩] : List Rn) = m at *
    clear ez hbig
    go_enter Try.func10, Try.ntmps10
    go_wp2_with (first | (go_at_call 17; (with_reducible refine HN.out.mono ?_); rintro e w7 ⟨v7, rfl, hr7, hb7⟩; obtain ⟨A7, c7, e7⟩ := Kd.R_slice hr7; subst e7; have HR7 := Aside0.mk (Kd.R_lower hr7 HB.out.size); have HB7 := Aside0.mk (below_step HB.out hb7); have HX7 := Aside0.mk (HX.out.below hb7); obtain ⟨c0, c1, f0, f1⟩ := HX7.out.cells; have lc7 := HX7.out.lt; clear hb7 hr7))
    exact bodyPost_ret (v := .tuple #[vT s (.slice A7 m.length c7), .int .i64 0]) (by simp [results, Try.results10, go_sem, c0, c1, lc7]) rfl ⟨_, rfl, R_two HR7.out HX7.out _ _, two_set HB7.out (by omega)⟩

end Go.Proofs.Ytcaoopmpbpfeaaa.Ext
