/- The document's Cut, Splice and Put, in plain words; its Put by its walk. -/
import Derived.Test.YtgaggoglbkcomaaExt05JL
import Derived.Test.YtgaggoglbkcomaaExt05EI
import Derived.Test.YtgaggoglbkcomaaExt05AD
import Derived.Test.YtgaggoglbkcomaaExtSC
import Derived.Test.YtgaggoglbkcomaaXRRx7
import Derived.Test.YtgaggoglbkcomaaXRRx6
import Derived.Test.YtgaggoglbkcomaaXRRx5
import Derived.Test.YtgaggoglbkcomaaXRRx2
import Derived.Test.YtgaggoglbkcomaaXRRx3
import Derived.Test.YtgaggoglbkcomaaXRRx0
import Derived.Test.YtgaggoglbkcomaaWMore
import Derived.WalkKit
import Derived.WalkMore
import Derived.Below
import Derived.KernelRfl
import Derived.LoopTactic
import Derived.Deep.RegionWith
import Derived.Deep.RegionHeld3
import Derived.IntWalk
import Derived.Deep.DeepCutAuto
import Derived.Deep.CutBlock
import Derived.BigQuiet
import Derived.Laws.RangeString
import Derived.Laws.RangeAny
import Derived.Laws.Rows
import Derived.Laws.Runes
import Derived.Lib.OthersKept
import Derived.OpenShut
set_option linter.unusedVariables false
set_option linter.unusedSimpArgs false
namespace Go.Proofs.Ytgaggoglbkcomaa.Ext
open Go.RowKit Go.Lib Go.Proofs.YtgaggoglbkcomaaW.PrintWords Go.Proofs.YtgaggoglbkcomaaW.PrintMore Go.Proofs.Ytgaggoglbkcomaa.XRR

theorem good_le {l : List Rn} (h : goodB l = true) : ∀ r, r ∈ l → r.f1 ≤ 5000 := fun r hr => by
  have h1 := val_nB (l := l) r hr
  have h2 := good_n h
  omega
theorem dWithin (s : ByteArray) (l : List Rn) (f t : Int) (hl : l.length ≤ 9223372036854775807) (k : Nat) (hk : 2 * l.length + 5000 ≤ k) : bureauref04_Within.f k s l f t = some (withinT s l f t) := by
  unfold bureauref04_Within.f withinT
  rw [dGood4 s l hl k hk, Option.bind_some]
  cases goodT s l
  · rfl
  · rw [if_pos rfl]
    by_cases h1 : 0 ≤ f
    · rw [if_pos h1]
      by_cases h2 : f ≤ t
      · rw [if_pos h2, decide_eq_true h1, decide_eq_true h2]
        rfl
      · rw [if_neg h2, decide_eq_false h2]
        simp
    · rw [if_neg h1, decide_eq_false h1]
      rfl
theorem dBytesG {l : List Rn} (h : goodB l = true) (k : Nat) (hk : 20000 ≤ k) : bureauref03_Bytes.f k l = some (bytesR l) := by
  have h1 := good_len h
  have h2 := good_n h
  exact dBytes l (by omega) (good_le h) (by omega) k (by omega)
theorem pk_of {xs : List Int} {r : List Rn} (h : pk r) (e : bytesR r = xs) : pkF [] xs = r := by
  obtain ⟨h1, h2⟩ := pkF_ok xs [] trivial
  exact pk_inj h1 h (by rw [h2, e]; rfl)
theorem dCut (s : ByteArray) (l : List Rn) (f t : Int) (hl : l.length ≤ 5000) : bureauref04_Cut.f 20000 s l f t = some (cutT s l f t) := by
  unfold bureauref04_Cut.f cutT
  rw [dWithin s l f t (by omega) _ (by omega), Option.bind_some]
  by_cases hw : withinT s l f t = true
  · rw [if_pos hw, if_pos hw]
    obtain ⟨hg, h0, h1, h2⟩ := withinT_good hw
    obtain ⟨hgl, hn⟩ := goodT_good hg
    have hgn := good_n hgl
    have hlen : (bytesR l).length = s.size := hn
    obtain ⟨a, rfl⟩ : ∃ a : Nat, f = a := ⟨f.toNat, by omega⟩
    obtain ⟨b, rfl⟩ : ∃ b : Nat, t = b := ⟨t.toNat, by omega⟩
    rw [dBytesG hgl _ (by omega), Option.bind_some, if_pos h0, if_pos h1, if_pos h2, if_pos (by omega)]
    have hs := sli_ok hgl a b (by omega)
    rw [dPack _ (by rw [List.length_drop, List.length_take]; omega) _ (by rw [List.length_drop, List.length_take]; omega), Option.bind_some]
    rw [Int.toNat_natCast, Int.toNat_natCast, pk_of hs.1 hs.2]
  · rw [if_neg hw, if_neg hw]
theorem rd_at (xs : List Int) (j : Nat) (h : j < xs.length) : rd xs (j : Int) = xs[j] := by simp [rd, List.getD_eq_getElem?_getD, List.getElem?_eq_getElem h]
def finS (s x : ByteArray) (a b : Nat) (out : List Int) : Option (ByteArray × List Rn × Int) := some (s.extract 0 a ++ x ++ s.extract b s.size, pkF [] out, 0)
theorem w_succ (j : Nat) (h : j ≤ 1000000) : wrap64 ((j : Int) + 1) = ((j + 1 : Nat) : Int) := by rw [w64 _ (by omega)]; simp
theorem sp_l2 (s x : ByteArray) (l m : List Rn) (a b : Nat) (hab : a ≤ b) (hb : b ≤ s.size) (hs : s.size ≤ 4096) (hx : x.size ≤ 4096) (bs : List Int) (hbl : bs.length ≤ 100000) : ∀ (c j : Nat) (out : List Int), j + c = bs.length → out.length + c ≤ 100000 → ∀ k, c + out.length + c + 2 ≤ k → bureauref04_Splice.l2 k a b bs out j s l x m = finS s x a b (out ++ bs.drop j) := by
  intro c
  induction c with
  | zero =>
    intro j out hj ho k hk
    obtain ⟨k, rfl⟩ : ∃ k', k = k' + 1 := ⟨k - 1, by omega⟩
    have e1 : (s.extract 0 a).size ≤ 4096 := by rw [ByteArray.size_extract]; omega
    have e2 : (s.extract b s.size).size ≤ 4096 := by rw [ByteArray.size_extract]; omega
    have e3 : (s.extract 0 a ++ x).size ≤ 8192 := by rw [ByteArray.size_append]; omega
    unfold bureauref04_Splice.l2
    rw [Int.toNat_natCast, Int.toNat_natCast]
    rw [if_neg (show ¬ ((j : Int) < (bs.length : Int)) by omega), if_pos (show (0 : Int) ≤ (a : Int) by omega), if_pos (show (a : Int) ≤ (s.size : Int) by omega), if_pos (show (s.extract 0 a).size + x.size ≤ 9223372036854775807 by omega), if_pos (show (0 : Int) ≤ (b : Int) by omega), if_pos (show (b : Int) ≤ (s.size : Int) by omega), if_pos (show (s.extract 0 a ++ x).size + (s.extract b s.size).size ≤ 9223372036854775807 by omega), List.drop_of_length_le (show bs.length ≤ j by omega), List.append_nil, dPack out (by omega) k (by omega)]
    rfl
  | succ c ih =>
    intro j out hj ho k hk
    obtain ⟨k, rfl⟩ : ∃ k', k = k' + 1 := ⟨k - 1, by omega⟩
    have hjl : j < bs.length := by omega
    have h2 : wrap64 ((j : Int) + 1) = ((j + 1 : Nat) : Int) := by rw [w64 _ (by omega)]; simp
    have h := ih (j + 1) (out ++ [bs[j]]) (by omega) (by rw [List.length_append, List.length_singleton]; omega) k (by rw [List.length_append, List.length_singleton]; omega)
    rw [List.append_assoc] at h
    unfold bureauref04_Splice.l2
    rw [if_pos (show (j : Int) < (bs.length : Int) by omega), if_pos (show (0 : Int) ≤ (j : Int) by omega), if_pos (show out.length < 17592186044416 by omega), h2, rd_at bs j hjl, h, List.drop_eq_getElem_cons hjl]
    rfl
theorem sp_l1 (s x : ByteArray) (l m : List Rn) (a b : Nat) (hab : a ≤ b) (hb : b ≤ s.size) (hs : s.size ≤ 4096) (hx : x.size ≤ 4096) (bs ms : List Int) (hbs : bs.length = s.size) (hml : ms.length ≤ 100000) : ∀ (c j : Nat) (out : List Int), j + c = ms.length → out.length + c ≤ 50000 → ∀ k, c + 3 * (out.length + c) + 20000 ≤ k → bureauref04_Splice.l1 k a b bs ms out j s l x m = finS s x a b (out ++ ms.drop j ++ bs.drop b) := by
  intro c
  induction c with
  | zero =>
    intro j out hj ho k hk
    obtain ⟨k, rfl⟩ : ∃ k', k = k' + 1 := ⟨k - 1, by omega⟩
    have c1 : ((j : Int) < (ms.length : Int)) = False := eq_false (by omega)
    have c2 := List.drop_of_length_le (show ms.length ≤ j by omega)
    have h := sp_l2 s x l m a b hab hb hs hx bs (by omega) (bs.length - b) b out (by omega) (by omega) k (by omega)
    rw [bureauref04_Splice.l1]
    simp only [c1, if_false]
    rw [h, c2, List.append_nil]
  | succ c ih =>
    intro j out hj ho k hk
    obtain ⟨k, rfl⟩ : ∃ k', k = k' + 1 := ⟨k - 1, by omega⟩
    have hjl : j < ms.length := by omega
    have d1 : (j : Int) < (ms.length : Int) := by omega
    have d4 : j ≤ 1000000 := by omega
    have d3 : out.length < 17592186044416 := by omega
    have h := ih (j + 1) (out ++ [ms[j]]) (by omega) (by rw [List.length_append, List.length_singleton]; omega) k (by rw [List.length_append, List.length_singleton]; omega)
    rw [List.append_assoc out] at h
    have h2 := w_succ j d4
    have c1 := eq_true d1
    have c2 := eq_true (Int.natCast_nonneg j)
    have c3 := eq_true d3
    rw [bureauref04_Splice.l1]
    simp only [c1, c2, c3, if_true, h2, rd_at ms j hjl]
    rw [h, List.drop_eq_getElem_cons hjl]
    rfl
theorem sp_l0 (s x : ByteArray) (l m : List Rn) (a b : Nat) (hab : a ≤ b) (hb : b ≤ s.size) (hs : s.size ≤ 4096) (hx : x.size ≤ 4096) (bs ms : List Int) (hbs : bs.length = s.size) (hms : ms.length = x.size) : ∀ (c j : Nat) (out : List Int), j + c = a → out.length + c ≤ 5000 → ∀ k, c + 3 * (out.length + c) + 40000 ≤ k → bureauref04_Splice.l0 k a b bs ms out j s l x m = finS s x a b (out ++ (bs.take a).drop j ++ ms ++ bs.drop b) := by
  intro c
  induction c with
  | zero =>
    intro j out hj ho k hk
    obtain ⟨k, rfl⟩ : ∃ k', k = k' + 1 := ⟨k - 1, by omega⟩
    have c1 : ((j : Int) < (a : Int)) = False := eq_false (by omega)
    have c2 := List.drop_of_length_le (show (bs.take a).length ≤ j by rw [List.length_take]; omega)
    have h := sp_l1 s x l m a b hab hb hs hx bs ms hbs (by omega) ms.length 0 out (by omega) (by omega) k (by omega)
    rw [List.drop_zero] at h
    rw [bureauref04_Splice.l0]
    simp only [c1, if_false]
    rw [c2, List.append_nil]
    exact h
  | succ c ih =>
    intro j out hj ho k hk
    obtain ⟨k, rfl⟩ : ∃ k', k = k' + 1 := ⟨k - 1, by omega⟩
    have hjl : j < bs.length := by omega
    have hjt : j < (bs.take a).length := by rw [List.length_take]; omega
    have d0 : (j : Int) < (a : Int) := by omega
    have d1 : (j : Int) < (bs.length : Int) := by omega
    have d4 : j ≤ 1000000 := by omega
    have d3 : out.length < 17592186044416 := by omega
    have h := ih (j + 1) (out ++ [bs[j]]) (by omega) (by rw [List.length_append, List.length_singleton]; omega) k (by rw [List.length_append, List.length_singleton]; omega)
    rw [List.append_assoc out] at h
    have h2 := w_succ j d4
    have c0 := eq_true d0
    have c1 := eq_true d1
    have c2 := eq_true (Int.natCast_nonneg j)
    have c3 := eq_true d3
    rw [bureauref04_Splice.l0]
    simp only [c0, c1, c2, c3, if_true, h2, rd_at bs j hjl]
    rw [h, List.drop_eq_getElem_cons hjt, List.getElem_take]
    rfl
theorem dSplice (s : ByteArray) (l : List Rn) (f t : Int) (x : ByteArray) (m : List Rn) (hl : l.length ≤ 5000) (hm : m.length ≤ 5000) (K : Nat) (hK : 100000 ≤ K) : bureauref04_Splice.f K s l f t x m = some (splT s l f t x m) := by
  obtain ⟨k, rfl⟩ : ∃ k', K = k' + 1 := ⟨K - 1, by omega⟩
  unfold bureauref04_Splice.f splT
  rw [dWithin s l f t (by omega) _ (by omega), Option.bind_some]
  by_cases hw : withinT s l f t = true
  · rw [if_pos hw, dGood4 x m (by omega) _ (by omega), Option.bind_some, hw, Bool.true_and]
    rw [bureauref04_Splice.j0]
    by_cases hx : goodT x m = true
    · rw [hx, if_neg (show ¬ ((!true) = true) by decide), if_pos (show (true : Bool) = true from rfl)]
      obtain ⟨hg, h0, h1, h2⟩ := withinT_good hw
      obtain ⟨hgl, hn⟩ := goodT_good hg
      obtain ⟨hgm, hnm⟩ := goodT_good hx
      have hs4 := goodT_sz hg
      have hx4 := goodT_sz hx
      obtain ⟨a, rfl⟩ : ∃ a : Nat, f = a := ⟨f.toNat, by omega⟩
      obtain ⟨b, rfl⟩ : ∃ b : Nat, t = b := ⟨t.toNat, by omega⟩
      have e1 : wrap64 ((b : Int) - (a : Int)) = (b : Int) - a := w64 _ (by omega)
      have e2 : wrap64 ((s.size : Int) - ((b : Int) - a)) = (s.size : Int) - ((b : Int) - a) := w64 _ (by omega)
      have e3 : wrap64 ((s.size : Int) - ((b : Int) - a) + (x.size : Int)) = (s.size : Int) - ((b : Int) - a) + x.size := w64 _ (by omega)
      rw [e1, e2, e3]
      by_cases h4 : (s.size : Int) - ((b : Int) - a) + x.size > 4096
      · rw [if_pos h4, if_pos h4]
      · have hbl : (bytesR l).length = s.size := hn
        have hml : (bytesR m).length = x.size := hnm
        obtain ⟨p1, p2⟩ := spl_ok hgl hgm a b (by omega) (by omega)
        rw [if_neg h4, if_neg h4, dBytesG hgl _ (by omega), Option.bind_some, dBytesG hgm _ (by omega), Option.bind_some, Int.toNat_natCast, Int.toNat_natCast]
        have h := sp_l0 s x l m a b (by omega) (by omega) hs4 hx4 (bytesR l) (bytesR m) hbl hml a 0 [] (by omega) (by simp; omega) k (by simp; omega)
        rw [List.nil_append, List.drop_zero] at h
        unfold finS at h
        rw [pk_of p1 p2] at h
        exact h
    · rw [Bool.not_eq_true] at hx
      rw [hx, if_pos (show (!false) = true by decide), if_neg (show ¬ (false = true) by decide)]
  · rw [Bool.not_eq_true] at hw
    rw [hw, Bool.false_and, if_neg (show ¬ (false = true) by decide), if_neg (show ¬ (false = true) by decide)]
    rw [bureauref04_Splice.j0]
    rw [if_pos (show (true : Bool) = true from rfl)]
/-- The runs handed back: those that came, or new ones. -/
def OrO (w w' : World) (A' : Option Addr) (c' : Nat) (l' : List Rn) (A : Option Addr) (c : Nat) (l : List Rn) : Prop := (A' = A ∧ c' = c ∧ l' = l) ∨ RR w' w.heap.size (sv A' l' c') l'
theorem splT_put {s x : ByteArray} {l m : List Rn} {f t : Int} (mo : Nat) (hmo : mo ≤ 4096) (hg : goodT s l = true) : (putM s l mo f t x m) = (if (splT s l f t x m).2.2 = 2 then (s, l, 2) else if (splT s l f t x m).2.2 ≠ 0 ∨ ((splT s l f t x m).1.size : Int) > (mo : Int) then (s, l, 4) else ((splT s l f t x m).1, (splT s l f t x m).2.1, 0)) := by
  unfold putM splT
  by_cases hx : goodT x m = true ∧ 0 ≤ f ∧ f ≤ t ∧ t ≤ (s.size : Int)
  · have hw : (withinT s l f t && goodT x m) = true := by
      unfold withinT
      rw [hg, hx.1, decide_eq_true hx.2.1, decide_eq_true hx.2.2.1, decide_eq_true hx.2.2.2]
      rfl
    rw [if_pos hx, if_pos hw]
    obtain ⟨-, h0, h1, h2⟩ := hx
    obtain ⟨a, rfl⟩ : ∃ a : Nat, f = a := ⟨f.toNat, by omega⟩
    obtain ⟨b, rfl⟩ : ∃ b : Nat, t = b := ⟨t.toNat, by omega⟩
    rw [Int.toNat_natCast, Int.toNat_natCast]
    have hsz := sS_size s x a b (by omega) (by omega)
    by_cases h4 : (s.size : Int) - ((b : Int) - a) + x.size > 4096
    · rw [if_neg (show ¬ (s.size - (b - a) + x.size ≤ mo) by omega), if_pos h4, if_neg (show ¬ ((3 : Int) = 2) by decide), if_pos (Or.inl (show (3 : Int) ≠ 0 by decide))]
    · rw [if_neg h4]
      dsimp only
      rw [if_neg (show ¬ ((0 : Int) = 2) by decide)]
      by_cases h5 : s.size - (b - a) + x.size ≤ mo
      · rw [if_pos h5, if_neg]
        rintro (h | h)
        · exact h rfl
        · have h' : ((sS s a b x).size : Int) > (mo : Int) := h
          rw [hsz] at h'
          omega
      · rw [if_neg h5, if_pos]
        refine Or.inr ?_
        show ((sS s a b x).size : Int) > (mo : Int)
        rw [hsz]
        omega
  · have hw : ¬ (withinT s l f t && goodT x m) = true := by
      intro h
      rw [Bool.and_eq_true] at h
      obtain ⟨-, a1, a2, a3⟩ := withinT_good h.1
      exact hx ⟨h.2, a1, a2, a3⟩
    rw [if_neg hx, if_neg hw, if_pos rfl]
theorem three_below {B p : Nat} {w W : World} {a b c : Value} (h : Below B w W) (hp : B ≤ p) : Below B w (((W.setCell ⟨p, 0, none⟩ a).setCell ⟨p, 1, none⟩ b).setCell ⟨p, 2, none⟩ c) :=
  ((h.setCell (p := ⟨p, 0, none⟩) hp _).setCell (p := ⟨p, 1, none⟩) hp _).setCell (p := ⟨p, 2, none⟩) hp _
theorem three_R {W : World} {p base : Nat} {a b c a' b' c' v : Value} {l : List Rn} (h : W.heap[p]? = some (.cells #[a, b, c] 57 (0, 0))) (hr : RR W base v l) : RR (((W.setCell ⟨p, 0, none⟩ a').setCell ⟨p, 1, none⟩ b').setCell ⟨p, 2, none⟩ c') base v l :=
  Kd.R_set (Kd.R_set (Kd.R_set hr h (by decide) 0 _) (heap_setCell_same _ p 0 _ _ a' h) (by decide) 1 _) (heap_setCell_same _ p 1 _ _ b' (heap_setCell_same _ p 0 _ _ a' h)) (by decide) 2 _
structure PX (w W : World) (s : ByteArray) (v : Value) (mo : Nat) : Prop where
  b : Below w.heap.size w W
  p4 : W.heap[w.heap.size]? = some (.cells #[.string s, v, .int .i64 mo] 57 (0, 0))
  p8 : W.heap[w.heap.size + 1 + 1]? = some (.cells #[.string ⟨#[]⟩, .slice none 0 0, .int .i64 0] 57 (0, 0))
theorem PX.below {w W W' : World} {s : ByteArray} {v : Value} {mo : Nat} (h : PX w W s v mo) (hb : Below W.heap.size W W') : PX w W' s v mo := ⟨below_step h.b hb, blk_below h.p4 hb, blk_below h.p8 hb⟩
theorem PX.cells {w W : World} {s : ByteArray} {v : Value} {mo : Nat} (h : PX w W s v mo) : (W.cell? ⟨w.heap.size, 0, none⟩ = some (.string s) ∧ W.cell? ⟨w.heap.size, 1, none⟩ = some v ∧ W.cell? ⟨w.heap.size, 2, none⟩ = some (.int .i64 mo) ∧ W.frozen? ⟨w.heap.size, 0, none⟩ = false ∧ W.frozen? ⟨w.heap.size, 1, none⟩ = false) ∧ (W.cell? ⟨w.heap.size + 1 + 1, 0, none⟩ = some (.string ⟨#[]⟩) ∧ W.cell? ⟨w.heap.size + 1 + 1, 1, none⟩ = some (.slice none 0 0) ∧ W.cell? ⟨w.heap.size + 1 + 1, 2, none⟩ = some (.int .i64 0) ∧ W.frozen? ⟨w.heap.size + 1 + 1, 0, none⟩ = false ∧ W.frozen? ⟨w.heap.size + 1 + 1, 1, none⟩ = false ∧ W.frozen? ⟨w.heap.size + 1 + 1, 2, none⟩ = false) ∧ w.heap.size < W.heap.size ∧ w.heap.size + 1 + 1 < W.heap.size :=
  ⟨⟨cell_of_row W _ 0 _ _ _ h.p4, cell_of_row W _ 1 _ _ _ h.p4, cell_of_row W _ 2 _ _ _ h.p4, frozen_of_row W _ 0 _ _ h.p4, frozen_of_row W _ 1 _ _ h.p4⟩, ⟨cell_of_row W _ 0 _ _ _ h.p8, cell_of_row W _ 1 _ _ _ h.p8, cell_of_row W _ 2 _ _ _ h.p8, frozen_of_row W _ 0 _ _ h.p8, frozen_of_row W _ 1 _ _ h.p8, frozen_of_row W _ 2 _ _ h.p8⟩, (Array.getElem?_eq_some_iff.1 h.p4).1, (Array.getElem?_eq_some_iff.1 h.p8).1⟩
theorem PX.start (w : World) (s : ByteArray) (v : Value) (mo : Nat) (x : ByteArray) (v2 : Value) : PX w (((w.alloc (.cells #[.string s, v, .int .i64 mo] 57)).alloc (.cells #[.string x, v2] 24)).alloc (.cells #[.string ⟨#[]⟩, .slice none 0 0, .int .i64 0] 57)) s v mo := by
  obtain ⟨h1, -, h3⟩ := three w (.cells #[.string s, v, .int .i64 mo] 57) (.cells #[.string x, v2] 24) (.cells #[.string ⟨#[]⟩, .slice none 0 0, .int .i64 0] 57)
  exact ⟨below_alloc (below_alloc (below_alloc (Below.refl _ _) _) _) _, h1, h3⟩
theorem three_set {W : World} {p : Nat} {a b c a' b' c' : Value} {t : TypeId} (h : W.heap[p]? = some (.cells #[a, b, c] t (0, 0))) : (((W.setCell ⟨p, 0, none⟩ a').setCell ⟨p, 1, none⟩ b').setCell ⟨p, 2, none⟩ c').heap[p]? = some (.cells #[a', b', c'] t (0, 0)) :=
  heap_setCell_same _ p 2 _ _ c' (heap_setCell_same _ p 1 _ _ b' (heap_setCell_same _ p 0 _ _ a' h))
set_option maxRecDepth 100000 in
set_option maxHeartbeats 8000000 in
theorem rput_w (w : World) (s : ByteArray) (A : Option Addr) (c : Nat) (rl : List Rn) (mo : Nat) (f t : Int) (x : ByteArray) (A2 : Option Addr) (c2 : Nat) (m : List Rn) (hr : CC w A rl) (hc : rl.length ≤ c) (hr2 : CC w A2 m) (hc2 : m.length ≤ c2) (hl : rl.length ≤ 5000) (hm : m.length ≤ 5000) (hg : goodT s rl = true) (hmo : mo ≤ 4096) :
    Calls Try.prog 23 #[.agg #[.string s, sv A rl c, .int .i64 mo], .int .i64 f, .int .i64 t, vT x (sv A2 m c2)] w fun e w' => ∃ A' c', e = .returned (.tuple #[.agg #[.string (putM s rl mo f t x m).1, sv A' (putM s rl mo f t x m).2.1 c', .int .i64 mo], .int .i64 (putM s rl mo f t x m).2.2]) ∧ OrO w w' A' c' (putM s rl mo f t x m).2.1 A c rl ∧ Below w.heap.size w w' := by
  have hpm := splT_put (f := f) (t := t) (x := x) (m := m) mo hmo hg
  have HSP := Aside0.mk (fun (W : World) (hb : Below w.heap.size w W) => bureauref04_Splice.calls 100000 s A c rl f t x A2 c2 m (splT s rl f t x m).1 (splT s rl f t x m).2.1 (splT s rl f t x m).2.2 W (Kd.C_below hr hb) hc (Kd.C_below hr2 hb) hc2 (dSplice s rl f t x m hl hm 100000 (Nat.le_refl _)))
  have HX := Aside0.mk (PX.start w s (sv A rl c) mo x (sv A2 m c2))
  generalize splT s rl f t x m = z at *
  obtain ⟨sz, lz, ez⟩ := z
  dsimp only at hpm HSP
  clear hr hr2
  obtain ⟨⟨y0, y1, y2, y3, y4⟩, ⟨y5, y6, y7, y8, y9, y10⟩, yl, yl2⟩ := HX.out.cells
  by_cases h2 : ez = 2
  · subst h2
    rw [if_pos rfl] at hpm
    rw [hpm]
    clear hpm
    go_enter Try.func23, Try.ntmps23
    go_wp2_with (first | (go_at_call 45; (with_reducible refine (HSP.out _ HX.out.b).mono ?_); rintro e w2 ⟨v2, rfl, hr2, hb2⟩; obtain ⟨A2', c2', rfl⟩ := Kd.R_slice hr2; have HR2 := Aside0.mk (Kd.R_lower hr2 HX.out.b.size : RR w2 w.heap.size _ _); have HX := Aside0.mk (HX.out.below hb2); clear hr2 hb2; clear y0 y1 y2 y3 y4 y5 y6 y7 y8 y9 y10 yl yl2; obtain ⟨⟨y0, y1, y2, y3, y4⟩, ⟨y5, y6, y7, y8, y9, y10⟩, yl, yl2⟩ := HX.out.cells))
    have hx2 := blk_below (three_set (a' := .string s) (b' := sv A rl c) (c' := .int .i64 (mo : Int)) HX.out.p8) (below_alloc (Below.refl _ _) (.cells #[.string sz, sv A2' lz c2'] 24))
    have d0 := cell_of_row _ _ 0 _ _ _ hx2
    have d1 := cell_of_row _ _ 1 _ _ _ hx2
    have d2 := cell_of_row _ _ 2 _ _ _ hx2
    exact bodyPost_ret (v := .tuple #[.agg #[.string s, sv A rl c, .int .i64 (mo : Int)], .int .i64 2]) (by simp [results, Try.results23, go_sem, d0, d1, d2]) rfl ⟨A, c, rfl, Or.inl ⟨rfl, rfl, rfl⟩, below_alloc (three_below HX.out.b (by omega)) _⟩
  · rw [if_neg h2] at hpm
    by_cases h3 : ez ≠ 0 ∨ (sz.size : Int) > (mo : Int)
    · rw [if_pos h3] at hpm
      rw [hpm]
      have b2 : (ez == 2) = false := beq_eq_false_iff_ne.2 h2
      clear hpm h2
      by_cases h0 : ez = 0
      · subst h0
        have hgt : (mo : Int) < (sz.size : Int) := by rcases h3 with h | h; exact absurd rfl h; exact h
        clear h3 b2
        go_enter Try.func23, Try.ntmps23
        go_wp2_with (first | (go_at_call 45; (with_reducible refine (HSP.out _ HX.out.b).mono ?_); rintro e w2 ⟨v2, rfl, hr2, hb2⟩; obtain ⟨A2', c2', rfl⟩ := Kd.R_slice hr2; have HR2 := Aside0.mk (Kd.R_lower hr2 HX.out.b.size : RR w2 w.heap.size _ _); have HX := Aside0.mk (HX.out.below hb2); clear hr2 hb2; clear y0 y1 y2 y3 y4 y5 y6 y7 y8 y9 y10 yl yl2; obtain ⟨⟨y0, y1, y2, y3, y4⟩, ⟨y5, y6, y7, y8, y9, y10⟩, yl, yl2⟩ := HX.out.cells))
        have hx2 := blk_below (three_set (a' := .string s) (b' := sv A rl c) (c' := .int .i64 (mo : Int)) HX.out.p8) (below_alloc (Below.refl _ _) (.cells #[.string sz, sv A2' lz c2'] 24))
        have d0 := cell_of_row _ _ 0 _ _ _ hx2
        have d1 := cell_of_row _ _ 1 _ _ _ hx2
        have d2 := cell_of_row _ _ 2 _ _ _ hx2
        exact bodyPost_ret (v := .tuple #[.agg #[.string s, sv A rl c, .int .i64 (mo : Int)], .int .i64 4]) (by simp [results, Try.results23, go_sem, d0, d1, d2]) rfl ⟨A, c, rfl, Or.inl ⟨rfl, rfl, rfl⟩, below_alloc (three_below HX.out.b (by omega)) _⟩
      · have b0 : (ez != 0) = true := bne_iff_ne.2 h0
        clear h3 h0
        go_enter Try.func23, Try.ntmps23
        go_wp2_with (first | (go_at_call 45; (with_reducible refine (HSP.out _ HX.out.b).mono ?_); rintro e w2 ⟨v2, rfl, hr2, hb2⟩; obtain ⟨A2', c2', rfl⟩ := Kd.R_slice hr2; have HR2 := Aside0.mk (Kd.R_lower hr2 HX.out.b.size : RR w2 w.heap.size _ _); have HX := Aside0.mk (HX.out.below hb2); clear hr2 hb2; clear y0 y1 y2 y3 y4 y5 y6 y7 y8 y9 y10 yl yl2; obtain ⟨⟨y0, y1, y2, y3, y4⟩, ⟨y5, y6, y7, y8, y9, y10⟩, yl, yl2⟩ := HX.out.cells))
        have hx2 := blk_below (three_set (a' := .string s) (b' := sv A rl c) (c' := .int .i64 (mo : Int)) HX.out.p8) (below_alloc (Below.refl _ _) (.cells #[.string sz, sv A2' lz c2'] 24))
        have d0 := cell_of_row _ _ 0 _ _ _ hx2
        have d1 := cell_of_row _ _ 1 _ _ _ hx2
        have d2 := cell_of_row _ _ 2 _ _ _ hx2
        exact bodyPost_ret (v := .tuple #[.agg #[.string s, sv A rl c, .int .i64 (mo : Int)], .int .i64 4]) (by simp [results, Try.results23, go_sem, d0, d1, d2]) rfl ⟨A, c, rfl, Or.inl ⟨rfl, rfl, rfl⟩, below_alloc (three_below HX.out.b (by omega)) _⟩
    · rw [if_neg h3] at hpm
      rw [hpm]
      obtain rfl : ez = 0 := Classical.byContradiction fun h => h3 (Or.inl h)
      have hle : (sz.size : Int) ≤ (mo : Int) := Int.not_lt.1 (fun h => h3 (Or.inr h))
      clear hpm h3 h2
      go_enter Try.func23, Try.ntmps23
      go_wp2_with (first | (go_at_call 45; (with_reducible refine (HSP.out _ HX.out.b).mono ?_); rintro e w2 ⟨v2, rfl, hr2, hb2⟩; obtain ⟨A2', c2', rfl⟩ := Kd.R_slice hr2; have HR2 := Aside0.mk (Kd.R_lower hr2 HX.out.b.size : RR w2 w.heap.size _ _); have HX := Aside0.mk (HX.out.below hb2); clear hr2 hb2; clear y0 y1 y2 y3 y4 y5 y6 y7 y8 y9 y10 yl yl2; obtain ⟨⟨y0, y1, y2, y3, y4⟩, ⟨y5, y6, y7, y8, y9, y10⟩, yl, yl2⟩ := HX.out.cells))
      have hp4 := heap_setCell_same _ w.heap.size 1 _ _ (sv A2' lz c2') (heap_setCell_same _ w.heap.size 0 _ _ (.string sz) HX.out.p4)
      have hp8 : ((w2.setCell ⟨w.heap.size, 0, none⟩ (.string sz)).setCell ⟨w.heap.size, 1, none⟩ (sv A2' lz c2')).heap[w.heap.size + 1 + 1]? = some (.cells #[.string ⟨#[]⟩, .slice none 0 0, .int .i64 0] 57 (0, 0)) := by
        rw [heap_setCell_other _ _ _ _ (by simp; omega), heap_setCell_other _ _ _ _ (by simp; omega)]
        exact HX.out.p8
      have hx2 := blk_below (three_set (a' := .string sz) (b' := sv A2' lz c2') (c' := .int .i64 (mo : Int)) hp8) (below_alloc (Below.refl _ _) (.cells #[.string sz, sv A2' lz c2'] 24))
      have d0 := cell_of_row _ _ 0 _ _ _ hx2
      have d1 := cell_of_row _ _ 1 _ _ _ hx2
      have d2 := cell_of_row _ _ 2 _ _ _ hx2
      exact bodyPost_ret (v := .tuple #[.agg #[.string sz, sv A2' lz c2', .int .i64 (mo : Int)], .int .i64 0]) (by simp [results, Try.results23, go_sem, d0, d1, d2]) rfl ⟨A2', c2', rfl, Or.inr (Kd.R_below (three_R hp8 (Kd.R_set (Kd.R_set HR2.out HX.out.p4 (by decide) 0 _) (heap_setCell_same _ w.heap.size 0 _ _ (.string sz) HX.out.p4) (by decide) 1 _)) (below_alloc (Below.refl _ _) _)), below_alloc (three_below (two_set HX.out.b (Nat.le_refl _)) (by omega)) _⟩

end Go.Proofs.Ytgaggoglbkcomaa.Ext
