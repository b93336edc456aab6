/- Texts that are alike for a level, and registers to which such texts went, in plain Lean. The document's Other, by its walk. The law RegsHides, by its walk. -/
import Derived.Test.YtbcbfmhcoemnpaaExt09HK
import Derived.Test.YtbcbfmhcoemnpaaXRRx2
import Derived.Test.YtbcbfmhcoemnpaaXRRx3
import Derived.Test.YtbcbfmhcoemnpaaXRRx4
import Derived.Test.YtbcbfmhcoemnpaaXRRx5
import Derived.Test.YtbcbfmhcoemnpaaXRRx0
import Derived.Test.YtbcbfmhcoemnpaaWMore
import Derived.WalkKit
import Derived.WalkMore
import Derived.Below
import Derived.KernelRfl
import Derived.LoopTactic
import Derived.Deep.RegionWith
import Derived.Deep.RegionHeld3
import Derived.IntWalk
import Derived.Deep.DeepCutAuto
import Derived.Deep.CutBlock
import Derived.BigQuiet
import Derived.Laws.RangeString
import Derived.Laws.RangeAny
import Derived.Laws.Rows
import Derived.Laws.Runes
import Derived.Lib.OthersKept
import Derived.OpenShut
import Derived.Test.YtbcbfmhcoemnpaaXRHx0
set_option linter.unusedVariables false
set_option linter.unusedSimpArgs false
namespace Go.Proofs.Ytbcbfmhcoemnpaa.Ext
open Go.RowKit Go.Lib Go.Proofs.YtbcbfmhcoemnpaaW.PrintWords Go.Proofs.YtbcbfmhcoemnpaaW.PrintMore Go.Proofs.Ytbcbfmhcoemnpaa.XRR

/-- s and s' are alike where the labels are below L. -/
structure AL (P : List Int) (L : Int) (s s' : ByteArray) : Prop where
  n : s.size = s'.size
  b : ∀ i : Nat, i < P.length → Ref01.sub (rd P (i : Int)) L = true → bt s (i : Int) = bt s' (i : Int)
def UB (P : List Int) : Prop := ∀ b, b ∈ P → 0 ≤ b ∧ b ≤ 18446744073709551615
theorem AL.refl (P : List Int) (L : Int) (s : ByteArray) : AL P L s s := ⟨rfl, fun _ _ _ => rfl⟩
theorem UB.nil : UB [] := fun b h => by cases h
theorem UB.append {P Q : List Int} (h : UB P) (k : UB Q) : UB (P ++ Q) := fun b hb => (List.mem_append.1 hb).elim (h b) (k b)
theorem UB.rd {P : List Int} (h : UB P) (i : Nat) (hi : i < P.length) : 0 ≤ rd P (i : Int) ∧ rd P (i : Int) ≤ 18446744073709551615 := by
  unfold Go.Proofs.YtbcbfmhcoemnpaaW.PrintWords.rd
  rw [Int.toNat_natCast, List.getD_eq_getElem?_getD, List.getElem?_eq_getElem hi]
  exact h _ (List.getElem_mem _)
theorem rd_left (P Q : List Int) (i : Nat) (h : i < P.length) : rd (P ++ Q) (i : Int) = rd P (i : Int) := by
  unfold Go.Proofs.YtbcbfmhcoemnpaaW.PrintWords.rd
  rw [Int.toNat_natCast, List.getD_eq_getElem?_getD, List.getD_eq_getElem?_getD, List.getElem?_append_left h]
theorem rd_right (P Q : List Int) (i : Nat) : rd (P ++ Q) ((P.length + i : Nat) : Int) = rd Q (i : Int) := by
  unfold Go.Proofs.YtbcbfmhcoemnpaaW.PrintWords.rd
  rw [Int.toNat_natCast, Int.toNat_natCast, List.getD_eq_getElem?_getD, List.getD_eq_getElem?_getD, List.getElem?_append_right (by omega), show P.length + i - P.length = i by omega]
theorem bt_left (s x : ByteArray) (i : Nat) (h : i < s.size) : bt (s ++ x) (i : Int) = bt s (i : Int) := by
  unfold Go.Proofs.YtbcbfmhcoemnpaaW.PrintWords.bt
  rw [Int.toNat_natCast, dif_pos h, dif_pos (by rw [ByteArray.size_append]; omega)]
  rw [ByteArray.getElem_append_left h]
theorem bt_right (s x : ByteArray) (i : Nat) (h : i < x.size) : bt (s ++ x) ((s.size + i : Nat) : Int) = bt x (i : Int) := by
  unfold Go.Proofs.YtbcbfmhcoemnpaaW.PrintWords.bt
  rw [Int.toNat_natCast, Int.toNat_natCast, dif_pos h, dif_pos (by rw [ByteArray.size_append]; omega)]
  rw [ByteArray.getElem_append_right (by omega)]
  simp
theorem AL.cat {P Q : List Int} {L : Int} {s s' x x' : ByteArray} (h : AL P L s s') (k : AL Q L x x') (hP : P.length = s.size) (hQ : Q.length = x.size) : AL (P ++ Q) L (s ++ x) (s' ++ x') := by
  refine ⟨by rw [ByteArray.size_append, ByteArray.size_append, h.n, k.n], fun i hi hs => ?_⟩
  rw [List.length_append] at hi
  by_cases c : i < P.length
  · rw [rd_left P Q i c] at hs
    rw [bt_left s x i (by omega), bt_left s' x' i (by have := h.n; omega)]
    exact h.b i c hs
  · obtain ⟨j, rfl⟩ : ∃ j, i = P.length + j := ⟨i - P.length, by omega⟩
    rw [rd_right] at hs
    have e := k.b j (by omega) hs
    rw [show ((P.length + j : Nat) : Int) = ((s.size + j : Nat) : Int) by omega, bt_right s x j (by omega), show ((s.size + j : Nat) : Int) = ((s'.size + j : Nat) : Int) by have := h.n; omega, bt_right s' x' j (by have := k.n; omega)]
    exact e
/-- Registers that are alike. -/
structure alH (L : Int) (h h' : Hs) : Prop where
  i : h.is = h'.is
  l : h.l = h'.l
  b : h.b = h'.b
  a : AL (bytesR h.l) L h.s h'.s
  u : UB (bytesR h.l)
structure ALG (L : Int) (g g' : List Hs) : Prop where
  n : g.length = g'.length
  a : ∀ i, alH L (gd g i) (gd g' i)
theorem alH.z (L : Int) : alH L hz hz := ⟨rfl, rfl, rfl, AL.refl _ _ _, UB.nil⟩
theorem ALG.new (L : Int) : ALG L (List.replicate 38 hz) (List.replicate 38 hz) := ⟨rfl, fun i => by
  have e : gd (List.replicate 38 hz) i = hz := by
    unfold gd
    rw [List.getD_eq_getElem?_getD, List.getElem?_replicate]
    split <;> rfl
  rw [e]
  exact alH.z L⟩
theorem ALG.set {L : Int} {g g' : List Hs} (h : ALG L g g') (k : Nat) {x x' : Hs} (hx : alH L x x') : ALG L (g.set k x) (g'.set k x') := ⟨by rw [List.length_set, List.length_set]; exact h.n, fun i => by
  rw [gd_set, gd_set, ← h.n]
  split
  · exact hx
  · exact h.a i⟩
structure alE (L : Int) (x x' : En) : Prop where
  l : x.l = x'.l
  b : x.b = x'.b
  a : AL (bytesR x.l) L x.s x'.s
  u : UB (bytesR x.l)
theorem alE.hv {L : Int} {x x' : En} (h : alE L x x') : alH L (hv x) (hv x') := ⟨rfl, h.l, h.b, h.a, h.u⟩
theorem ALG.put {L : Int} {x x' : En} (hx : alE L x x') : ∀ (ks : List Nat) {g g' : List Hs}, ALG L g g' → ALG L (putM g x ks) (putM g' x' ks)
  | [], _, _, h => h
  | k :: ks, _, _, h => ALG.put hx ks (h.set k hx.hv)
theorem good_al {P : List Int} {L : Int} {s s' : ByteArray} {l : List Rn} (h : AL P L s s') : goodT s' l = goodT s l := by
  unfold goodT
  rw [h.n]
theorem cat_al {L : Int} {s s' x x' : ByteArray} {l m : List Rn} (hs : goodT s l = true) (hx : goodT x m = true) (h : AL (bytesR l) L s s') (hu : UB (bytesR l)) (k : AL (bytesR m) L x x') (ku : UB (bytesR m)) :
    (catT s l x m).2.2 = (catT s' l x' m).2.2 ∧ (catT s l x m).2.1 = (catT s' l x' m).2.1 ∧ AL (bytesR (catT s l x m).2.1) L (catT s l x m).1 (catT s' l x' m).1 ∧ UB (bytesR (catT s l x m).2.1) := by
  have hs' : goodT s' l = true := (good_al h).trans hs
  have hx' : goodT x' m = true := (good_al k).trans hx
  rw [cat_val hs hx, cat_val hs' hx', ← h.n, ← k.n]
  by_cases c : (s.size : Int) + x.size > 4096
  · rw [if_pos c, if_pos c]
    exact ⟨rfl, rfl, AL.refl _ _ _, UB.nil⟩
  · rw [if_neg c, if_neg c]
    obtain ⟨hgl, hnl⟩ := goodT_good hs
    obtain ⟨hgm, hnm⟩ := goodT_good hx
    obtain ⟨-, hb⟩ := spl_end hgl hgm s.size (by omega)
    dsimp only
    rw [hb]
    exact ⟨rfl, rfl, h.cat k hnl hnm, hu.append ku⟩
theorem letM_al {L : Int} {g g' : List Hs} {x x' : En} (hg : ALG L g g') (hG : GG g) (hx : alE L x x') (n : Int) : ALG L (letM g n x).1 (letM g' n x').1 ∧ (letM g n x).2 = (letM g' n x').2 := by
  have eg : goodT x'.s x'.l = goodT x.s x.l := by rw [← hx.l]; exact good_al hx.a
  unfold letM
  rw [eg]
  by_cases c1 : (pIs n = false ∧ n ≠ 0 ∧ n ≠ 34 ∧ n ≠ 95) ∨ goodT x.s x.l = false
  · rw [if_pos c1, if_pos c1]; exact ⟨hg, rfl⟩
  · rw [if_neg c1, if_neg c1]
    have hgx : goodT x.s x.l = true := by
      cases e : goodT x.s x.l
      · exact absurd (.inr e) c1
      · rfl
    by_cases c2 : pIs n = false
    · rw [if_pos c2, if_pos c2]; exact ⟨hg, rfl⟩
    · rw [if_neg c2, if_neg c2]
      have ha := hg.a (pAt n)
      rw [← ha.i]
      by_cases c3 : pAd n = true ∧ (gd g (pAt n)).is = true
      · rw [if_pos c3, if_pos c3, ← ha.l, ← ha.b, ← hx.l, ← hx.b]
        obtain ⟨k1, k2, k3, k4⟩ := cat_al (hG.good _ c3.2) hgx ha.a ha.u hx.a hx.u
        rw [← k1]
        by_cases c4 : (catT (gd g (pAt n)).s (gd g (pAt n)).l x.s x.l).2.2 ≠ 0
        · rw [if_pos c4, if_pos c4]; exact ⟨hg, rfl⟩
        · rw [if_neg c4, if_neg c4]
          refine ⟨ALG.put ?_ _ hg, rfl⟩
          exact ⟨k2, rfl, k3, k4⟩
      · rw [if_neg c3, if_neg c3]
        exact ⟨ALG.put hx _ hg, rfl⟩
theorem shM_al {L : Int} {g g' : List Hs} (h : ALG L g g') : ∀ m, ALG L (shM g m) (shM g' m)
  | 0 => h
  | m + 1 => (shM_al h m).set _ ((shM_al h m).a _)
theorem doM_al {L : Int} {g g' : List Hs} {x x' : En} (hg : ALG L g g') (hG : GG g) (hx : alE L x x') (n : Int) (cut wide : Bool) : ALG L (doM g n x cut wide).1 (doM g' n x' cut wide).1 ∧ (doM g n x cut wide).2 = (doM g' n x' cut wide).2 := by
  obtain ⟨h1, h2⟩ := letM_al hg hG hx n
  unfold doM
  cases cut
  · rw [if_neg (by decide), if_neg (by decide)]
    unfold yankM
    rw [← h2]
    split
    · exact ⟨h1, rfl⟩
    · exact ⟨ALG.put hx _ h1, rfl⟩
  · rw [if_pos rfl, if_pos rfl]
    unfold delM
    rw [← h2, ← hx.b]
    split
    · exact ⟨h1, rfl⟩
    · split
      · exact ⟨ALG.put hx _ h1, rfl⟩
      · exact ⟨ALG.put hx _ (shM_al h1 8), rfl⟩
theorem getM_al {L : Int} {g g' : List Hs} (h : ALG L g g') (k : Int) : (getM g k).2 = (getM g' k).2 ∧ alE L (getM g k).1 (getM g' k).1 := by
  unfold getM
  cases getI k with
  | none => exact ⟨rfl, rfl, rfl, AL.refl _ _ _, UB.nil⟩
  | some i =>
    have ha := h.a i
    dsimp only
    rw [← ha.i]
    split
    · exact ⟨rfl, ha.l, ha.b, ha.a, ha.u⟩
    · exact ⟨rfl, rfl, rfl, AL.refl _ _ _, UB.nil⟩
theorem getM_good {g : List Hs} (h : GG g) (k : Int) : goodT (getM g k).1.s (getM g k).1.l = true := by
  unfold getM
  cases getI k with
  | none => rfl
  | some i =>
    dsimp only
    split
    · rename_i c; exact h.good i c
    · rfl
/-! The document's View and Low. -/
theorem view_l (P : List Int) (L : Int) (hL : 0 ≤ L ∧ L ≤ 18446744073709551615) (hu : UB P) (s s' : ByteArray) (l l' : List Rn) (ha : AL P L s s') (hP : P.length ≤ s.size) (h5 : P.length ≤ 100000) : ∀ (c j : Nat), j + c = P.length → ∀ (out : List Int) (k : Nat), out.length = j → c + 1 ≤ k →
    ∃ v, bureauref04_View.l0 k L P out (j : Int) s l = some (v, 0) ∧ bureauref04_View.l0 k L P out (j : Int) s' l' = some (v, 0)
  | 0, j, hj, out, k + 1, ho, hk => by
    unfold bureauref04_View.l0
    rw [if_neg (by omega), if_neg (by omega)]
    exact ⟨_, rfl, rfl⟩
  | c + 1, j, hj, out, k + 1, ho, hk => by
    have hjl : j < P.length := by omega
    have hb := hu.rd j hjl
    have hw : wrap64 ((j : Int) + 1) = ((j + 1 : Nat) : Int) := by rw [IntWalk.wrap64_in _ ⟨by omega, by omega⟩]; omega
    have hbf : bureauref01_Below.f (rd P (j : Int)) L = some (Ref01.sub (rd P (j : Int)) L) := if_pos ⟨hb.1, hb.2, hL.1, hL.2⟩
    have hn := ha.n
    unfold bureauref04_View.l0
    have c1 : (j : Int) < (P.length : Int) := by omega
    have c2 : (0 : Int) ≤ (j : Int) := by omega
    have c3 : out.length < 140737488355328 := by omega
    have c4 : (j : Int) < (s.size : Int) := by omega
    have c5 : (j : Int) < (s'.size : Int) := by omega
    cases hsub : Ref01.sub (rd P (j : Int)) L
    · simp only [c1, c2, c3, if_true, hbf, hsub, Option.bind_some, Bool.false_eq_true, if_false, hw]
      exact view_l P L hL hu s s' l l' ha hP h5 c (j + 1) (by omega) (out ++ [35]) k (by rw [List.length_append, List.length_singleton, ho]) (by omega)
    · simp only [c1, c2, c3, c4, c5, if_true, hbf, hsub, Option.bind_some, hw, ha.b j hjl hsub]
      exact view_l P L hL hu s s' l l' ha hP h5 c (j + 1) (by omega) (out ++ [bt s' (j : Int)]) k (by rw [List.length_append, List.length_singleton, ho]) (by omega)
theorem low_al {L : Int} (hL : 0 ≤ L ∧ L ≤ 18446744073709551615) {s s' : ByteArray} {l : List Rn} (hg : goodT s l = true) (ha : AL (bytesR l) L s s') (hu : UB (bytesR l)) : bureauref04_Low.f 20000 s l s' l L = some true := by
  have hg' : goodT s' l = true := (good_al ha).trans hg
  have hl := good_len hg
  obtain ⟨hgl, hnl⟩ := goodT_good hg
  have h4 := good_n hgl
  have h5 : ∀ r, r ∈ l → r.f1 ≤ 5000 := fun r hr => by have := val_nB r hr; omega
  have hbl : (bytesR l).length = nB l := rfl
  obtain ⟨v, e1, e2⟩ := view_l (bytesR l) L hL hu s s' l l ha (by omega) (by omega) (bytesR l).length 0 (by omega) [] 20000 rfl (by omega)
  have f1 : bureauref04_View.f 20000 s l L = some (v, 0) := by
    unfold bureauref04_View.f
    rw [dGood4 s l (by omega) 20000 (by omega), Option.bind_some, if_pos hg, dBytes l (by omega) h5 (by omega) 20000 (by omega), Option.bind_some]
    exact e1
  have f2 : bureauref04_View.f 20000 s' l L = some (v, 0) := by
    unfold bureauref04_View.f
    rw [dGood4 s' l (by omega) 20000 (by omega), Option.bind_some, if_pos hg', dBytes l (by omega) h5 (by omega) 20000 (by omega), Option.bind_some]
    exact e2
  unfold bureauref04_Low.f
  rw [f1, f2, Option.bind_some, Option.bind_some]
  simp only [if_true]
  rw [dSame l l (by omega) 20000 (by omega), Option.bind_some, decide_eq_true rfl, if_pos rfl]
  simp

end Go.Proofs.Ytbcbfmhcoemnpaa.Ext

set_option linter.unusedVariables false
set_option linter.unusedSimpArgs false
namespace Go.Proofs.Ytbcbfmhcoemnpaa.Ext
open Go.RowKit Go.Lib Go.Proofs.YtbcbfmhcoemnpaaW.PrintWords Go.Proofs.YtbcbfmhcoemnpaaW.PrintMore Go.Proofs.Ytbcbfmhcoemnpaa.XRR

/-- Where the walk of Other stands: the text in its box, the answer's box. -/
structure OS (w W : World) (s : ByteArray) (v : Value) : Prop where
  bl : Below w.heap.size w W
  t : BX W w.heap.size s v
  r : BX W (w.heap.size + 1) ⟨#[]⟩ (.slice none 0 0)
theorem OS.below {w W W' : World} {s : ByteArray} {v : Value} (h : OS w W s v) (hb : Below W.heap.size W W') : OS w W' s v := ⟨below_step h.bl hb, h.t.below hb, h.r.below hb⟩
theorem OS.start (w : World) (s : ByteArray) (v : Value) : OS w (W2 w s ⟨#[]⟩ v (.slice none 0 0)) s v := (fun h => ⟨h.1, h.2.1, h.2.2⟩) (W2_facts w s ⟨#[]⟩ v (.slice none 0 0))
abbrev OQ (w : World) (s : ByteArray) (A : Option Addr) (c : Nat) (m : List Rn) (P : List Int) (L : Int) (e : Ending) (w' : World) : Prop := ∃ s', e = .returned (vT s' (.slice A m.length c)) ∧ AL P L s s' ∧ Below w.heap.size w w'
theorem osr_set {w W : World} {s : ByteArray} {v : Value} (h : OS w W s v) (x y : Value) : Below w.heap.size w ((W.setCell ⟨w.heap.size + 1, 0, none⟩ x).setCell ⟨w.heap.size + 1, 1, none⟩ y) := two_set h.bl (by omega)
set_option maxRecDepth 100000 in
set_option maxHeartbeats 8000000 in
theorem Other_0 (w : World) (s o : ByteArray) (A : Option Addr) (c : Nat) (m : List Rn) (L : Int) (hr : Kd.C k58 w A m.length m) (hc : m.length ≤ c) (hm : m.length ≤ 9223372036854775807) (hg : goodT s m = false) :
    Calls Try.prog 14 #[vT s (.slice A m.length c), .int .u64 L, .string o] w (OQ w s A c m (bytesR m) L) := by
  have HGO := Aside0.mk (fun (w1 : World) (hb : Below w.heap.size w w1) => bureauref04_Good.calls (2 * m.length + 5000) s A c m _ w1 (Kd.C_below hr hb) hc (dGood4 s m hm _ (Nat.le_refl _)))
  have HS := Aside0.mk (OS.start w s (.slice A m.length c))
  obtain ⟨a0, a1, -, -⟩ := HS.out.t.cells
  obtain ⟨c0, c1, f0, f1⟩ := HS.out.r.cells
  have l0 := HS.out.t.lt
  have l1 := HS.out.r.lt
  rw [hg] at HGO
  clear hr hg
  go_enter Try.func14, Try.ntmps14
  go_wp2_with (first | (go_at_call 11; (with_reducible refine (HGO.out _ HS.out.bl).mono ?_); rintro e w3 ⟨rfl, hb3⟩; have HS := Aside0.mk (HS.out.below hb3); clear hb3; clear a0 a1 c0 c1 f0 f1 l0 l1; obtain ⟨a0, a1, -, -⟩ := HS.out.t.cells; obtain ⟨c0, c1, f0, f1⟩ := HS.out.r.cells; have l0 := HS.out.t.lt; have l1 := HS.out.r.lt))
  exact bodyPost_ret (v := vT s (.slice A m.length c)) (by simp [results, Try.results14, go_sem, c0, c1, l1]) rfl ⟨s, rfl, AL.refl _ _ _, osr_set HS.out _ _⟩
set_option maxRecDepth 100000 in
set_option maxHeartbeats 8000000 in
theorem Other_1 (w : World) (s o : ByteArray) (A : Option Addr) (c : Nat) (m : List Rn) (L : Int) (hr : Kd.C k58 w A m.length m) (hc : m.length ≤ c) (hm : m.length ≤ 9223372036854775807) (hg : goodT s m = true) (ho : o.size = 0) :
    Calls Try.prog 14 #[vT s (.slice A m.length c), .int .u64 L, .string o] w (OQ w s A c m (bytesR m) L) := by
  have HGO := Aside0.mk (fun (w1 : World) (hb : Below w.heap.size w w1) => bureauref04_Good.calls (2 * m.length + 5000) s A c m _ w1 (Kd.C_below hr hb) hc (dGood4 s m hm _ (Nat.le_refl _)))
  have HS := Aside0.mk (OS.start w s (.slice A m.length c))
  obtain ⟨a0, a1, -, -⟩ := HS.out.t.cells
  obtain ⟨c0, c1, f0, f1⟩ := HS.out.r.cells
  have l0 := HS.out.t.lt
  have l1 := HS.out.r.lt
  rw [hg] at HGO
  clear hr hg
  go_enter Try.func14, Try.ntmps14
  go_wp2_with (first | (go_at_call 11; (with_reducible refine (HGO.out _ HS.out.bl).mono ?_); rintro e w3 ⟨rfl, hb3⟩; have HS := Aside0.mk (HS.out.below hb3); clear hb3; clear a0 a1 c0 c1 f0 f1 l0 l1; obtain ⟨a0, a1, -, -⟩ := HS.out.t.cells; obtain ⟨c0, c1, f0, f1⟩ := HS.out.r.cells; have l0 := HS.out.t.lt; have l1 := HS.out.r.lt))
  exact bodyPost_ret (v := vT s (.slice A m.length c)) (by simp [results, Try.results14, go_sem, c0, c1, l1]) rfl ⟨s, rfl, AL.refl _ _ _, osr_set HS.out _ _⟩
theorem bt_nums (xs : List Int) (h : ∀ x, x ∈ xs → 0 ≤ x ∧ x ≤ 255) (i : Nat) (hi : i < xs.length) : bt (strOfNums xs) (i : Int) = rd xs (i : Int) := by
  have hs : (strOfNums xs).size = xs.length := by
    unfold strOfNums
    show (xs.map _).toArray.size = _
    simp
  unfold Go.Proofs.YtbcbfmhcoemnpaaW.PrintWords.bt Go.Proofs.YtbcbfmhcoemnpaaW.PrintWords.rd
  rw [Int.toNat_natCast, dif_pos (by rw [hs]; exact hi), List.getD_eq_getElem?_getD, List.getElem?_eq_getElem hi]
  have hx := h _ (List.getElem_mem hi)
  have e : (strOfNums xs)[i]'(by rw [hs]; exact hi) = UInt8.ofNat (xs[i]).toNat := by
    unfold strOfNums
    show (xs.map _).toArray[i]'_ = _
    simp
  rw [e]
  show ((UInt8.ofNat (xs[i]).toNat).toNat : Int) = xs[i]
  rw [UInt8.toNat_ofNat']
  omega
theorem nums_size (xs : List Int) : (strOfNums xs).size = xs.length := by
  unfold strOfNums
  show (xs.map _).toArray.size = _
  simp
/-- The bytes so far. -/
structure OB (P : List Int) (L : Int) (s : ByteArray) (out : List Int) (x : Int) : Prop where
  n : (out.length : Int) = x
  b : ∀ i : Nat, i < out.length → Ref01.sub (rd P (i : Int)) L = true → rd out (i : Int) = bt s (i : Int)
  r : ∀ y, y ∈ out → 0 ≤ y ∧ y ≤ 255
theorem rd_last (out : List Int) (y : Int) : rd (out ++ [y]) (out.length : Int) = y := by
  have := rd_right out [y] 0
  rw [Nat.add_zero] at this
  rw [this]
  rfl
theorem OB.step {P : List Int} {L : Int} {s : ByteArray} {out : List Int} {x y : Int} (h : OB P L s out x) (hy : 0 ≤ y ∧ y ≤ 255) (hv : Ref01.sub (rd P x) L = true → y = bt s x) : OB P L s (out ++ [y]) (x + 1) := by
  refine ⟨by rw [List.length_append, List.length_singleton, Int.natCast_add, h.n]; rfl, fun i hi hs => ?_, fun z hz => ?_⟩
  · rw [List.length_append, List.length_singleton] at hi
    by_cases c : i < out.length
    · rw [rd_left _ _ _ c]; exact h.b i c hs
    · have e : i = out.length := by omega
      subst e
      rw [rd_last]
      have hn := h.n
      rw [hn] at hs ⊢
      exact hv hs
  · rcases List.mem_append.1 hz with k | k
    · exact h.r z k
    · rw [List.mem_singleton.1 k]; exact hy
theorem OB.al {P : List Int} {L : Int} {s : ByteArray} {out : List Int} {x : Int} (h : OB P L s out x) (hx : x = P.length) (hP : P.length = s.size) : AL P L s (strOfNums out) := by
  have hn := h.n
  refine ⟨by rw [nums_size]; omega, fun i hi hs => ?_⟩
  rw [bt_nums out h.r i (by omega)]
  exact (h.b i (by omega) hs).symm
theorem OS.app {w W w1 : World} {s : ByteArray} {v u : Value} {base : Nat} {ok : Nat → Prop} {ys : List Int} (h : OS w W s v) (hv : Kd.R (Kd.int .u8) 5 W base ok u ys) (hg : W.grownBy w1 u.ownBlock) (hb : Below w.heap.size w w1) : OS w w1 s v := by
  have ht : ∀ k, u.ownBlock = some k → ∃ cells, W.heap[k]? = some (.cells cells 5 (0, 0)) := fun k hk => by
    obtain ⟨-, -, -, q, hq, cells, hc⟩ := (Kd.R_bound hv).1 k hk
    rcases List.mem_cons.1 hq with e | e
    · subst e; exact ⟨cells, hc⟩
    · exact (List.not_mem_nil e).elim
  refine ⟨hb, ⟨blk_grown h.t.x hg (fun e => ?_)⟩, ⟨blk_grown h.r.x hg (fun e => ?_)⟩⟩
  · obtain ⟨cells, hc⟩ := ht _ e.symm
    rw [h.t.x] at hc
    cases hc
  · obtain ⟨cells, hc⟩ := ht _ e.symm
    rw [h.r.x] at hc
    cases hc
set_option maxRecDepth 100000 in
set_option maxHeartbeats 8000000 in
theorem Other_2 (w : World) (s o : ByteArray) (A : Option Addr) (c : Nat) (m : List Rn) (L : Int) (hr : Kd.C k58 w A m.length m) (hc : m.length ≤ c) (hm : m.length ≤ 9223372036854775807) (hg : goodT s m = true) (ho : o.size ≠ 0) (ho2 : o.size ≤ 5000) (hL : 0 ≤ L ∧ L ≤ 18446744073709551615) (hu : UB (bytesR m)) (P : List Int) (hPm : bytesR m = P) :
    Calls Try.prog 14 #[vT s (.slice A m.length c), .int .u64 L, .string o] w (OQ w s A c m P L) := by
  have HGO := Aside0.mk (fun (w1 : World) (hb : Below w.heap.size w w1) => bureauref04_Good.calls (2 * m.length + 5000) s A c m _ w1 (Kd.C_below hr hb) hc (dGood4 s m hm _ (Nat.le_refl _)))
  have HS := Aside0.mk (OS.start w s (.slice A m.length c))
  obtain ⟨a0, a1, -, -⟩ := HS.out.t.cells
  obtain ⟨c0, c1, f0, f1⟩ := HS.out.r.cells
  have l0 := HS.out.t.lt
  have l1 := HS.out.r.lt
  rw [hg] at HGO
  have hlm := good_len hg
  obtain ⟨hgl, hnl⟩ := goodT_good hg
  have hn4 := good_n hgl
  have hbl : (bytesR m).length = nB m := rfl
  have HBY := Aside0.mk (fun (w1 : World) (hb : Below w.heap.size w w1) => bureauref03_Bytes.calls 20000 A c m _ w1 (Kd.C_below hr hb) hc (dBytes m hm (fun r hr => by have := val_nB r hr; omega) (by omega) 20000 (by omega)))
  have hP : (bytesR m).length = s.size := by omega
  have hP4 : (bytesR m).length ≤ 4096 := by omega
  rw [hPm] at hP hP4 HBY hu
  clear hPm
  clear hr hg hgl hnl hn4 hbl hlm
  have ho' : ((o.size : Int) == 0) = false := beq_eq_false_iff_ne.2 (by omega)
  go_enter Try.func14, Try.ntmps14
  have HP := Aside0.mk (⟨hP, hP4, hu⟩ : _ ∧ _ ∧ _)
  clear hP hP4 hu
  go_wp2_with (first | (go_at_call 11; (with_reducible refine (HGO.out _ HS.out.bl).mono ?_); rintro e w3 ⟨rfl, hb3⟩; have HS := Aside0.mk (HS.out.below hb3); clear hb3; clear a0 a1 c0 c1 f0 f1 l0 l1; obtain ⟨a0, a1, -, -⟩ := HS.out.t.cells; obtain ⟨c0, c1, f0, f1⟩ := HS.out.r.cells; have l0 := HS.out.t.lt; have l1 := HS.out.r.lt) | (go_at_call 29; (with_reducible refine (HBY.out _ HS.out.bl).mono ?_); rintro e w4 ⟨v4, rfl, hr4, hb4⟩; obtain ⟨A4, c4, e4⟩ := Kd.R_slice hr4; subst e4; have HR4 := Aside0.mk (Kd.R_lower hr4 HS.out.bl.size); have HS := Aside0.mk (HS.out.below hb4); clear hr4 hb4; clear a0 a1 c0 c1 f0 f1 l0 l1; obtain ⟨a0, a1, -, -⟩ := HS.out.t.cells; obtain ⟨c0, c1, f0, f1⟩ := HS.out.r.cells; have l0 := HS.out.t.lt; have l1 := HS.out.r.lt))
  go_loopw [8, 9] (fun ov ii wr => ∃ (x : Int) (out : List Int) (v8 : Value), v8 = ov ∧ ii = .int .i64 x ∧ 0 ≤ x ∧ x ≤ (P.length : Int) ∧ Aside0 (OB P L s out x) ∧ Aside0 (OS w wr s (.slice A m.length c)) ∧ Aside0 (Kd.R (Kd.int .u64) 40 wr w.heap.size (fun _ => True) (.slice A4 P.length c4) P) ∧ Aside0 (Kd.R (Kd.int .u8) 5 wr w.heap.size (fun _ => True) v8 out)) (fun _ ii _ => P.length - (intOf ii).toNat)
  case atStart => exact ⟨0, [], _, rfl, rfl, by decide, by omega, ⟨⟨rfl, fun i hi => absurd hi (by simp), fun y hy => by cases hy⟩⟩, HS, HR4, ⟨Kd.R_nil _ _ _ _ _⟩⟩
  case round =>
    obtain ⟨x, out, v8, rfl, rfl, hx0, hxP, HO, HS, HR7, HR8⟩ := hrel
    have hPs := HP.out.1
    have HOL : Aside0 (out.length ≤ 4096) := ⟨by have := HO.out.n; have := HP.out.2.1; omega⟩
    clear a0 a1 c0 c1 f0 f1 l0 l1; obtain ⟨a0, a1, -, -⟩ := HS.out.t.cells; obtain ⟨c0, c1, f0, f1⟩ := HS.out.r.cells; have l0 := HS.out.t.lt; have l1 := HS.out.r.lt
    by_cases hlt : x < (P.length : Int)
    · obtain ⟨ad, ca, e7, -, hC7⟩ := Kd.R_reads HR7.out
      obtain ⟨ad2, cs, eA, hl2, hK, hcell⟩ := Kd.C_get hC7 0 x hx0 (by omega)
      injection e7 with e7 _ e72
      subst e7
      subst e72
      subst eA
      have hcs : cs = [.int .u64 (rd P x)] := hK
      subst hcs
      have hcb : wr.cell? (ad2.add x.toNat) = some (.int .u64 (rd P x)) := by
        have h := hcell 0 _ rfl
        rwa [show x.toNat * (Kd.int .u64).sz + 0 = x.toNat from Nat.mul_one _] at h
      obtain ⟨xn, hxn⟩ : ∃ xn : Nat, x = (xn : Int) := ⟨x.toNat, by omega⟩
      have hub := HP.out.2.2.rd xn (by omega)
      rw [← hxn] at hub
      have HBE := Aside0.mk (fun (w1 : World) => Ref01.Below_calls (rd P x) L w1 hub.1 hub.2 hL.1 hL.2)
      have hxs : x < (s.size : Int) := by omega
      have hw1 : wrap64 (x + 1) = x + 1 := IntWalk.wrap64_in _ ⟨by omega, by have := HP.out.2.1; omega⟩
      have hbx := bt_at s x
      clear hC7 hcell hK hl2 hub hxn hPs
      cases hsub : Ref01.sub (rd P x) L
      · rw [hsub] at HBE
        have HSB := Aside0.mk hsub
        clear hsub
        have hne : ¬ ((o.size : Int) = 0) := by omega
        have hm0 : 0 ≤ x % (o.size : Int) := Int.emod_nonneg _ hne
        have hm1 : x % (o.size : Int) < (o.size : Int) := Int.emod_lt_of_pos _ (by omega)
        have hbo := bt_at o (x % (o.size : Int))
        go_wp2_with (first | (go_at_call 30; (with_reducible refine (HBE.out _).mono ?_); rintro e w5 ⟨rfl, hb5⟩; have HS := Aside0.mk (HS.out.below hb5); have HR7 := Aside0.mk (Kd.R_below HR7.out hb5); have HR8 := Aside0.mk (Kd.R_below HR8.out hb5); clear hb5 hcb; clear a0 a1 c0 c1 f0 f1 l0 l1; obtain ⟨a0, a1, -, -⟩ := HS.out.t.cells; obtain ⟨c0, c1, f0, f1⟩ := HS.out.r.cells; have l0 := HS.out.t.lt; have l1 := HS.out.r.lt) | ((with_reducible refine gate_builtin (b := .append) (xs := #[.tmp 41, .tmp 48]) rfl ?_); at_builtin; refine Kd.R_append (Kd.int .u8) (w0 := w) w.heap.size rfl (.tmp 41) (.tmp 48) 71 5 (.int .u8 0) 1 rfl Try.underlying71 (by kernel_rfl) rfl (by decide) (by omega) v8 out (bt o (x % (o.size : Int))) [.int .u8 (bt o (x % (o.size : Int)))] (fun _ => True) (fun _ => False) rfl ?aX ?aP (fun _ hk => hk.elim) ?aF ?aO ?aB ?aS ?aL ?_; (case aX => simp [Act.eval]); (case aP => exact rfl); (case aB => exact HS.out.bl); (case aF => exact fun _ _ => trivial); (case aO => exact HR8.out); (case aS => exact HS.out.bl.size); (case aL => have := HOL.out; omega); intro v1 w7 ho hb hg hat; have HR7 := Aside0.mk (Kd.R_over HR7.out HR8.out (by decide) hg); have HS := Aside0.mk (HS.out.app HR8.out hg hb); have HR8 := Aside0.mk ho; clear ho hb hg hat; clear a0 a1 c0 c1 f0 f1 l0 l1; obtain ⟨a0, a1, -, -⟩ := HS.out.t.cells; obtain ⟨c0, c1, f0, f1⟩ := HS.out.r.cells; have l0 := HS.out.t.lt; have l1 := HS.out.r.lt))
        exact ⟨⟨x + 1, _, _, rfl, congrArg (Value.int .i64) hw1, by omega, by omega, ⟨HO.out.step (bt_range _ _) (fun h => absurd (HSB.out.symm.trans h) (by decide))⟩, HS, HR7, HR8⟩, by rw [hw1]; simp [intOf]; omega⟩
      · rw [hsub] at HBE
        have HSB := Aside0.mk hsub
        clear hsub
        go_wp2_with (first | (go_at_call 30; (with_reducible refine (HBE.out _).mono ?_); rintro e w5 ⟨rfl, hb5⟩; have HS := Aside0.mk (HS.out.below hb5); have HR7 := Aside0.mk (Kd.R_below HR7.out hb5); have HR8 := Aside0.mk (Kd.R_below HR8.out hb5); clear hb5 hcb; clear a0 a1 c0 c1 f0 f1 l0 l1; obtain ⟨a0, a1, -, -⟩ := HS.out.t.cells; obtain ⟨c0, c1, f0, f1⟩ := HS.out.r.cells; have l0 := HS.out.t.lt; have l1 := HS.out.r.lt) | ((with_reducible refine gate_builtin (b := .append) (xs := #[.tmp 34, .tmp 39]) rfl ?_); at_builtin; refine Kd.R_append (Kd.int .u8) (w0 := w) w.heap.size rfl (.tmp 34) (.tmp 39) 71 5 (.int .u8 0) 1 rfl Try.underlying71 (by kernel_rfl) rfl (by decide) (by omega) v8 out (bt s x) [.int .u8 (bt s x)] (fun _ => True) (fun _ => False) rfl ?aX ?aP (fun _ hk => hk.elim) ?aF ?aO ?aB ?aS ?aL ?_; (case aX => simp [Act.eval]); (case aP => exact rfl); (case aB => exact HS.out.bl); (case aF => exact fun _ _ => trivial); (case aO => exact HR8.out); (case aS => exact HS.out.bl.size); (case aL => have := HOL.out; omega); intro v1 w7 ho hb hg hat; have HR7 := Aside0.mk (Kd.R_over HR7.out HR8.out (by decide) hg); have HS := Aside0.mk (HS.out.app HR8.out hg hb); have HR8 := Aside0.mk ho; clear ho hb hg hat; clear a0 a1 c0 c1 f0 f1 l0 l1; obtain ⟨a0, a1, -, -⟩ := HS.out.t.cells; obtain ⟨c0, c1, f0, f1⟩ := HS.out.r.cells; have l0 := HS.out.t.lt; have l1 := HS.out.r.lt))
        exact ⟨⟨x + 1, _, _, rfl, congrArg (Value.int .i64) hw1, by omega, by omega, ⟨HO.out.step (bt_range _ _) (fun _ => rfl)⟩, HS, HR7, HR8⟩, by rw [hw1]; simp [intOf]; omega⟩
    · have hcv := own_string (P := Try.prog) Try.underlying71 Try.underlying5 Try.underlying9 (Kd.own_of_R HR8.out)
      have hxe : x = (P.length : Int) := by omega
      subst hxe
      go_wp2
      exact bodyPost_ret (v := vT (strOfNums out) (.slice A m.length c)) (by simp [results, Try.results14, go_sem, c0, c1, l1]) rfl ⟨_, rfl, HO.out.al rfl HP.out.1, osr_set HS.out _ _⟩
theorem Other_w (w : World) (s o : ByteArray) (A : Option Addr) (c : Nat) (m : List Rn) (L : Int) (hr : Kd.C k58 w A m.length m) (hc : m.length ≤ c) (hm : m.length ≤ 9223372036854775807) (ho2 : o.size ≤ 5000) (hL : 0 ≤ L ∧ L ≤ 18446744073709551615) (hu : UB (bytesR m)) :
    Calls Try.prog 14 #[vT s (.slice A m.length c), .int .u64 L, .string o] w (OQ w s A c m (bytesR m) L) := by
  cases hg : goodT s m
  · exact Other_0 w s o A c m L hr hc hm hg
  · by_cases ho : o.size = 0
    · exact Other_1 w s o A c m L hr hc hm hg ho
    · exact Other_2 w s o A c m L hr hc hm hg ho ho2 hL hu _ rfl

end Go.Proofs.Ytbcbfmhcoemnpaa.Ext

set_option linter.unusedVariables false
set_option linter.unusedSimpArgs false
namespace Go.Proofs.Ytbcbfmhcoemnpaa.Ext
open Go.RowKit Go.Lib Go.Proofs.YtbcbfmhcoemnpaaW.PrintWords Go.Proofs.YtbcbfmhcoemnpaaW.PrintMore Go.Proofs.Ytbcbfmhcoemnpaa.XRR

def cvR (x : XRH.S58) : Rn := ⟨x.f0, x.f1⟩
theorem C_cv {w : World} {A : Option Addr} {n : Nat} {xs : List XRH.S58} (h : Kd.C XRH.k58 w A n xs) : Kd.C k58 w A n (xs.map cvR) :=
  C_map cvR rfl (fun w x cs hk => by rw [XRH.k58_open hk]; exact k58_mk w (cvR x)) h
theorem UB.of {xs : List XRH.S58} (h : ∀ y, y ∈ xs → 0 ≤ y.f0 ∧ y.f0 ≤ 18446744073709551615) : UB (bytesR (xs.map cvR)) := fun b hb => by
  obtain ⟨r, hr, hb⟩ := List.mem_flatMap.1 hb
  obtain ⟨y, hy, rfl⟩ := List.mem_map.1 hr
  rw [(List.mem_replicate.1 hb).2]
  exact h y hy
theorem cell_old {w W : World} (hb : Below w.heap.size w W) {a : Addr} {v : Value} (h : w.cell? a = some v) : W.cell? a = some v := by
  rw [hb.cell (p := a) ?_]
  · exact h
  · unfold World.cell? at h
    cases e : w.heap[a.block]? with
    | none => rw [e] at h; cases h
    | some o => exact (Array.getElem?_eq_some_iff.1 e).1
def nmB : ByteArray := ⟨#[34, 45, 48, 49, 50, 51, 52, 53, 54, 55, 56, 57, 97, 98, 99, 100, 101, 102, 103, 104, 105, 106, 107, 108, 109, 110, 111, 112, 113, 114, 115, 116, 117, 118, 119, 120, 121, 122]⟩
theorem nm_ok : ∀ q : Fin 38, let k := (nmB.get! q).toNat; k = 34 ∨ k = 45 ∨ (48 ≤ k ∧ k ≤ 57) ∨ (97 ≤ k ∧ k ≤ 122) := by decide
theorem nm_kind (q : Nat) (h : q < 38) : (((nmB.get! q).toNat : Nat) : Int) = 34 ∨ (((nmB.get! q).toNat : Nat) : Int) = 45 ∨ (48 ≤ (((nmB.get! q).toNat : Nat) : Int) ∧ (((nmB.get! q).toNat : Nat) : Int) ≤ 57) ∨ (97 ≤ (((nmB.get! q).toNat : Nat) : Int) ∧ (((nmB.get! q).toNat : Nat) : Int) ≤ 122) := by
  have := nm_ok ⟨q, h⟩
  dsimp only at this
  omega
theorem next_at (W : World) (p : Nat) (s : ByteArray) (pos : Nat) (hb : W.heap[p]? = some (.stringIter s pos)) (h : pos < s.size) (ha : (s.get! pos).toNat < 128) :
    ∃ W2, (∀ ty, (Instr.next (.pointer (some ⟨p, 0, none⟩)) true ty).run Try.prog W = .ok (.tuple #[.bool true, .int .i64 pos, .int .i32 ((s.get! pos).toNat : Nat)]) W2) ∧ W2.heap[p]? = some (.stringIter s (pos + 1)) ∧ W.grownBy W2 (some p) := by
  have hlt := (Array.getElem?_eq_some_iff.1 hb).1
  have eg : s.get! pos = s[pos]'h := by
    simp [ByteArray.get!, getElem!_pos, h]
    rfl
  rw [eg] at ha ⊢
  refine ⟨{ W with heap := W.heap.setIfInBounds p (.stringIter s (pos + 1)) }, fun ty => ?_, ?_, ⟨rfl, rfl, rfl, by simp, fun k hk hne => ?_⟩⟩
  · simp only [Instr.next, getObj, setObj, Sem.run_bind, Sem.run, hb, Result.andThen, h, if_true, decode_ascii s pos h ha]
    simp [goInt, Sem.run, hb]
  · simp [hlt]
  · simp only [Array.getElem?_setIfInBounds]
    rw [if_neg (fun e => hne (by rw [e]))]
theorem next_end (W : World) (p : Nat) (s : ByteArray) (pos : Nat) (hb : W.heap[p]? = some (.stringIter s pos)) (h : ¬ pos < s.size) (ty : TypeId) :
    (Instr.next (.pointer (some ⟨p, 0, none⟩)) true ty).run Try.prog W = .ok (.tuple #[.bool false]) W := by
  simp [Instr.next, getObj, Sem.run, hb, h]
/-- A change of what is no row: the registers stay. -/
theorem RG.iter {bs : Nat} {w w' : World} {B p : Nat} {g : List Hs} {vs : List Value} {s : ByteArray} {pos : Nat} (h : RG bs w B g vs) (hp : w.heap[p]? = some (.stringIter s pos)) (hG : w.grownBy w' (some p)) : RG bs w' B g vs := by
  refine ⟨blk_grown h.x hG (fun e => ?_), h.n, h.m, fun i hi => ?_, Nat.le_trans h.lb hG.size⟩
  · injection e with e
    subst e
    rw [h.x] at hp
    cases hp
  · refine Kd.R_mono (Kd.R_step (Kd.R_bound (h.r i hi)) (fun k hk hlt => hG.block k hlt (fun e => ?_))) (fun _ _ => trivial)
    obtain ⟨-, -, -, q, -, cells, hc⟩ := hk
    injection e with e
    subst e
    rw [hc] at hp
    cases hp
theorem ST.iter {w W W' : World} {B p : Nat} {g : List Hs} {s : ByteArray} {pos : Nat} (h : ST w W B g) (hp : W.heap[p]? = some (.stringIter s pos)) (hG : W.grownBy W' (some p)) (hle : w.heap.size ≤ p) : ST w W' B g := by
  obtain ⟨vs, hr⟩ := h.rg
  exact ⟨pw_below_grown h.bl (some p) h.bl.size hG (fun k e => by injection e with e; rw [← e]; exact hle), h.le, h.gg, vs, hr.iter hp hG⟩
theorem iterPos_of {W : World} {p : Nat} {s : ByteArray} {q : Nat} (h : W.heap[p]? = some (.stringIter s q)) : W.iterPos p = q := by
  unfold World.iterPos
  rw [h]
/-- In the law's last loop: both registers, and where the loop stands in the names. -/
structure I2 (w W : World) (B C p q : Nat) (g g2 : List Hs) : Prop where
  it : W.heap[p]? = some (.stringIter nmB q)
  b : ST w W B g
  c : ST w W C g2
  le : w.heap.size ≤ p
theorem I2.below {w W W' : World} {B C p q : Nat} {g g2 : List Hs} (h : I2 w W B C p q g g2) (hb : Below W.heap.size W W') : I2 w W' B C p q g g2 := ⟨(hb.block _ (blk_lt h.it)).trans h.it, h.b.below hb, h.c.below hb, h.le⟩
theorem I2.step {w W : World} {B C p q : Nat} {g g2 : List Hs} (h : I2 w W B C p q g g2) (hq : q < 38) : ∃ W2, (∀ ty, (Instr.next (.pointer (some ⟨p, 0, none⟩)) true ty).run Try.prog W = .ok (.tuple #[.bool true, .int .i64 q, .int .i32 ((nmB.get! q).toNat : Nat)]) W2) ∧ I2 w W2 B C p (q + 1) g g2 := by
  have ha : (nmB.get! q).toNat < 128 := by have := nm_ok ⟨q, hq⟩; dsimp only at this; omega
  obtain ⟨W2, h1, h2, h3⟩ := next_at W p nmB q h.it hq ha
  exact ⟨W2, h1, h2, h.b.iter h.it h3 h.le, h.c.iter h.it h3 h.le, h.le⟩
theorem I2.less {w W W' : World} {B C p q : Nat} {g g2 : List Hs} (h : I2 w W B C p q g g2) (h' : I2 w W' B C p (q + 1) g g2) (hq : q < 38) : 38 - W'.iterPos p < 38 - W.iterPos p := by
  rw [iterPos_of h.it, iterPos_of h'.it]
  omega
/-- Both registers of the law. -/
structure HH (w W : World) (B C : Nat) (g g2 : List Hs) : Prop where
  b : ST w W B g
  c : ST w W C g2
  ne : C ≠ B
theorem HH.below {w W W' : World} {B C : Nat} {g g2 : List Hs} (h : HH w W B C g g2) (hb : Below W.heap.size W W') : HH w W' B C g g2 := ⟨h.b.below hb, h.c.below hb, h.ne⟩
theorem HH.turnB {w W W' : World} {B C : Nat} {g g' g2 : List Hs} (h : HH w W B C g g2) (hs : ST w W' B g') (hg : W.grownBy W' (some B)) : HH w W' B C g' g2 := by
  obtain ⟨vs, hr⟩ := h.b.rg
  obtain ⟨vs2, hr2⟩ := h.c.rg
  exact ⟨hs, h.c.beside (g := g) ⟨vs2, hr2.beside hr h.ne hg⟩ hg h.b.le, h.ne⟩
theorem HH.turnC {w W W' : World} {B C : Nat} {g g2 g2' : List Hs} (h : HH w W B C g g2) (hs : ST w W' C g2') (hg : W.grownBy W' (some C)) : HH w W' B C g g2' := by
  obtain ⟨vs, hr⟩ := h.b.rg
  obtain ⟨vs2, hr2⟩ := h.c.rg
  exact ⟨h.b.beside (g := g2) ⟨vs, hr.beside hr2 (fun e => h.ne e.symm) hg⟩ hg h.c.le, hs, h.ne⟩
/-- The two acts of a round in their boxes. -/
structure AB (w W : World) (B C pa pb : Nat) (g g2 : List Hs) (av bv : Array Value) : Prop where
  h : HH w W B C g g2
  a : W.heap[pa]? = some (.cells av 42 (0, 0))
  b : W.heap[pb]? = some (.cells bv 42 (0, 0))
  la : w.heap.size ≤ pa
  lb : w.heap.size ≤ pb
  ne : pa ≠ pb
theorem AB.below {w W W' : World} {B C pa pb : Nat} {g g2 : List Hs} {av bv : Array Value} (h : AB w W B C pa pb g g2 av bv) (hb : Below W.heap.size W W') : AB w W' B C pa pb g g2 av bv :=
  ⟨h.h.below hb, (hb.block _ (blk_lt h.a)).trans h.a, (hb.block _ (blk_lt h.b)).trans h.b, h.la, h.lb, h.ne⟩
theorem AB.start {w wr : World} {B C : Nat} {g g2 : List Hs} {av : Array Value} (h : HH w wr B C g g2) : AB w ((wr.alloc (.cells av 42)).alloc (.cells av 42)).drew B C wr.heap.size (wr.heap.size + 1) g g2 av av ∧ AB w ((wr.alloc (.cells av 42)).alloc (.cells av 42)).drew B C (wr.heap.size + 1) wr.heap.size g g2 av av := by
  have hb : Below wr.heap.size wr ((wr.alloc (.cells av 42)).alloc (.cells av 42)).drew := below_drew (below_alloc (below_alloc (Below.refl _ _) _) _)
  have h2 := h.below hb
  have e1 : (wr.alloc (.cells av 42)).heap.size = wr.heap.size + 1 := by simp
  have x1 : ((wr.alloc (.cells av 42)).alloc (.cells av 42)).drew.heap[wr.heap.size]? = some (.cells av 42 (0, 0)) := (Below.heap_alloc _ _ _ (by omega)).trans (heap_alloc_new _ _)
  have x2 : ((wr.alloc (.cells av 42)).alloc (.cells av 42)).drew.heap[wr.heap.size + 1]? = some (.cells av 42 (0, 0)) := by
    have := heap_alloc_new (wr.alloc (.cells av 42)) (.cells av 42)
    rwa [e1] at this
  have hs := h.b.bl.size
  exact ⟨⟨h2, x1, x2, hs, by omega, by omega⟩, ⟨h2, x2, x1, by omega, hs, by omega⟩⟩
theorem act_ne {w : World} {B p : Nat} {g : List Hs} {vs : List Value} {bs : Nat} {cs : Array Value} (h : RG bs w B g vs) (hp : w.heap[p]? = some (.cells cs 42 (0, 0))) : p ≠ B := fun e => by
  subst e
  rw [h.x] at hp
  cases hp
theorem AB.turnB {w W W' : World} {B C pa pb : Nat} {g g' g2 : List Hs} {av bv : Array Value} (h : AB w W B C pa pb g g2 av bv) (hs : ST w W' B g') (hg : W.grownBy W' (some B)) : AB w W' B C pa pb g' g2 av bv := by
  obtain ⟨vs, hr⟩ := h.h.b.rg
  exact ⟨h.h.turnB hs hg, blk_grown h.a hg (fun e => act_ne hr h.a (by injection e)), blk_grown h.b hg (fun e => act_ne hr h.b (by injection e)), h.la, h.lb, h.ne⟩
theorem AB.turnC {w W W' : World} {B C pa pb : Nat} {g g2 g2' : List Hs} {av bv : Array Value} (h : AB w W B C pa pb g g2 av bv) (hs : ST w W' C g2') (hg : W.grownBy W' (some C)) : AB w W' B C pa pb g g2' av bv := by
  obtain ⟨vs, hr⟩ := h.h.c.rg
  exact ⟨h.h.turnC hs hg, blk_grown h.a hg (fun e => act_ne hr h.a (by injection e)), blk_grown h.b hg (fun e => act_ne hr h.b (by injection e)), h.la, h.lb, h.ne⟩
theorem far_act {w w' : World} {base p : Nat} {ok : Nat → Prop} {v : Value} {xs : List Rn} {cs : Array Value} (h : Kd.R k58 58 w base ok v xs) (hB : w.heap[p]? = some (.cells cs 42 (0, 0))) (hG : w.grownBy w' (some p)) : Kd.R k58 58 w' base ok v xs :=
  Kd.R_mono (Kd.R_step (Kd.R_types h hB (fun q hq => by
    rcases List.mem_cons.1 hq with e | e
    · rw [e]; decide
    · exact (List.not_mem_nil e).elim)) (fun k hk hlt => hG.block k hlt (fun e => hk.2 (by injection e)))) (fun _ hk => hk.1)
theorem ST.act {w W W' : World} {B p : Nat} {g : List Hs} {cs : Array Value} (h : ST w W B g) (hp : W.heap[p]? = some (.cells cs 42 (0, 0))) (hG : W.grownBy W' (some p)) (hle : w.heap.size ≤ p) : ST w W' B g := by
  obtain ⟨vs, hr⟩ := h.rg
  exact ⟨pw_below_grown h.bl (some p) h.bl.size hG (fun k e => by injection e with e; rw [← e]; exact hle), h.le, h.gg, vs, blk_grown hr.x hG (fun e => act_ne hr hp (by injection e with e; exact e.symm)), hr.n, hr.m, fun i hi => far_act (hr.r i hi) hp hG, Nat.le_trans hr.lb hG.size⟩
/-- Another text in the second act. -/
theorem AB.setb {w W : World} {B C pa pb : Nat} {g g2 : List Hs} {av : Array Value} {n : Int} {s s' : ByteArray} {v : Value} {b c1 w1 : Bool} (h : AB w W B C pa pb g g2 av #[.int .i32 n, .string s, v, .bool b, .bool c1, .bool w1]) : AB w ((W.setCell ⟨pb, 1, none⟩ (.string s')).setCell ⟨pb, 2, none⟩ v) B C pa pb g g2 av #[.int .i32 n, .string s', v, .bool b, .bool c1, .bool w1] := by
  have hG : W.grownBy ((W.setCell ⟨pb, 1, none⟩ (.string s')).setCell ⟨pb, 2, none⟩ v) (some pb) := ⟨rfl, rfl, rfl, by simp [World.setCell], fun k hk hne => by
    have hk2 : k ≠ pb := fun e => hne (by rw [e])
    rw [heap_setCell_other _ _ _ _ hk2, heap_setCell_other _ _ _ _ hk2]⟩
  refine ⟨⟨h.h.b.act h.b hG h.lb, h.h.c.act h.b hG h.lb, h.h.ne⟩, blk_grown h.a hG (fun e => h.ne (by injection e)), ?_, h.la, h.lb, h.ne⟩
  exact heap_setCell_same _ pb 2 _ _ v (heap_setCell_same W pb 1 _ _ (.string s') h.b)
theorem AB.cells {w W : World} {B C pa pb : Nat} {g g2 : List Hs} {n : Int} {s s' : ByteArray} {v v' : Value} {b c1 w1 : Bool} (h : AB w W B C pa pb g g2 #[.int .i32 n, .string s, v, .bool b, .bool c1, .bool w1] #[.int .i32 n, .string s', v', .bool b, .bool c1, .bool w1]) :
    (W.cell? ⟨pa, 0, none⟩ = some (.int .i32 n) ∧ W.cell? ⟨pa, 1, none⟩ = some (.string s) ∧ W.cell? ⟨pa, 2, none⟩ = some v ∧ W.cell? ⟨pa, 3, none⟩ = some (.bool b) ∧ W.cell? ⟨pa, 4, none⟩ = some (.bool c1) ∧ W.cell? ⟨pa, 5, none⟩ = some (.bool w1)) ∧
    (W.cell? ⟨pb, 0, none⟩ = some (.int .i32 n) ∧ W.cell? ⟨pb, 1, none⟩ = some (.string s') ∧ W.cell? ⟨pb, 2, none⟩ = some v' ∧ W.cell? ⟨pb, 3, none⟩ = some (.bool b) ∧ W.cell? ⟨pb, 4, none⟩ = some (.bool c1) ∧ W.cell? ⟨pb, 5, none⟩ = some (.bool w1)) :=
  ⟨⟨cell_of_row _ _ 0 _ _ _ h.a, cell_of_row _ _ 1 _ _ _ h.a, cell_of_row _ _ 2 _ _ _ h.a, cell_of_row _ _ 3 _ _ _ h.a, cell_of_row _ _ 4 _ _ _ h.a, cell_of_row _ _ 5 _ _ _ h.a⟩, cell_of_row _ _ 0 _ _ _ h.b, cell_of_row _ _ 1 _ _ _ h.b, cell_of_row _ _ 2 _ _ _ h.b, cell_of_row _ _ 3 _ _ _ h.b, cell_of_row _ _ 4 _ _ _ h.b, cell_of_row _ _ 5 _ _ _ h.b⟩
theorem get_len {g : List Hs} (h : GG g) (n : Int) : (getM g n).1.l.length ≤ 4096 := by
  unfold getM
  split
  · exact Nat.zero_le _
  · split
    · exact h.len _
    · exact Nat.zero_le _
set_option maxRecDepth 100000 in
set_option maxHeartbeats 16000000 in
theorem Hides_w (A0 : Option Addr) (c0 : Nat) (l : List XRH.S42) (o : ByteArray) (L : Int) (w : World) (hr : Kd.C XRH.k42 w A0 l.length l) (hc : l.length ≤ c0) (hl : ∀ x, x ∈ l → (-2147483648 ≤ x.f0 ∧ x.f0 ≤ 2147483647) ∧ ∀ y, y ∈ x.f1.f0.f1 → 0 ≤ y.f0 ∧ y.f0 ≤ 18446744073709551615)
    (hL : 0 ≤ L ∧ L ≤ 18446744073709551615) :
    Calls Try.prog 4 #[.slice A0 l.length c0, .string o, .int .u64 L] w fun e w' => e = .returned (.bool true) ∧ Below w.heap.size w w' := by
  have HR := Aside0.mk hr
  have HAL := Aside0.mk (fun (w1 : World) => alive_w w1)
  clear hr
  by_cases hbig : (5000 : Int) < (o.size : Int)
  · go_enter Try.func4, Try.ntmps4
    go_wp2_with (first | (go_at_call 7; (with_reducible refine (HAL.out _).mono ?_); rintro e w1 ⟨rfl, hb1⟩; have HB1 := Aside0.mk hb1; clear hb1) | (go_at_call 8; (with_reducible refine (new_s w w1 HB1.out).mono ?_); rintro e w2 ⟨rfl, hs2, -⟩; have HS2 := Aside0.mk hs2; clear hs2) | (go_at_call 8; (with_reducible refine (new_s w w2 HS2.out.bl).mono ?_); rintro e w3 ⟨rfl, hs3, hb3⟩; have HH0 := Aside0.mk (⟨HS2.out.below hb3, hs3, Nat.ne_of_gt HS2.out.lt⟩ : HH w w3 w1.heap.size w2.heap.size _ _); clear hs3 hb3))
    go_ret
    exact ⟨rfl, HH0.out.b.bl⟩
  · go_enter Try.func4, Try.ntmps4
    go_wp2_with (first | (go_at_call 7; (with_reducible refine (HAL.out _).mono ?_); rintro e w1 ⟨rfl, hb1⟩; have HB1 := Aside0.mk hb1; clear hb1) | (go_at_call 8; (with_reducible refine (new_s w w1 HB1.out).mono ?_); rintro e w2 ⟨rfl, hs2, -⟩; have HS2 := Aside0.mk hs2; clear hs2) | (go_at_call 8; (with_reducible refine (new_s w w2 HS2.out.bl).mono ?_); rintro e w3 ⟨rfl, hs3, hb3⟩; have HH0 := Aside0.mk (⟨HS2.out.below hb3, hs3, Nat.ne_of_gt HS2.out.lt⟩ : HH w w3 w1.heap.size w2.heap.size _ _); clear hs3 hb3))
    go_loopw [9] (fun ii wr => ∃ (q : Nat) (g g2 : List Hs), ii = .int .i64 q ∧ q ≤ l.length ∧ q ≤ 40 ∧ Aside0 (ALG L g g2) ∧ Aside0 (HH w wr w1.heap.size w2.heap.size g g2)) (fun ii _ => l.length - (intOf ii).toNat)
    case atStart => exact ⟨0, _, _, rfl, Nat.zero_le _, by decide, ⟨ALG.new L⟩, HH0⟩
    case round =>
      obtain ⟨q, g, g2, rfl, hq, hq40, HAG, HH1⟩ := hrel
      by_cases hex : q < l.length ∧ q < 40
      · obtain ⟨hql, hq4⟩ := hex
        obtain ⟨ad, A1, c1, eA, y0, y1, y2, y3, y4, y5, hc1, hC1⟩ := XRH.at_T42 HR.out (q : Int) (by omega) (by omega)
        cases eA
        rw [Int.toNat_natCast] at y0 y1 y2 y3 y4 y5
        have hC2 := C_cv hC1
        have hrg := hl (XRH.rd_T42 l (q : Int)) (by
          unfold XRH.rd_T42
          rw [Int.toNat_natCast, List.getD_eq_getElem?_getD, List.getElem?_eq_getElem hql]
          exact List.getElem_mem _)
        clear hC1
        generalize XRH.rd_T42 l (q : Int) = y at *
        obtain ⟨an, ⟨⟨x, ym⟩, ab⟩, acut, awide⟩ := y
        simp only at y0 y1 y2 y3 y4 y5 hc1 hC2 hrg
        have hub := UB.of hrg.2
        rw [show ym.length = (ym.map cvR).length from (List.length_map _).symm] at y2 hc1 hC2
        generalize ym.map cvR = m at *
        have hb0 := HH1.out.b.bl
        have z0 := cell_old hb0 y0
        have z1 := cell_old hb0 y1
        have z2 := cell_old hb0 y2
        have z3 := cell_old hb0 y3
        have z4 := cell_old hb0 y4
        have z5 := cell_old hb0 y5
        clear y0 y1 y2 y3 y4 y5 hb0
        go_upto_region 11 with (fail)
        go_cut [10, 11] (fun va vb wc => ∃ (W9 : World) (pa pb : Nat), W9 = wc ∧ va = .pointer (some ⟨pa, 0, none⟩) ∧ vb = .pointer (some ⟨pb, 0, none⟩) ∧ Aside0 (AB w W9 w1.heap.size w2.heap.size pa pb g g2 #[.int .i32 an, .string x, .slice A1 m.length c1, .bool ab, .bool acut, .bool awide] #[.int .i32 an, .string x, .slice A1 m.length c1, .bool ab, .bool acut, .bool awide]))
        case first =>
          go_region_held3 (fun w' => w'.cell? (ad.add (q * 6)) = some (.int .i32 an) ∧ w'.cell? ⟨(ad.add (q * 6)).block, (ad.add (q * 6)).off + 1, none⟩ = some (.string x) ∧ w'.cell? ⟨(ad.add (q * 6)).block, (ad.add (q * 6)).off + 2, none⟩ = some (.slice A1 m.length c1) ∧ w'.cell? ⟨(ad.add (q * 6)).block, (ad.add (q * 6)).off + 3, none⟩ = some (.bool ab) ∧ w'.cell? ⟨(ad.add (q * 6)).block, (ad.add (q * 6)).off + 4, none⟩ = some (.bool acut) ∧ w'.cell? ⟨(ad.add (q * 6)).block, (ad.add (q * 6)).off + 5, none⟩ = some (.bool awide)) (first | exact ⟨z0, z1, z2, z3, z4, z5⟩ | go_keep) (first | fail)
          all_goals (go_wp2; go_meet)
          all_goals first | exact ⟨_, _, _, rfl, rfl, rfl, ⟨(AB.start HH1.out).1⟩⟩ | exact ⟨_, _, _, rfl, rfl, rfl, ⟨(AB.start HH1.out).2⟩⟩
        case rest =>
          obtain ⟨W9, pa, pb, rfl, rfl, rfl, HA⟩ := hcut
          have HFI := Aside0.mk (fun (W : World) (h : Below w.heap.size w W) => bureaulaw04_Fits.calls x A1 c1 m _ W (Kd.C_below hC2 h) hc1 (fit_f x m))
          clear z0 z1 z2 z3 z4 z5
          obtain ⟨⟨a0, a1, a2, a3, a4, a5⟩, b0, b1, b2, b3, b4, b5⟩ := HA.out.cells
          have f1 := frozen_of_row _ pb 1 _ _ HA.out.b
          have f2 := frozen_of_row _ pb 2 _ _ HA.out.b
          have lb := blk_lt HA.out.b
          cases hfi : fitB x m
          · rw [hfi] at HFI
            clear hfi
            go_wp2_with (first | (go_at_call 9; (with_reducible refine (HFI.out _ HA.out.h.b.bl).mono ?_); rintro e w4 ⟨rfl, hb4⟩; have HA := Aside0.mk (HA.out.below hb4); clear hb4; clear a0 a1 a2 a3 a4 a5 b0 b1 b2 b3 b4 b5 f1 f2 lb; obtain ⟨⟨a0, a1, a2, a3, a4, a5⟩, b0, b1, b2, b3, b4, b5⟩ := HA.out.cells; have f1 := frozen_of_row _ pb 1 _ _ HA.out.b; have f2 := frozen_of_row _ pb 2 _ _ HA.out.b; have lb := blk_lt HA.out.b))
            exact ⟨⟨q + 1, g, g2, by go_num, by omega, by omega, HAG, ⟨HA.out.h⟩⟩, by simp [intOf]; omega⟩
          · have hf5 : m.length ≤ 5000 := (of_decide_eq_true hfi : _ ∧ _).2
            rw [hfi] at HFI
            have HOT := Aside0.mk (fun (W : World) (h : Below w.heap.size w W) => Other_w W x o A1 c1 m L (Kd.C_below hC2 h) hc1 (by omega) (by omega) hL hub)
            have HC2 := Aside0.mk (⟨hC2, hc1, hf5, hrg.1, hub⟩ : _ ∧ _ ∧ _ ∧ _ ∧ _)
            have hpn := HA.out.ne
            clear hfi hC2 hc1 hf5 hrg hub
            go_wp2_with (first | (go_at_call 9; (with_reducible refine (HFI.out _ HA.out.h.b.bl).mono ?_); rintro e w4 ⟨rfl, hb4⟩; have HA := Aside0.mk (HA.out.below hb4); clear hb4; clear a0 a1 a2 a3 a4 a5 b0 b1 b2 b3 b4 b5 f1 f2 lb; obtain ⟨⟨a0, a1, a2, a3, a4, a5⟩, b0, b1, b2, b3, b4, b5⟩ := HA.out.cells; have f1 := frozen_of_row _ pb 1 _ _ HA.out.b; have f2 := frozen_of_row _ pb 2 _ _ HA.out.b; have lb := blk_lt HA.out.b) | (go_at_call 14; (with_reducible refine (HOT.out _ HA.out.h.b.bl).mono ?_); rintro e w5 ⟨s', rfl, hal, hb5⟩; have HAL2 := Aside0.mk hal; have HA := Aside0.mk (HA.out.below hb5); clear hb5 hal; clear a0 a1 a2 a3 a4 a5 b0 b1 b2 b3 b4 b5 f1 f2 lb; obtain ⟨⟨a0, a1, a2, a3, a4, a5⟩, b0, b1, b2, b3, b4, b5⟩ := HA.out.cells; have f1 := frozen_of_row _ pb 1 _ _ HA.out.b; have f2 := frozen_of_row _ pb 2 _ _ HA.out.b; have lb := blk_lt HA.out.b))
            have HA := Aside0.mk (AB.setb (s' := s') HA.out)
            clear a0 a1 a2 a3 a4 a5 b0 b1 b2 b3 b4 b5 f1 f2 lb
            generalize (w5.setCell ⟨pb, 1, none⟩ (.string s')).setCell ⟨pb, 2, none⟩ (.slice A1 m.length c1) = W8 at *
            obtain ⟨g', ev, hdo⟩ : ∃ g' ev, doM g an ⟨x, m, ab⟩ acut awide = (g', ev) := ⟨_, _, rfl⟩
            obtain ⟨g2', ev2, hdo2⟩ : ∃ g' ev, doM g2 an ⟨s', m, ab⟩ acut awide = (g', ev) := ⟨_, _, rfl⟩
            have hal := doM_al HAG.out HA.out.h.b.gg (x := ⟨x, m, ab⟩) (x' := ⟨s', m, ab⟩) ⟨rfl, rfl, HAL2.out, HC2.out.2.2.2.2⟩ an acut awide
            rw [hdo, hdo2] at hal
            obtain ⟨hAG2, hev⟩ := hal
            dsimp only at hAG2 hev
            subst hev
            have HAG2 := Aside0.mk hAG2
            have HDB : Aside0 (∀ W gx, AB w W w1.heap.size w2.heap.size pa pb g gx #[.int .i32 an, .string x, .slice A1 m.length c1, .bool ab, .bool acut, .bool awide] #[.int .i32 an, .string s', .slice A1 m.length c1, .bool ab, .bool acut, .bool awide] → Calls Try.prog 15 #[.pointer (some ⟨w1.heap.size, 0, none⟩), aV an x (.slice A1 m.length c1) ab acut awide] W fun e w' => e = .returned (.int .i64 ev) ∧ AB w w' w1.heap.size w2.heap.size pa pb g' gx #[.int .i32 an, .string x, .slice A1 m.length c1, .bool ab, .bool acut, .bool awide] #[.int .i32 an, .string s', .slice A1 m.length c1, .bool ab, .bool acut, .bool awide]) := ⟨fun W gx h => by
              have := does_w h.h.b ⟨x, m, ab⟩ A1 c1 an acut awide (RA.of_old HC2.out.1 HC2.out.2.1 h.h.b.bl h.h.b.le) (Nat.le_trans HC2.out.2.2.1 (by decide)) HC2.out.2.2.2.1.1 HC2.out.2.2.2.1.2
              rw [hdo] at this
              exact this.mono (fun e w' k => ⟨k.1, h.turnB k.2.1 k.2.2⟩)⟩
            have HDC : Aside0 (∀ W gx, AB w W w1.heap.size w2.heap.size pa pb gx g2 #[.int .i32 an, .string x, .slice A1 m.length c1, .bool ab, .bool acut, .bool awide] #[.int .i32 an, .string s', .slice A1 m.length c1, .bool ab, .bool acut, .bool awide] → Calls Try.prog 15 #[.pointer (some ⟨w2.heap.size, 0, none⟩), aV an s' (.slice A1 m.length c1) ab acut awide] W fun e w' => e = .returned (.int .i64 ev) ∧ AB w w' w1.heap.size w2.heap.size pa pb gx g2' #[.int .i32 an, .string x, .slice A1 m.length c1, .bool ab, .bool acut, .bool awide] #[.int .i32 an, .string s', .slice A1 m.length c1, .bool ab, .bool acut, .bool awide]) := ⟨fun W gx h => by
              have := does_w h.h.c ⟨s', m, ab⟩ A1 c1 an acut awide (RA.of_old HC2.out.1 HC2.out.2.1 h.h.c.bl h.h.c.le) (Nat.le_trans HC2.out.2.2.1 (by decide)) HC2.out.2.2.2.1.1 HC2.out.2.2.2.1.2
              rw [hdo2] at this
              exact this.mono (fun e w' k => ⟨k.1, h.turnC k.2.1 k.2.2⟩)⟩
            have HP := Aside0.mk HA.out.cells
            clear hAG2 hdo hdo2
            go_region_held3 (fun w' => (w'.cell? ⟨pa, 0, none⟩ = some (.int .i32 an) ∧ w'.cell? ⟨pa, 1, none⟩ = some (.string x) ∧ w'.cell? ⟨pa, 2, none⟩ = some (.slice A1 m.length c1) ∧ w'.cell? ⟨pa, 3, none⟩ = some (.bool ab) ∧ w'.cell? ⟨pa, 4, none⟩ = some (.bool acut) ∧ w'.cell? ⟨pa, 5, none⟩ = some (.bool awide)) ∧ (w'.cell? ⟨pb, 0, none⟩ = some (.int .i32 an) ∧ w'.cell? ⟨pb, 1, none⟩ = some (.string s') ∧ w'.cell? ⟨pb, 2, none⟩ = some (.slice A1 m.length c1) ∧ w'.cell? ⟨pb, 3, none⟩ = some (.bool ab) ∧ w'.cell? ⟨pb, 4, none⟩ = some (.bool acut) ∧ w'.cell? ⟨pb, 5, none⟩ = some (.bool awide))) (first | exact HP.out) (first | (go_at_call 15; (with_reducible refine (HDB.out _ _ (HA.out.below ?sb)).mono ?_); (case sb => exact (by repeat (first | (with_reducible first | exact Below.refl _ _ | apply pw_below_drewN | apply below_alloc | apply below_drew) | exact Below.refl _ _))); rintro e w6 ⟨rfl, ha6⟩; have HA := Aside0.mk ha6; have HP := Aside0.mk HA.out.cells; clear ha6) | (go_at_call 15; (with_reducible refine (HDC.out _ _ (HA.out.below ?sb)).mono ?_); (case sb => exact (by repeat (first | (with_reducible first | exact Below.refl _ _ | apply pw_below_drewN | apply below_alloc | apply below_drew) | exact Below.refl _ _))); rintro e w7 ⟨rfl, ha7⟩; have HA := Aside0.mk ha7; have HP := Aside0.mk HA.out.cells; clear ha7))
            all_goals (
              clear HP HDB HDC HOT HFI
              go_wp2
              exact ⟨⟨q + 1, g', g2', by go_num, by omega, by omega, HAG2, ⟨HA.out.h⟩⟩, by simp [intOf]; omega⟩)
      · have hex2 : ¬ q < l.length ∨ (q < l.length ∧ ¬ q < 40) := by omega
        clear hl HR hc
        rcases hex2 with hx | ⟨hx, hx2⟩
        · have hx' : l.length ≤ q := by omega
          go_wp2
          have hI0 : I2 w (wr.iter nmB 0) w1.heap.size w2.heap.size wr.heap.size 0 g g2 := ⟨World.iter_heap _ _ _, HH1.out.b.below (below_alloc (Below.refl _ _) _), HH1.out.c.below (below_alloc (Below.refl _ _) _), HH1.out.b.bl.size⟩
          have HI0 := Aside0.mk hI0
          clear hI0 HH1
          generalize wr.heap.size = pi at *
          go_loopw [13] (fun _ wq => ∃ (wr1 : World) (j : Nat), wr1 = wq ∧ j ≤ 38 ∧ Aside0 (I2 w wr1 w1.heap.size w2.heap.size pi j g g2)) (fun _ wq => 38 - wq.iterPos pi)
          case atStart => exact ⟨_, 0, rfl, by decide, HI0⟩
          case round =>
            obtain ⟨wr1, j, rfl, hj, HI⟩ := hrel
            by_cases hj38 : j < 38
            · obtain ⟨W2, hnx, hI2⟩ := HI.out.step hj38
              have HI0 := HI
              have HI := Aside0.mk hI2
              have hk := nm_kind j hj38
              generalize (nmB.get! j).toNat = k at *
              have HGB := Aside0.mk (fun (W : World) (h : ST w W w1.heap.size g) => get_s h (k : Int) (by omega) (by omega))
              have HGC := Aside0.mk (fun (W : World) (h : ST w W w2.heap.size g2) => get_s h (k : Int) (by omega) (by omega))
              have hlen : (getM g (k : Int)).1.l.length ≤ 100000 := Nat.le_trans (get_len HI.out.b.gg (k : Int)) (by decide)
              have hgg := getM_good HI.out.b.gg (k : Int)
              obtain ⟨hal1, hal2⟩ := getM_al HAG.out (k : Int)
              generalize getM g (k : Int) = r at *
              generalize getM g2 (k : Int) = r2 at *
              obtain ⟨⟨rs, rl, rb⟩, re⟩ := r
              obtain ⟨⟨rs2, rl2, rb2⟩, re2⟩ := r2
              obtain ⟨h1, h2, h3, h4⟩ := hal2
              dsimp only at hal1 h1 h2 h3 h4 HGB HGC hlen hgg
              subst hal1 h1 h2
              have HLO := Aside0.mk (fun (W : World) (A7 : Option Addr) (c7 : Nat) (A9 : Option Addr) (c9 : Nat) {base base2 : Nat} (hr : Kd.R k58 58 W base (fun _ => True) (.slice A7 rl.length c7) rl) (hr2 : Kd.R k58 58 W base2 (fun _ => True) (.slice A9 rl.length c9) rl) => bureauref04_Low.calls 20000 rs A7 c7 rl rs2 A9 c9 rl L true W (Kd.R_reads' hr).2.2 (Kd.R_reads' hr).2.1 (Kd.R_reads' hr2).2.2 (Kd.R_reads' hr2).2.1 (low_al hL hgg h3 h4))
              clear hI2 hlen hk h3 h4 hgg
              go_wp2_with (first | (go_at_call 12; (with_reducible refine (HGB.out _ HI.out.b).mono ?_); rintro e w3 ⟨A3, c3, rfl, hr3, hb3⟩; have HR3 := Aside0.mk hr3; have HI := Aside0.mk (HI.out.below hb3); clear hr3 hb3) | (go_at_call 12; (with_reducible refine (HGC.out _ (HI.out.below (below_alloc (Below.refl _ _) _)).c).mono ?_); rintro e w4 ⟨A4, c4, rfl, hr4, hb4⟩; have HR4 := Aside0.mk hr4; have bx := (hb4.block w3.heap.size (by simp)).trans (heap_alloc_new w3 _); have u0 := cell_of_row w4 w3.heap.size 0 _ _ _ bx; have u1 := cell_of_row w4 w3.heap.size 1 _ _ _ bx; have u2 := cell_of_row w4 w3.heap.size 2 _ _ _ bx; have lx := blk_lt bx; have hb34 := below_step (below_alloc (Below.refl w3.heap.size w3) _) hb4; have HR3 := Aside0.mk (Kd.R_below HR3.out hb34); have HI := Aside0.mk (HI.out.below hb34); clear hr4 hb4 hb34 bx) | (go_at_call 16; (with_reducible refine (HLO.out _ _ _ _ _ (Kd.R_below HR3.out ?sb) (Kd.R_below HR4.out ?sb2)).mono ?_); (case sb => exact (by repeat (first | (with_reducible first | exact Below.refl _ _ | apply pw_below_drewN | apply below_alloc | apply below_drew) | exact Below.refl _ _))); (case sb2 => exact (by repeat (first | (with_reducible first | exact Below.refl _ _ | apply pw_below_drewN | apply below_alloc | apply below_drew) | exact Below.refl _ _))); rintro e w6 ⟨rfl, hb6⟩; have HI := Aside0.mk (HI.out.below (below_step (by repeat (first | (with_reducible first | exact Below.refl _ _ | apply pw_below_drewN | apply below_alloc | apply below_drew) | exact Below.refl _ _)) hb6)); clear hb6))
              exact ⟨⟨_, j + 1, rfl, by omega, HI⟩, HI0.out.less HI.out hj38⟩
            · have hnx := next_end wr1 pi nmB j HI.out.it hj38
              go_wp2
              go_ret
              exact ⟨rfl, HI.out.b.bl⟩
        · have hx' : (q : Int) < (l.length : Int) := by omega
          have hx2' : (40 : Int) ≤ (q : Int) := by omega
          go_wp2
          have hI0 : I2 w (wr.iter nmB 0) w1.heap.size w2.heap.size wr.heap.size 0 g g2 := ⟨World.iter_heap _ _ _, HH1.out.b.below (below_alloc (Below.refl _ _) _), HH1.out.c.below (below_alloc (Below.refl _ _) _), HH1.out.b.bl.size⟩
          have HI0 := Aside0.mk hI0
          clear hI0 HH1
          generalize wr.heap.size = pi at *
          go_loopw [13] (fun _ wq => ∃ (wr1 : World) (j : Nat), wr1 = wq ∧ j ≤ 38 ∧ Aside0 (I2 w wr1 w1.heap.size w2.heap.size pi j g g2)) (fun _ wq => 38 - wq.iterPos pi)
          case atStart => exact ⟨_, 0, rfl, by decide, HI0⟩
          case round =>
            obtain ⟨wr1, j, rfl, hj, HI⟩ := hrel
            by_cases hj38 : j < 38
            · obtain ⟨W2, hnx, hI2⟩ := HI.out.step hj38
              have HI0 := HI
              have HI := Aside0.mk hI2
              have hk := nm_kind j hj38
              generalize (nmB.get! j).toNat = k at *
              have HGB := Aside0.mk (fun (W : World) (h : ST w W w1.heap.size g) => get_s h (k : Int) (by omega) (by omega))
              have HGC := Aside0.mk (fun (W : World) (h : ST w W w2.heap.size g2) => get_s h (k : Int) (by omega) (by omega))
              have hlen : (getM g (k : Int)).1.l.length ≤ 100000 := Nat.le_trans (get_len HI.out.b.gg (k : Int)) (by decide)
              have hgg := getM_good HI.out.b.gg (k : Int)
              obtain ⟨hal1, hal2⟩ := getM_al HAG.out (k : Int)
              generalize getM g (k : Int) = r at *
              generalize getM g2 (k : Int) = r2 at *
              obtain ⟨⟨rs, rl, rb⟩, re⟩ := r
              obtain ⟨⟨rs2, rl2, rb2⟩, re2⟩ := r2
              obtain ⟨h1, h2, h3, h4⟩ := hal2
              dsimp only at hal1 h1 h2 h3 h4 HGB HGC hlen hgg
              subst hal1 h1 h2
              have HLO := Aside0.mk (fun (W : World) (A7 : Option Addr) (c7 : Nat) (A9 : Option Addr) (c9 : Nat) {base base2 : Nat} (hr : Kd.R k58 58 W base (fun _ => True) (.slice A7 rl.length c7) rl) (hr2 : Kd.R k58 58 W base2 (fun _ => True) (.slice A9 rl.length c9) rl) => bureauref04_Low.calls 20000 rs A7 c7 rl rs2 A9 c9 rl L true W (Kd.R_reads' hr).2.2 (Kd.R_reads' hr).2.1 (Kd.R_reads' hr2).2.2 (Kd.R_reads' hr2).2.1 (low_al hL hgg h3 h4))
              clear hI2 hlen hk h3 h4 hgg
              go_wp2_with (first | (go_at_call 12; (with_reducible refine (HGB.out _ HI.out.b).mono ?_); rintro e w3 ⟨A3, c3, rfl, hr3, hb3⟩; have HR3 := Aside0.mk hr3; have HI := Aside0.mk (HI.out.below hb3); clear hr3 hb3) | (go_at_call 12; (with_reducible refine (HGC.out _ (HI.out.below (below_alloc (Below.refl _ _) _)).c).mono ?_); rintro e w4 ⟨A4, c4, rfl, hr4, hb4⟩; have HR4 := Aside0.mk hr4; have bx := (hb4.block w3.heap.size (by simp)).trans (heap_alloc_new w3 _); have u0 := cell_of_row w4 w3.heap.size 0 _ _ _ bx; have u1 := cell_of_row w4 w3.heap.size 1 _ _ _ bx; have u2 := cell_of_row w4 w3.heap.size 2 _ _ _ bx; have lx := blk_lt bx; have hb34 := below_step (below_alloc (Below.refl w3.heap.size w3) _) hb4; have HR3 := Aside0.mk (Kd.R_below HR3.out hb34); have HI := Aside0.mk (HI.out.below hb34); clear hr4 hb4 hb34 bx) | (go_at_call 16; (with_reducible refine (HLO.out _ _ _ _ _ (Kd.R_below HR3.out ?sb) (Kd.R_below HR4.out ?sb2)).mono ?_); (case sb => exact (by repeat (first | (with_reducible first | exact Below.refl _ _ | apply pw_below_drewN | apply below_alloc | apply below_drew) | exact Below.refl _ _))); (case sb2 => exact (by repeat (first | (with_reducible first | exact Below.refl _ _ | apply pw_below_drewN | apply below_alloc | apply below_drew) | exact Below.refl _ _))); rintro e w6 ⟨rfl, hb6⟩; have HI := Aside0.mk (HI.out.below (below_step (by repeat (first | (with_reducible first | exact Below.refl _ _ | apply pw_below_drewN | apply below_alloc | apply below_drew) | exact Below.refl _ _)) hb6)); clear hb6))
              exact ⟨⟨_, j + 1, rfl, by omega, HI⟩, HI0.out.less HI.out hj38⟩
            · have hnx := next_end wr1 pi nmB j HI.out.it hj38
              go_wp2
              go_ret
              exact ⟨rfl, HI.out.b.bl⟩
def bureaulaw09_RegsHides.f (l0 : List XRH.S42) (a1 : ByteArray) (a2 : Int) : Option Bool := if (∀ x, x ∈ l0 → (-2147483648 ≤ x.f0 ∧ x.f0 ≤ 2147483647) ∧ ∀ y, y ∈ x.f1.f0.f1 → 0 ≤ y.f0 ∧ y.f0 ≤ 18446744073709551615) ∧ 0 ≤ a2 ∧ a2 ≤ 18446744073709551615 then some true else none
theorem bureaulaw09_RegsHides.calls (A0 : Option Addr) (c0 : Nat) (l0 : List XRH.S42) (a1 : ByteArray) (a2 : Int) (r : Bool) (w : World) (hr0 : Kd.C XRH.k42 w A0 l0.length l0) (hc0 : l0.length ≤ c0) (h : bureaulaw09_RegsHides.f l0 a1 a2 = some r) :
    Calls Try.prog 4 #[.slice A0 l0.length c0, .string a1, .int .u64 a2] w fun e w' => e = .returned (.bool r) ∧ Below w.heap.size w w' := by
  unfold bureaulaw09_RegsHides.f at h
  by_cases hc : (∀ x, x ∈ l0 → (-2147483648 ≤ x.f0 ∧ x.f0 ≤ 2147483647) ∧ ∀ y, y ∈ x.f1.f0.f1 → 0 ≤ y.f0 ∧ y.f0 ≤ 18446744073709551615) ∧ 0 ≤ a2 ∧ a2 ≤ 18446744073709551615
  · rw [if_pos hc] at h
    cases h
    exact Hides_w A0 c0 l0 a1 a2 w hr0 hc0 hc.1 hc.2
  · rw [if_neg hc] at h
    cases h

end Go.Proofs.Ytbcbfmhcoemnpaa.Ext
