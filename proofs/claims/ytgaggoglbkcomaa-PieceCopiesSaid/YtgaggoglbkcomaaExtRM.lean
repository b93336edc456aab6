/- What texts joined, raised and seen have: plain laws. -/
import Derived.Test.YtgaggoglbkcomaaExtRL
import Derived.Test.YtgaggoglbkcomaaWMore
import Derived.WalkKit
import Derived.WalkMore
import Derived.Below
import Derived.KernelRfl
import Derived.LoopTactic
import Derived.Deep.RegionWith
import Derived.Deep.RegionHeld3
import Derived.IntWalk
import Derived.Deep.DeepCutAuto
import Derived.Deep.CutBlock
import Derived.BigQuiet
import Derived.Laws.RangeString
import Derived.Laws.RangeAny
import Derived.Laws.Rows
import Derived.Laws.Runes
import Derived.Lib.OthersKept
import Derived.OpenShut
set_option linter.unusedVariables false
set_option linter.unusedSimpArgs false
namespace Go.Proofs.Ytgaggoglbkcomaa.Ext
open Go.RowKit Go.Lib Go.Proofs.YtgaggoglbkcomaaW.PrintWords Go.Proofs.YtgaggoglbkcomaaW.PrintMore

theorem cutB_all (xs : List Int) (a b : Int) (ha : a ≤ 0) (hb : (xs.length : Int) ≤ b) : cutB xs a b = xs := by
  unfold cutB
  rw [List.take_of_length_le (by omega), show a.toNat = 0 by omega, List.drop_zero]
theorem cutB_none (xs : List Int) (a b : Int) (h : b ≤ a ∨ (xs.length : Int) ≤ a ∨ b ≤ 0) : cutB xs a b = [] := by
  unfold cutB
  refine List.drop_of_length_le ?_
  rw [List.length_take]
  omega
theorem good_ge {l : List Rn} (h : goodB l = true) : ∀ r, r ∈ l → 0 ≤ r.f1 := fun r hr => by have := pk_mem (good_pk h) r hr; omega
theorem spl_end {l m : List Rn} (hl : goodB l = true) (hm : goodB m = true) (n : Int) (hn : (nB l : Int) = n) : pk (spl l n n m) ∧ bytesR (spl l n n m) = bytesR l ++ bytesR m := by
  have hbl : (bytesR l).length = nB l := rfl
  have hbm : (bytesR m).length = nB m := rfl
  have h4 := good_n hl
  have h5 := good_n hm
  obtain ⟨p1, e1⟩ := someR_ok 0 n l 0 [] (good_ge hl) trivial
  obtain ⟨p2, e2⟩ := someR_ok 0 4096 m 0 (someR 0 n 0 l []) (good_ge hm) p1
  obtain ⟨p3, e3⟩ := someR_ok n 4096 l 0 _ (good_ge hl) p2
  refine ⟨p3, e3.trans ?_⟩
  rw [e2, e1, cutB_all (bytesR l) (0 - 0) (n - 0) (by omega) (by omega), cutB_all (bytesR m) (0 - 0) (4096 - 0) (by omega) (by omega), cutB_none (bytesR l) (n - 0) (4096 - 0) (by omega), List.append_nil]
  rfl
theorem bytesR_up (by_ : Int) : ∀ l : List Rn, bytesR (l.map (upJ by_)) = (bytesR l).map (joinL · by_)
  | [] => rfl
  | r :: l => by
    rw [List.map_cons, bytesR_cons, bytesR_cons, List.map_append, List.map_replicate, bytesR_up by_ l]
    rfl
theorem rai_all {l : List Rn} (hl : goodB l = true) (n by_ : Int) (hn : (nB l : Int) = n) : pk (rai l 0 n by_) ∧ bytesR (rai l 0 n by_) = (bytesR l).map (joinL · by_) := by
  have hbl : (bytesR l).length = nB l := rfl
  have hbu : (bytesR (l.map (upJ by_))).length = nB l := by rw [bytesR_up, List.length_map]; rfl
  have h4 := good_n hl
  have hgu : ∀ r, r ∈ l.map (upJ by_) → 0 ≤ r.f1 := by
    intro r hr
    obtain ⟨x, hx, rfl⟩ := List.mem_map.1 hr
    exact good_ge hl x hx
  obtain ⟨p1, e1⟩ := someR_ok 0 0 l 0 [] (good_ge hl) trivial
  obtain ⟨p2, e2⟩ := someR_ok 0 n (l.map (upJ by_)) 0 (someR 0 0 0 l []) hgu p1
  obtain ⟨p3, e3⟩ := someR_ok n 4096 l 0 _ (good_ge hl) p2
  refine ⟨p3, e3.trans ?_⟩
  rw [e2, e1, cutB_none (bytesR l) (0 - 0) (0 - 0) (by omega), cutB_all (bytesR (l.map (upJ by_))) (0 - 0) (n - 0) (by omega) (by omega), cutB_none (bytesR l) (n - 0) (4096 - 0) (by omega), List.append_nil, bytesR_up]
  rfl
theorem ext_all (s : ByteArray) : s.extract 0 s.size = s := ByteArray.extract_zero_size
theorem ext_none (s : ByteArray) : s.extract s.size s.size = ⟨#[]⟩ := by
  apply ByteArray.ext
  simp
theorem goodT_intro {s : ByteArray} {l : List Rn} (h : goodB l = true) (hn : nB l = s.size) : goodT s l = true := by
  unfold goodT
  rw [h, Bool.true_and, beq_iff_eq]
  omega
theorem cat_val {s x : ByteArray} {l m : List Rn} (hs : goodT s l = true) (hx : goodT x m = true) : catT s l x m = if (s.size : Int) + x.size > 4096 then (⟨#[]⟩, [], 3) else (s ++ x, spl l s.size s.size m, 0) := by
  obtain ⟨hgl, hnl⟩ := goodT_good hs
  have hwi : withinT s l s.size s.size = true := by
    unfold withinT
    rw [hs, decide_eq_true (by omega : (0 : Int) ≤ (s.size : Int)), decide_eq_true (Int.le_refl _)]
    rfl
  unfold catT splT
  rw [hwi, hx, Bool.and_self, if_pos rfl, show (s.size : Int) - ((s.size : Int) - s.size) + x.size = (s.size : Int) + x.size by omega]
  by_cases c : (s.size : Int) + x.size > 4096
  · rw [if_pos c, if_pos c]
  · rw [if_neg c, if_neg c, Int.toNat_natCast, ext_all, ext_none]
    congr 1
    exact ByteArray.append_empty
theorem spl_good {s x : ByteArray} {l m : List Rn} (hs : goodT s l = true) (hx : goodT x m = true) (hsz : (s.size : Int) + x.size ≤ 4096) : goodT (s ++ x) (spl l s.size s.size m) = true := by
  obtain ⟨hgl, hnl⟩ := goodT_good hs
  obtain ⟨hgm, hnm⟩ := goodT_good hx
  obtain ⟨hp, hb⟩ := spl_end hgl hgm s.size (by omega)
  have hn : nB (spl l s.size s.size m) = s.size + x.size := by
    unfold nB
    rw [hb, List.length_append]
    show nB l + nB m = _
    omega
  exact goodT_intro ((goodB_iff _).2 ⟨hp, by omega⟩) (by rw [hn, ByteArray.size_append])
theorem vst_full (L : Int) (bs : List UInt8) (P : List Int) (h : P.length = bs.length) : vst L bs P = List.zipWith (vf L) P bs := by
  unfold vst
  rw [List.drop_of_length_le (by omega), List.append_nil]
theorem dlen (s : ByteArray) : s.data.toList.length = s.size := by rw [Array.length_toList]; rfl
theorem vie_size {s : ByteArray} {l : List Rn} (L : Int) (h : goodT s l = true) : (vieT s l L).size = s.size := by
  obtain ⟨hg, hn⟩ := goodT_good h
  have hbl : (bytesR l).length = nB l := rfl
  unfold vieT
  show (vst L s.data.toList (bytesR l)).toArray.size = _
  rw [List.size_toArray, vst_len L _ _ (by rw [dlen]; omega), dlen]
theorem vie_cat {s x : ByteArray} {l m : List Rn} (L : Int) (hs : goodT s l = true) (hx : goodT x m = true) : vieT (s ++ x) (spl l s.size s.size m) L = vieT s l L ++ vieT x m L := by
  obtain ⟨hgl, hnl⟩ := goodT_good hs
  obtain ⟨hgm, hnm⟩ := goodT_good hx
  obtain ⟨hp, hb⟩ := spl_end hgl hgm s.size (by omega)
  have hbl : (bytesR l).length = nB l := rfl
  have hbm : (bytesR m).length = nB m := rfl
  unfold vieT
  have hd : (s ++ x).data.toList = s.data.toList ++ x.data.toList := by rw [ByteArray.data_append, Array.toList_append]
  rw [hb, hd, vst_full L _ _ (by rw [List.length_append, List.length_append, dlen, dlen]; omega), vst_full L s.data.toList _ (by rw [dlen]; omega), vst_full L x.data.toList _ (by rw [dlen]; omega), List.zipWith_append (by rw [dlen]; omega)]
  apply ByteArray.ext
  rw [ByteArray.data_append]
  simp
theorem bv_wrap (v : BitVec 64) : BitVec.ofInt 64 (IntKind.u64.wrap (v.toNat : Int)) = v := by
  rw [IntKind.wrap_u64]
  have h := v.isLt
  have e : (v.toNat : Int) % 18446744073709551616 = (v.toNat : Int) := by omega
  rw [e, BitVec.ofInt_natCast, BitVec.ofNat_toNat, BitVec.setWidth_eq]
theorem belowB_iff (a b : Int) : belowB a b = true ↔ BitVec.ofInt 64 a &&& ~~~ BitVec.ofInt 64 b = 0#64 := by
  have e : Go.bits .andNot .u64 a b = IntKind.u64.wrap ((BitVec.ofInt 64 a &&& ~~~ BitVec.ofInt 64 b).toNat : Int) := rfl
  unfold belowB
  rw [e, beq_iff_eq]
  constructor
  · intro h
    have := bv_wrap (BitVec.ofInt 64 a &&& ~~~ BitVec.ofInt 64 b)
    rw [h] at this
    exact this.symm.trans (by decide)
  · intro h
    rw [h]
    decide
theorem below_max (a : Int) : belowB a 18446744073709551615 = true := by
  rw [belowB_iff, show ~~~ BitVec.ofInt 64 18446744073709551615 = 0#64 by decide, BitVec.and_zero]
def notL (a : Int) : Int := Go.bits .xor .u64 IntKind.u64.max a
theorem notL_eq (a : Int) : notL a = IntKind.u64.wrap ((~~~ BitVec.ofInt 64 a).toNat : Int) := by
  have e : notL a = IntKind.u64.wrap ((BitVec.ofInt 64 IntKind.u64.max ^^^ BitVec.ofInt 64 a).toNat : Int) := rfl
  rw [e, show BitVec.ofInt 64 IntKind.u64.max = BitVec.allOnes 64 by decide, BitVec.allOnes_xor]
theorem below_not (x L : Int) (h0 : 0 ≤ L) (h1 : L < 18446744073709551615) : belowB (joinL x (notL L)) L = false := by
  refine Bool.eq_false_iff.2 (fun h => ?_)
  rw [belowB_iff] at h
  have e : joinL x (notL L) = IntKind.u64.wrap ((BitVec.ofInt 64 x ||| BitVec.ofInt 64 (notL L)).toNat : Int) := rfl
  rw [e, bv_wrap] at h
  rw [notL_eq, bv_wrap] at h
  have h2 : ~~~ BitVec.ofInt 64 L = 0#64 := by
    have : ∀ (p q : BitVec 64), (p ||| q) &&& q = q := by intro p q; ext i; simp; exact fun hq => Or.inr hq
    rw [this] at h
    exact h
  have h3 : BitVec.ofInt 64 L = BitVec.allOnes 64 := by
    have h5 := congrArg (fun v : BitVec 64 => ~~~ v) h2
    simpa using h5
  have h4 := congrArg BitVec.toNat h3
  obtain ⟨n, rfl⟩ : ∃ n : Nat, L = n := ⟨L.toNat, by omega⟩
  rw [BitVec.ofInt_natCast, BitVec.toNat_ofNat, BitVec.toNat_allOnes] at h4
  omega
theorem vie_max {s : ByteArray} {l : List Rn} (h : goodT s l = true) : vieT s l 18446744073709551615 = s := by
  obtain ⟨hg, hn⟩ := goodT_good h
  have hbl : (bytesR l).length = nB l := rfl
  unfold vieT
  have e : ∀ (P : List Int) (bs : List UInt8), P.length = bs.length → List.zipWith (vf 18446744073709551615) P bs = bs := by
    intro P
    induction P with
    | nil => intro bs hl; cases bs with
      | nil => rfl
      | cons b bs => cases hl
    | cons p P ih => intro bs hl; cases bs with
      | nil => cases hl
      | cons b bs => rw [List.zipWith_cons_cons, ih bs (by simpa using hl)]; unfold vf; rw [if_pos (below_max p)]
  rw [vst_full _ _ _ (by rw [dlen]; omega), e _ _ (by rw [dlen]; omega)]
theorem rai_good {s : ByteArray} {l : List Rn} (by_ : Int) (hs : goodT s l = true) : goodT s (rai l 0 s.size by_) = true := by
  obtain ⟨hgl, hnl⟩ := goodT_good hs
  obtain ⟨hp, hb⟩ := rai_all hgl s.size by_ (by omega)
  have hn : nB (rai l 0 s.size by_) = s.size := by
    unfold nB
    rw [hb, List.length_map]
    exact hnl
  have := good_n hgl
  exact goodT_intro ((goodB_iff _).2 ⟨hp, by omega⟩) hn
theorem vie_hidden {s : ByteArray} {l : List Rn} (L : Int) (h0 : 0 ≤ L) (h1 : L < 18446744073709551615) (hs : goodT s l = true) (i : Nat) (hi : i < (vieT s (rai l 0 s.size (notL L)) L).size) : (vieT s (rai l 0 s.size (notL L)) L)[i] = 35 := by
  obtain ⟨hgl, hnl⟩ := goodT_good hs
  have hbl : (bytesR l).length = nB l := rfl
  obtain ⟨hp, hb⟩ := rai_all hgl s.size (notL L) (by omega)
  have e : ∀ (P : List Int) (bs : List UInt8) (b : UInt8), b ∈ List.zipWith (vf L) (P.map (joinL · (notL L))) bs → b = 35 := by
    intro P
    induction P with
    | nil => intro bs b h; cases h
    | cons p P ih => intro bs b h; cases bs with
      | nil => cases h
      | cons c bs =>
        rw [List.map_cons, List.zipWith_cons_cons] at h
        rcases List.mem_cons.1 h with h | h
        · rw [h]; unfold vf; rw [if_neg (by rw [below_not p L h0 h1]; decide)]
        · exact ih bs b h
  have hm : (vieT s (rai l 0 s.size (notL L)) L)[i] ∈ vst L s.data.toList (bytesR (rai l 0 s.size (notL L))) := by
    unfold vieT
    exact List.mem_toArray.1 (Array.getElem_mem (xs := (vst L s.data.toList (bytesR (rai l 0 s.size (notL L)))).toArray) (i := i) hi)
  rw [hb, vst_full L _ _ (by rw [List.length_map, dlen]; omega)] at hm
  exact e _ _ _ hm

end Go.Proofs.Ytgaggoglbkcomaa.Ext
