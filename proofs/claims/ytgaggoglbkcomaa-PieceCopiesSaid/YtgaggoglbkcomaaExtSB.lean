/- What cut and spliced texts have: plain laws. -/
import Derived.Test.YtgaggoglbkcomaaExtRM
import Derived.Test.YtgaggoglbkcomaaWMore
import Derived.WalkKit
import Derived.WalkMore
import Derived.Below
import Derived.KernelRfl
import Derived.LoopTactic
import Derived.Deep.RegionWith
import Derived.Deep.RegionHeld3
import Derived.IntWalk
import Derived.Deep.DeepCutAuto
import Derived.Deep.CutBlock
import Derived.BigQuiet
import Derived.Laws.RangeString
import Derived.Laws.RangeAny
import Derived.Laws.Rows
import Derived.Laws.Runes
import Derived.Lib.OthersKept
import Derived.OpenShut
set_option linter.unusedVariables false
set_option linter.unusedSimpArgs false
namespace Go.Proofs.Ytgaggoglbkcomaa.Ext
open Go.RowKit Go.Lib Go.Proofs.YtgaggoglbkcomaaW.PrintWords Go.Proofs.YtgaggoglbkcomaaW.PrintMore

theorem mid_cut {α : Type} (L X : List α) (a b : Nat) (h : a ≤ b) (hb : b ≤ L.length) : ((L.take a ++ X ++ L.drop b).take (a + X.length)).drop a = X := by
  have hl : (L.take a ++ X).length = a + X.length := by rw [List.length_append, List.length_take]; omega
  rw [← hl, List.take_left]
  have h2 : (L.take a).length = a := by rw [List.length_take]; omega
  calc (L.take a ++ X).drop a = (L.take a ++ X).drop (L.take a).length := by rw [h2]
    _ = X := List.drop_left
theorem mid_back {α : Type} (L X : List α) (a b : Nat) (h : a ≤ b) (hb : b ≤ L.length) : (L.take a ++ X ++ L.drop b).take a ++ (L.take b).drop a ++ (L.take a ++ X ++ L.drop b).drop (a + X.length) = L := by
  have hl : (L.take a ++ X).length = a + X.length := by rw [List.length_append, List.length_take]; omega
  have h2 : (L.take a).length = a := by rw [List.length_take]; omega
  have e1 : (L.take a ++ X ++ L.drop b).take a = L.take a := by
    rw [List.append_assoc]
    calc (L.take a ++ (X ++ L.drop b)).take a = (L.take a ++ (X ++ L.drop b)).take (L.take a).length := by rw [h2]
      _ = L.take a := List.take_left
  have e2 : (L.take a ++ X ++ L.drop b).drop (a + X.length) = L.drop b := by rw [← hl, List.drop_left]
  rw [e1, e2]
  have e3 : L.take a = (L.take b).take a := by rw [List.take_take, Nat.min_eq_left h]
  rw [e3, List.take_append_drop, List.take_append_drop]
def sli (l : List Rn) (f t : Int) : List Rn := someR f t 0 l []
def sliZ (l : List Rn) (f t : Int) : List Rn × Int := if withinB l f t = true then (sli l f t, 0) else ([], 2)
theorem sli_ok {l : List Rn} (hl : goodB l = true) (a b : Nat) (hab : a ≤ b) : pk (sli l a b) ∧ bytesR (sli l a b) = ((bytesR l).take b).drop a := by
  obtain ⟨p1, e1⟩ := someR_ok a b l 0 [] (good_ge hl) trivial
  refine ⟨p1, e1.trans ?_⟩
  unfold cutB
  rw [show ((b : Int) - 0).toNat = b by omega, show ((a : Int) - 0).toNat = a by omega]
  rfl
theorem spl_ok {l m : List Rn} (hl : goodB l = true) (hm : goodB m = true) (a b : Nat) (hab : a ≤ b) (hb : b ≤ nB l) : pk (spl l a b m) ∧ bytesR (spl l a b m) = (bytesR l).take a ++ bytesR m ++ (bytesR l).drop b := by
  have hbl : (bytesR l).length = nB l := rfl
  have hbm : (bytesR m).length = nB m := rfl
  have h4 := good_n hl
  have h5 := good_n hm
  obtain ⟨p1, e1⟩ := someR_ok 0 a l 0 [] (good_ge hl) trivial
  obtain ⟨p2, e2⟩ := someR_ok 0 4096 m 0 (someR 0 a 0 l []) (good_ge hm) p1
  obtain ⟨p3, e3⟩ := someR_ok b 4096 l 0 _ (good_ge hl) p2
  refine ⟨p3, e3.trans ?_⟩
  rw [e2, e1, cutB_all (bytesR m) (0 - 0) (4096 - 0) (by omega) (by omega)]
  have c1 : cutB (bytesR l) (0 - 0) ((a : Int) - 0) = (bytesR l).take a := by
    unfold cutB
    rw [show ((a : Int) - 0).toNat = a by omega]
    rfl
  have c2 : cutB (bytesR l) ((b : Int) - 0) (4096 - 0) = (bytesR l).drop b := by
    unfold cutB
    rw [show ((b : Int) - 0).toNat = b by omega, List.take_of_length_le (by omega)]
  rw [c1, c2]
  rfl
theorem dl (s : ByteArray) : s.data.toList.length = s.size := by
  rw [Array.length_toList]
  rfl
theorem ext_list (s : ByteArray) (a b : Nat) : (s.extract a b).data.toList = (s.data.toList.take b).drop a := by
  rw [ByteArray.data_extract, Array.toList_extract, List.extract_eq_take_drop]
  rw [List.drop_take]
theorem ba_ext {s x : ByteArray} (h : s.data.toList = x.data.toList) : s = x := by
  apply ByteArray.ext
  exact Array.ext' h
/-- A part of a text. -/
def cutT (s : ByteArray) (l : List Rn) (f t : Int) : ByteArray × List Rn × Int := if withinT s l f t = true then (s.extract f.toNat t.toNat, sli l f t, 0) else (⟨#[]⟩, [], 2)
theorem within_nat {s : ByteArray} {l : List Rn} {f t : Int} (h : withinT s l f t = true) : ∃ a b : Nat, f = (a : Int) ∧ t = (b : Int) ∧ a ≤ b ∧ b ≤ s.size ∧ goodT s l = true := by
  obtain ⟨h1, h2, h3, h4⟩ := withinT_good h
  exact ⟨f.toNat, t.toNat, by omega, by omega, by omega, by omega, h1⟩
theorem within_intro {s : ByteArray} {l : List Rn} {a b : Nat} (h : goodT s l = true) (hab : a ≤ b) (hb : b ≤ s.size) : withinT s l a b = true := by
  unfold withinT
  rw [h, decide_eq_true (by omega : (0 : Int) ≤ (a : Int)), decide_eq_true (by omega : (a : Int) ≤ (b : Int)), decide_eq_true (by omega : (b : Int) ≤ (s.size : Int))]
  rfl
/-- The bytes and labels of a splice. -/
abbrev sS (s : ByteArray) (a b : Nat) (x : ByteArray) : ByteArray := s.extract 0 a ++ x ++ s.extract b s.size
theorem sS_list (s x : ByteArray) (a b : Nat) (hb : b ≤ s.size) : (sS s a b x).data.toList = s.data.toList.take a ++ x.data.toList ++ s.data.toList.drop b := by
  rw [ByteArray.data_append, ByteArray.data_append, Array.toList_append, Array.toList_append, ext_list, ext_list, List.drop_zero]
  have e : s.data.toList.take s.size = s.data.toList := List.take_of_length_le (by rw [dl]; exact Nat.le_refl _)
  rw [e]
theorem sS_size (s x : ByteArray) (a b : Nat) (hab : a ≤ b) (hb : b ≤ s.size) : (sS s a b x).size = s.size - (b - a) + x.size := by
  rw [← dl, sS_list s x a b hb, List.length_append, List.length_append, List.length_take, List.length_drop, dl, dl]
  omega
theorem cut_good {s : ByteArray} {l : List Rn} {a b : Nat} (h : goodT s l = true) (hab : a ≤ b) (hb : b ≤ s.size) : goodT (s.extract a b) (sli l a b) = true := by
  obtain ⟨hg, hn⟩ := goodT_good h
  obtain ⟨hp, hbr⟩ := sli_ok hg a b hab
  have h4 := good_n hg
  have hlb : (bytesR l).length = nB l := rfl
  have hl : nB (sli l a b) = b - a := by
    show (bytesR (sli l a b)).length = _
    rw [hbr, List.length_drop, List.length_take]
    omega
  refine goodT_intro ((goodB_iff _).2 ⟨hp, by omega⟩) ?_
  rw [hl, ← dl, ext_list, List.length_drop, List.length_take, dl]
  omega
theorem splice_good {s x : ByteArray} {l m : List Rn} {a b : Nat} (h : goodT s l = true) (hx : goodT x m = true) (hab : a ≤ b) (hb : b ≤ s.size) (h4 : s.size - (b - a) + x.size ≤ 4096) : goodT (sS s a b x) (spl l a b m) = true := by
  obtain ⟨hg, hn⟩ := goodT_good h
  obtain ⟨hgm, hnm⟩ := goodT_good hx
  obtain ⟨hp, hbr⟩ := spl_ok hg hgm a b hab (by omega)
  have hlb : (bytesR l).length = nB l := rfl
  have hlm : (bytesR m).length = nB m := rfl
  have hl : nB (spl l a b m) = s.size - (b - a) + x.size := by
    show (bytesR (spl l a b m)).length = _
    rw [hbr, List.length_append, List.length_append, List.length_take, List.length_drop]
    omega
  exact goodT_intro ((goodB_iff _).2 ⟨hp, by omega⟩) (by rw [hl, sS_size s x a b hab hb])
/-- What was put is there. -/
theorem splice_cut {s x : ByteArray} {l m : List Rn} {a b : Nat} (h : goodT s l = true) (hx : goodT x m = true) (hab : a ≤ b) (hb : b ≤ s.size) (h4 : s.size - (b - a) + x.size ≤ 4096) :
    (sS s a b x).extract a (a + x.size) = x ∧ sli (spl l a b m) a ((a + x.size : Nat) : Int) = m := by
  obtain ⟨hg, hn⟩ := goodT_good h
  obtain ⟨hgm, hnm⟩ := goodT_good hx
  obtain ⟨hg2, hn2⟩ := goodT_good (splice_good h hx hab hb h4)
  obtain ⟨hp, hbr⟩ := spl_ok hg hgm a b hab (by omega)
  have hlb : (bytesR l).length = nB l := rfl
  have hlm : (bytesR m).length = nB m := rfl
  refine ⟨ba_ext ?_, ?_⟩
  · rw [ext_list, sS_list s x a b hb, ← dl x]
    exact mid_cut _ _ a b hab (by rw [dl]; exact hb)
  · obtain ⟨p1, e1⟩ := sli_ok hg2 a (a + x.size) (by omega)
    refine pk_inj p1 (good_pk hgm) ?_
    rw [e1, hbr, show a + x.size = a + (bytesR m).length by omega]
    exact mid_cut _ _ a b hab (by omega)
/-- What was there comes back. -/
theorem splice_back {s x : ByteArray} {l m : List Rn} {a b : Nat} (h : goodT s l = true) (hx : goodT x m = true) (hab : a ≤ b) (hb : b ≤ s.size) (h4 : s.size - (b - a) + x.size ≤ 4096) :
    sS (sS s a b x) a (a + x.size) (s.extract a b) = s ∧ spl (spl l a b m) a ((a + x.size : Nat) : Int) (sli l a b) = l := by
  obtain ⟨hg, hn⟩ := goodT_good h
  obtain ⟨hgm, hnm⟩ := goodT_good hx
  have hG := splice_good h hx hab hb h4
  obtain ⟨hg2, hn2⟩ := goodT_good hG
  have hsz := sS_size s x a b hab hb
  obtain ⟨hgo, hno⟩ := goodT_good (cut_good h hab hb)
  obtain ⟨hp, hbr⟩ := spl_ok hg hgm a b hab (by omega)
  obtain ⟨hpo, hbo⟩ := sli_ok hg a b hab
  have hlb : (bytesR l).length = nB l := rfl
  have hlm : (bytesR m).length = nB m := rfl
  refine ⟨ba_ext ?_, ?_⟩
  · rw [sS_list _ _ a (a + x.size) (by omega), sS_list s x a b hb, ext_list, ← dl x]
    exact mid_back _ _ a b hab (by rw [dl]; exact hb)
  · obtain ⟨p1, e1⟩ := spl_ok hg2 hgo a (a + x.size) (by omega) (by omega)
    refine pk_inj p1 (good_pk hg) ?_
    rw [e1, hbr, hbo, show a + x.size = a + (bytesR m).length by omega]
    exact mid_back _ _ a b hab (by omega)

end Go.Proofs.Ytgaggoglbkcomaa.Ext
