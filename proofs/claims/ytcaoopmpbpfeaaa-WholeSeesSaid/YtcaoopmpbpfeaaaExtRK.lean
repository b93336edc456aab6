/- strip.View, by its walk. -/
import Derived.Test.YtcaoopmpbpfeaaaExtRJ
import Derived.Test.YtcaoopmpbpfeaaaXRRx2
import Derived.Test.YtcaoopmpbpfeaaaXRRx4
import Derived.Test.YtcaoopmpbpfeaaaXRRx0
import Derived.Test.YtcaoopmpbpfeaaaWMore
import Derived.WalkKit
import Derived.WalkMore
import Derived.Below
import Derived.KernelRfl
import Derived.LoopTactic
import Derived.Deep.RegionWith
import Derived.Deep.RegionHeld3
import Derived.IntWalk
import Derived.Deep.DeepCutAuto
import Derived.Deep.CutBlock
import Derived.BigQuiet
import Derived.Laws.RangeString
import Derived.Laws.RangeAny
import Derived.Laws.Rows
import Derived.Laws.Runes
import Derived.Lib.OthersKept
import Derived.OpenShut
set_option linter.unusedVariables false
set_option linter.unusedSimpArgs false
namespace Go.Proofs.Ytcaoopmpbpfeaaa.Ext
open Go.RowKit Go.Lib Go.Proofs.YtcaoopmpbpfeaaaW.PrintWords Go.Proofs.YtcaoopmpbpfeaaaW.PrintMore Go.Proofs.Ytcaoopmpbpfeaaa.XRR

def belowB (a b : Int) : Bool := Go.bits .andNot .u64 a b == 0
def vf (L : Int) (x : Int) (b : UInt8) : UInt8 := if belowB x L = true then b else 35
/-- The bytes when those that bear P have been looked at. -/
def vst (L : Int) (bs : List UInt8) (P : List Int) : List UInt8 := List.zipWith (vf L) P bs ++ bs.drop P.length
theorem vst_len (L : Int) (bs : List UInt8) (P : List Int) (h : P.length ≤ bs.length) : (vst L bs P).length = bs.length := by
  unfold vst
  rw [List.length_append, List.length_zipWith, List.length_drop]
  omega
theorem vst_one (L : Int) (bs : List UInt8) (P : List Int) (x : Int) (h : P.length < bs.length) : vst L bs (P ++ [x]) = (vst L bs P).set P.length (vf L x bs[P.length]) := by
  unfold vst
  have hz : (List.zipWith (vf L) P bs).length = P.length := by rw [List.length_zipWith]; omega
  rw [List.set_append_right _ _ (by omega), hz, Nat.sub_self, List.drop_eq_getElem_cons h, List.set_cons_zero]
  have e : List.zipWith (vf L) (P ++ [x]) bs = List.zipWith (vf L) P bs ++ [vf L x bs[P.length]] := by
    conv => lhs; rw [show bs = bs.take P.length ++ bs.drop P.length from (List.take_append_drop _ _).symm]
    rw [List.zipWith_append (by rw [List.length_take]; omega), List.drop_eq_getElem_cons h]
    congr 1
    conv => rhs; rw [show bs = bs.take P.length ++ bs.drop P.length from (List.take_append_drop _ _).symm]
    rw [show P = P ++ [] from (List.append_nil _).symm, List.zipWith_append (by rw [List.append_nil, List.length_take]; omega)]
    simp
  rw [e, List.length_append, List.length_singleton, List.append_assoc]
  rfl
theorem vst_see (L : Int) (bs : List UInt8) (P : List Int) (x : Int) (h : P.length < bs.length) (hx : belowB x L = true) : vst L bs (P ++ [x]) = vst L bs P := by
  rw [vst_one L bs P x h]
  have hz : (List.zipWith (vf L) P bs).length = P.length := by rw [List.length_zipWith]; omega
  have hl : P.length < (vst L bs P).length := by rw [vst_len L bs P (by omega)]; exact h
  have e : (vst L bs P)[P.length]? = bs[P.length]? := by
    unfold vst
    rw [List.getElem?_append_right (by omega), hz, Nat.sub_self, List.getElem?_drop, Nat.add_zero]
  rw [List.getElem?_eq_getElem hl, List.getElem?_eq_getElem h] at e
  rw [show vf L x bs[P.length] = bs[P.length] by unfold vf; rw [if_pos hx], ← Option.some.inj e]
  exact List.set_getElem_self hl
theorem vst_hide (L : Int) (bs : List UInt8) (P : List Int) (x : Int) (h : P.length < bs.length) (hx : belowB x L = false) : vst L bs (P ++ [x]) = (vst L bs P).set P.length 35 := by
  rw [vst_one L bs P x h]
  congr 1
  unfold vf
  rw [hx]
  rfl
theorem vst_sees (L : Int) (bs : List UInt8) (P : List Int) (x : Int) (hx : belowB x L = true) : ∀ (n : Nat), P.length + n ≤ bs.length → vst L bs (P ++ List.replicate n x) = vst L bs P
  | 0, _ => by simp
  | n + 1, h => by
    rw [List.replicate_succ', ← List.append_assoc, vst_see L bs _ x (by rw [List.length_append, List.length_replicate]; omega) hx]
    exact vst_sees L bs P x hx n (by omega)
/-- A block of bytes, with the mark of a conversion. -/
structure Bk (w : World) (g : Nat) (bs : List UInt8) : Prop where
  x : ∃ (arr : Array Value) (hi : Nat), w.heap[g]? = some (.cells arr 5 (arr.size, hi)) ∧ bs.length ≤ arr.size ∧ ∀ (i : Nat) (h : i < bs.length), arr[i]? = some (.int .u8 (bs[i].toNat : Int))
theorem Bk.cell {w : World} {g : Nat} {bs : List UInt8} (h : Bk w g bs) (i : Nat) (hi : i < bs.length) : w.cell? ⟨g, i, none⟩ = some (.int .u8 (bs[i].toNat : Int)) ∧ w.frozen? ⟨g, i, none⟩ = false := by
  obtain ⟨arr, hi2, hx, hl, hv⟩ := h.x
  refine ⟨by rw [cell_of_row w g i _ _ _ hx]; exact hv i hi, ?_⟩
  unfold World.frozen?
  rw [hx]
  simp only
  rw [Bool.and_eq_false_iff]
  exact Or.inl (decide_eq_false (by omega))
theorem Bk.lt {w : World} {g : Nat} {bs : List UInt8} (h : Bk w g bs) : g < w.heap.size := by
  obtain ⟨arr, hi2, hx, hl, hv⟩ := h.x
  exact (Array.getElem?_eq_some_iff.1 hx).1
theorem Bk.set {w : World} {g : Nat} {bs : List UInt8} (h : Bk w g bs) (i : Nat) (v : UInt8) (hi : i < bs.length) : Bk (w.setCell ⟨g, i, none⟩ (.int .u8 (v.toNat : Int))) g (bs.set i v) := by
  obtain ⟨arr, hi2, hx, hl, hv⟩ := h.x
  refine ⟨arr.setIfInBounds i (.int .u8 (v.toNat : Int)), hi2, ?_, ?_, ?_⟩
  · rw [setCell_eq_setRow w g i arr _ _ _ hx]
    rw [Array.size_setIfInBounds]
    exact setRow_heap w g arr _ _ _ hx
  · rw [List.length_set, Array.size_setIfInBounds]; exact hl
  · intro j hj
    rw [List.length_set] at hj
    rw [Array.getElem?_setIfInBounds, List.getElem_set]
    by_cases e : i = j
    · subst e; rw [if_pos rfl, if_pos (by omega), if_pos rfl]
    · rw [if_neg e, if_neg e]; exact hv j hj
theorem Bk.below {w w' : World} {g : Nat} {bs : List UInt8} (h : Bk w g bs) (hb : Below w.heap.size w w') : Bk w' g bs := by
  obtain ⟨arr, hi2, hx, hl, hv⟩ := h.x
  exact ⟨arr, hi2, (hb.block g h.lt).trans hx, hl, hv⟩
theorem Bk.start (w : World) (s : ByteArray) : Bk (Lib.bytesWorld w 5 s) w.heap.size s.data.toList := by
  refine ⟨_, _, Lib.bytesWorld_at_new w _ s, ?_, ?_⟩
  · unfold Lib.bytesCells
    simp
  · intro i h
    have h2 := Lib.bytesWorld_cell w 5 s i (by rw [Array.length_toList] at h; exact h)
    rw [cell_of_row _ _ i _ _ _ (Lib.bytesWorld_at_new w _ s)] at h2
    rw [h2, List.getD_eq_getElem?_getD, List.getElem?_eq_getElem h]
    rfl
/-- What a level sees of a text. -/
def vieT (s : ByteArray) (l : List Rn) (L : Int) : ByteArray := ⟨(vst L s.data.toList (bytesR l)).toArray⟩
set_option maxRecDepth 100000 in
set_option maxHeartbeats 8000000 in
theorem view_w (w : World) (s : ByteArray) (A : Option Addr) (c : Nat) (l : List Rn) (L : Int) (hr : Kd.C k43 w A l.length l) (hc : l.length ≤ c) (hl : l.length ≤ 8000000000000000000) (hg : goodT s l = true) :
    Calls Try.prog 8 #[vT s (.slice A l.length c), .int .u64 L] w fun e w' => e = .returned (.tuple #[.string (vieT s l L), .int .i64 0]) ∧ Below w.heap.size w w' := by
  have hB := below_alloc (Below.refl w.heap.size w) (.cells #[.string s, .slice A l.length c] 28)
  have hx : BX (w.alloc (.cells #[.string s, .slice A l.length c] 28)) w.heap.size s (.slice A l.length c) := ⟨heap_alloc_new _ _⟩
  obtain ⟨a0, a1, -, -⟩ := hx.cells
  have HB := Aside0.mk hB
  have HX := Aside0.mk hx
  have HGO := Aside0.mk (fun (w1 : World) (hb : Below w.heap.size w w1) => strip_Good.calls (l.length + 2 + l.length) s A c l _ w1 (Kd.C_below hr hb) hc (goodT_k s l hl _ (Nat.le_refl _)))
  rw [hg] at HGO
  obtain ⟨hgl, hnl⟩ := goodT_good hg
  have hsz := good_n hgl
  have HR := Aside0.mk hr
  have HSUM := Aside0.mk (fun (q : Nat) (hq : q < l.length) => (by
    have e := congrArg List.length (congrArg bytesR (List.take_append_drop q l))
    rw [bytesR_append, List.length_append, List.drop_eq_getElem_cons hq, bytesR_cons, List.length_append, List.length_replicate] at e
    have e2 : (bytesR l).length = s.size := hnl
    omega : (bytesR (l.take q)).length + (l[q]'hq).f1.toNat ≤ s.size))
  clear hB hx hr
  have kb := fun W => print_bytes (P := Try.prog) 9 41 5 Try.underlying9 Try.underlying41 Try.underlying5 s W
  go_enter Try.func8, Try.ntmps8
  go_wp2_with (first | (go_at_call 11; (with_reducible refine (HGO.out _ HB.out).mono ?_); rintro e w6 ⟨rfl, hb6⟩; have hb7 := bytes_below (Below.refl w6.heap.size w6) (Nat.le_refl _) 5 s; have hk7 := Bk.start w6 s; have hs7 := hb7.size; have HS67 := Aside0.mk (below_step HB.out hb6).size; have HB7 := Aside0.mk (below_step (below_step HB.out hb6) hb7); have HX7 := Aside0.mk ((HX.out.below hb6).below hb7); have HK7 := Aside0.mk hk7; clear a0 a1; obtain ⟨a0, a1, -, -⟩ := HX7.out.cells; obtain ⟨z0, z1, -, -⟩ := (HX.out.below hb6).cells; have la7 := HX7.out.lt; clear hb6 hb7 hk7 hs7))
  go_loopw [7, 20] (fun aa ii wr => ∃ (wr1 : World) (q : Nat), wr1 = wr ∧ aa = .int .i64 ((bytesR (l.take q)).length : Int) ∧ ii = .int .i64 q ∧ q ≤ l.length ∧ Aside0 (Bk wr1 w6.heap.size (vst L s.data.toList (bytesR (l.take q)))) ∧ Aside0 (Below w.heap.size w wr1)) (fun _ ii _ => l.length - (intOf ii).toNat)
  case atStart => exact ⟨_, 0, rfl, rfl, rfl, Nat.zero_le _, HK7, HB7⟩
  case round =>
    obtain ⟨wr1, q, rfl, rfl, rfl, hq, HK, HBW⟩ := hrel
    by_cases hql : q < l.length
    · obtain ⟨ad, eA, hz0, hz1⟩ := g43 rfl (Kd.C_below HR.out HBW.out) q hql
      cases eA
      have hx1 := pk_mem (good_pk hgl) _ (List.getElem_mem hql)
      have hle := HSUM.out q hql
      have htk : bytesR (l.take (q + 1)) = bytesR (l.take q) ++ List.replicate l[q].f1.toNat l[q].f0 := by
        rw [List.take_succ_eq_append_getElem hql, bytesR_append]
        simp [bytesR]
      have HTK := Aside0.mk htk
      clear htk
      generalize bytesR (l.take q) = P at *
      generalize l[q] = x at *
      obtain ⟨x0, x1⟩ := x
      simp only at hz0 hz1 hx1 hle HTK
      have hb8 := below_alloc (Below.refl wr1.heap.size wr1) (.cells #[.int .u64 x0, .int .i64 x1] 43)
      have hbx : (wr1.alloc (.cells #[.int .u64 x0, .int .i64 x1] 43)).heap[wr1.heap.size]? = some (.cells #[.int .u64 x0, .int .i64 x1] 43 (0, 0)) := heap_alloc_new _ _
      have HB8 := Aside0.mk hb8
      have HBX := Aside0.mk hbx
      have hw1 : IntKind.i64.wrap ((P.length : Int) + x1) = (P.length : Int) + x1 := wrap_ok _ ⟨by omega, by omega⟩
      have hn1 : (x1.toNat : Int) = x1 := by omega
      cases hbl : belowB x0 L
      · have HLB := Aside0.mk (fun (w1 : World) => label_Below.calls x0 L false w1 (congrArg some hbl))
        go_wp2_with (first | (go_at_call 15; (with_reducible refine (HLB.out _).mono ?_); rintro e w9 ⟨rfl, hd9⟩; have hb9 := hd9.below; have hx9 := (hb9.block wr1.heap.size (by simp)).trans HBX.out; have HX9 := Aside0.mk hx9; have b0 := (cell_of_row w9 wr1.heap.size 0 _ _ _ hx9); have b1 := (cell_of_row w9 wr1.heap.size 1 _ _ _ hx9); have hb10 := below_step HB8.out hb9; have HB9 := Aside0.mk (below_step HBW.out hb10); have HK9 := Aside0.mk (HK.out.below hb10); clear hb9 hx9 hb10))
        go_loopw [10] (fun ii wr => ∃ (wr2 : World) (k : Nat), wr2 = wr ∧ ii = .int .i64 ((P.length + k : Nat) : Int) ∧ k ≤ x1.toNat ∧ Aside0 (Bk wr2 w6.heap.size (vst L s.data.toList (P ++ List.replicate k x0))) ∧ Aside0 (Below w.heap.size w wr2) ∧ Aside0 (wr2.heap[wr1.heap.size]? = some (.cells #[.int .u64 x0, .int .i64 x1] 43 (0, 0)))) (fun ii _ => P.length + x1.toNat - (intOf ii).toNat)
        case atStart => exact ⟨_, 0, rfl, rfl, Nat.zero_le _, ⟨by rw [List.replicate_zero, List.append_nil]; exact HK9.out⟩, HB9, HX9⟩
        case round =>
          obtain ⟨wr2, k, rfl, rfl, hk, HK2, HB2, HX2⟩ := hrel
          have b2 := (cell_of_row wr2 wr1.heap.size 1 _ _ _ HX2.out)
          have hpl : (P ++ List.replicate k x0).length = P.length + k := by rw [List.length_append, List.length_replicate]
          by_cases hkl : k < x1.toNat
          · have hvl : (vst L s.data.toList (P ++ List.replicate k x0)).length = s.size := by
              rw [vst_len L _ _ (by rw [hpl, Array.length_toList]; show P.length + k ≤ s.size; omega), Array.length_toList]
              rfl
            obtain ⟨yv, y0, y1⟩ : ∃ yv : Value, wr2.cell? ⟨w6.heap.size, P.length + k, none⟩ = some yv ∧ wr2.frozen? ⟨w6.heap.size, P.length + k, none⟩ = false := ⟨_, HK2.out.cell (P.length + k) (by rw [hvl]; omega)⟩
            have hst := HK2.out.set (P.length + k) 35 (by rw [hvl]; omega)
            rw [← hpl, ← vst_hide L _ _ x0 (by rw [hpl, Array.length_toList]; show P.length + k < s.size; omega) hbl, List.append_assoc, ← List.replicate_succ', hpl] at hst
            have HST := Aside0.mk hst
            have hne : wr1.heap.size ≠ w6.heap.size := by have := HK.out.lt; omega
            have hxs := (heap_setCell_other wr2 ⟨w6.heap.size, P.length + k, none⟩ wr1.heap.size (.int .u8 35) hne).trans HX2.out
            have HXS := Aside0.mk hxs
            have HBS := Aside0.mk (below_set HB2.out (g := w6.heap.size) HS67.out (j := P.length + k) (v := .int .u8 35))
            have h10 : ((P.length + k : Nat) : Int) < (P.length : Int) + x1 := by omega
            have h11 : ((P.length + k : Nat) : Int) < (s.size : Int) := by omega
            clear hst hxs hvl hpl
            go_wp2
            exact ⟨⟨_, k + 1, rfl, by congr 1, by omega, HST, HBS, HXS⟩, by simp only [intOf]; omega⟩
          · have h10 : ¬ ((P.length + k : Nat) : Int) < (P.length : Int) + x1 := by omega
            have hke : k = x1.toNat := by omega
            have HKE := Aside0.mk hke
            clear hke hpl
            go_wp2
            refine ⟨⟨_, q + 1, rfl, ?_, by go_num, by omega, ?_, HB2⟩, by simp [intOf]; omega⟩
            · rw [HTK.out, List.length_append, List.length_replicate]
              congr 1
              omega
            · rw [HTK.out, ← HKE.out]
              exact HK2
      · have HLB := Aside0.mk (fun (w1 : World) => label_Below.calls x0 L true w1 (congrArg some hbl))
        go_wp2_with (first | (go_at_call 15; (with_reducible refine (HLB.out _).mono ?_); rintro e w9 ⟨rfl, hd9⟩; have hb9 := hd9.below; have hx9 := (hb9.block wr1.heap.size (by simp)).trans HBX.out; have HX9 := Aside0.mk hx9; have b0 := (cell_of_row w9 wr1.heap.size 0 _ _ _ hx9); have b1 := (cell_of_row w9 wr1.heap.size 1 _ _ _ hx9); have hb10 := below_step HB8.out hb9; have HB9 := Aside0.mk (below_step HBW.out hb10); have HK9 := Aside0.mk (HK.out.below hb10); clear hb9 hx9 hb10))
        refine ⟨⟨_, q + 1, rfl, ?_, by go_num, by omega, ?_, HB9⟩, by simp [intOf]; omega⟩
        · rw [HTK.out, List.length_append, List.length_replicate]
          congr 1
          omega
        · rw [HTK.out, vst_sees L _ P x0 hbl _ (by rw [Array.length_toList]; exact hle)]
          exact HK9
    · have hqg : l.length ≤ q := by omega
      have htk : l.take q = l := List.take_of_length_le hqg
      have hfin := HK.out
      rw [htk] at hfin
      have hvl : (vst L s.data.toList (bytesR l)).length = s.size := by
        rw [vst_len L _ _ (by rw [Array.length_toList]; show (bytesR l).length ≤ s.size; exact Nat.le_of_eq hnl), Array.length_toList]
        rfl
      have ks := fun (cap : Nat) => run_convert_bytes_back (P := Try.prog) wr1 41 9 5 ⟨w6.heap.size, 0, none⟩ cap (vst L s.data.toList (bytesR l)) Try.underlying41 Try.underlying5 Try.underlying9 (fun j hj => by
        have := (hfin.cell j hj).1
        rw [show (⟨w6.heap.size, 0, none⟩ : Addr).add j = ⟨w6.heap.size, j, none⟩ by unfold Addr.add; by_cases h0 : j = 0 <;> simp [h0]]
        exact this)
      rw [hvl] at ks
      clear htk hfin hvl
      go_wp2
      exact bodyPost_ret (v := .tuple #[.string (vieT s l L), .int .i64 0]) (by simp [results, Try.results8, go_sem, vieT]) rfl ⟨rfl, HBW.out⟩

end Go.Proofs.Ytcaoopmpbpfeaaa.Ext
