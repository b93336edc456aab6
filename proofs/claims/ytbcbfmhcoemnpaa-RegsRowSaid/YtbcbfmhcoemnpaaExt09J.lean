/- The law RegsRow, by its walk. -/
import Derived.Test.YtbcbfmhcoemnpaaExt09K
import Derived.Test.YtbcbfmhcoemnpaaXRRx2
import Derived.Test.YtbcbfmhcoemnpaaXRRx3
import Derived.Test.YtbcbfmhcoemnpaaXRRx4
import Derived.Test.YtbcbfmhcoemnpaaXRRx0
import Derived.Test.YtbcbfmhcoemnpaaXRWx0
import Derived.Test.YtbcbfmhcoemnpaaWMore
import Derived.WalkKit
import Derived.WalkMore
import Derived.Below
import Derived.KernelRfl
import Derived.LoopTactic
import Derived.Deep.RegionWith
import Derived.Deep.RegionHeld3
import Derived.IntWalk
import Derived.Deep.DeepCutAuto
import Derived.Deep.CutBlock
import Derived.BigQuiet
import Derived.Laws.RangeString
import Derived.Laws.RangeAny
import Derived.Laws.Rows
import Derived.Laws.Runes
import Derived.Lib.OthersKept
import Derived.OpenShut
set_option linter.unusedVariables false
set_option linter.unusedSimpArgs false
namespace Go.Proofs.Ytbcbfmhcoemnpaa.Ext
open Go.RowKit Go.Lib Go.Proofs.YtbcbfmhcoemnpaaW.PrintWords Go.Proofs.YtbcbfmhcoemnpaaW.PrintMore Go.Proofs.Ytbcbfmhcoemnpaa.XRR

def cvR (x : XRW.S58) : Rn := ⟨x.f0, x.f1⟩
theorem C_cv {w : World} {A : Option Addr} {n : Nat} {xs : List XRW.S58} (h : Kd.C XRW.k58 w A n xs) : Kd.C k58 w A n (xs.map cvR) :=
  C_map cvR rfl (fun w x cs hk => by rw [XRW.k58_open hk]; exact k58_mk w (cvR x)) h
theorem shM_gd (g : List Hs) (hn : g.length = 38) : ∀ m, m ≤ 8 → ∀ k, gd (shM g m) k = if 9 - m < k ∧ k ≤ 9 then gd g (k - 1) else gd g k
  | 0, _, k => by rw [if_neg (by omega)]; rfl
  | m + 1, hm, k => by
    have hl : (shM g m).length = 38 := by
      have : ∀ m, (shM g m).length = 38 := fun m => by
        induction m with
        | zero => exact hn
        | succ m ih => show ((shM g m).set _ _).length = 38; rw [List.length_set]; exact ih
      exact this m
    show gd ((shM g m).set (9 - m) (gd (shM g m) (8 - m))) k = _
    rw [gd_set, shM_gd g hn m (by omega) (8 - m), shM_gd g hn m (by omega) k, hl]
    rw [if_neg (show ¬ (9 - m < 8 - m ∧ 8 - m ≤ 9) by omega)]
    by_cases e : 9 - m = k
    · rw [if_pos ⟨e, by omega⟩, if_pos (by omega)]
      congr 1
      omega
    · rw [if_neg (fun h => e h.1)]
      by_cases c : 9 - m < k ∧ k ≤ 9
      · rw [if_pos c, if_pos (by omega)]
      · rw [if_neg c, if_neg (by omega)]
theorem del0 {g : List Hs} {s : ByteArray} {l : List Rn} : delM g 0 ⟨s, l, false⟩ true = if goodT s l = true then (putM (shM g 8) ⟨s, l, false⟩ [1, 37], 0) else (g, 2) := by
  have hp : pIs 0 = false := by decide
  cases hg : goodT s l
  · have e : letM g 0 ⟨s, l, false⟩ = (g, true, 2) := if_pos (.inr hg)
    rw [if_neg (by decide), delM, if_pos (by rw [e]), e]
  · have e : letM g 0 ⟨s, l, false⟩ = (g, false, 0) := by unfold letM; rw [if_neg (by simp [hg]), if_pos hp]; rfl
    rw [if_pos rfl, delM_3 (by rw [e]), e]
/-- A text of the argument, and where its runs lie. -/
structure Tx where
  s : ByteArray
  l : List Rn
  A : Option Addr
  c : Nat
def txR (t : Tx) : List Value := [.string t.s, .slice t.A t.l.length t.c]
def tz : Tx := ⟨⟨#[]⟩, [], none, 0⟩
/-- What the numbered registers have: the last texts that went, the youngest first. -/
def RowP (g : List Hs) (G : List Tx) : Prop :=
  ∀ k, 1 ≤ k → k ≤ 9 → if k ≤ G.length then gd g k = ⟨true, (G.getD (G.length - k) tz).s, (G.getD (G.length - k) tz).l, false⟩ else (gd g k).is = false
theorem RowP.new : RowP (List.replicate 38 hz) [] := fun k h1 h9 => by
  rw [if_neg (by simp; omega)]
  unfold gd
  rw [List.getD_eq_getElem?_getD, List.getElem?_replicate, if_pos (by omega)]
  rfl
theorem RowP.step {g : List Hs} {G : List Tx} (h : RowP g G) (hn : g.length = 38) (t : Tx) : RowP (putM (shM g 8) ⟨t.s, t.l, false⟩ [1, 37]) (G ++ [t]) := fun k h1 h9 => by
  have hl : (shM g 8).length = 38 := by
    have : ∀ m, (shM g m).length = 38 := fun m => by
      induction m with
      | zero => exact hn
      | succ m ih => show ((shM g m).set _ _).length = 38; rw [List.length_set]; exact ih
    exact this 8
  have e : gd (putM (shM g 8) ⟨t.s, t.l, false⟩ [1, 37]) k = if k = 1 then ⟨true, t.s, t.l, false⟩ else gd g (k - 1) := by
    show gd (((shM g 8).set 1 _).set 37 _) k = _
    rw [gd_set, if_neg (by omega), gd_set, hl]
    by_cases c : k = 1
    · rw [if_pos (by omega), if_pos c]
    · rw [if_neg (by omega), if_neg c, shM_gd g hn 8 (by omega), if_pos (by omega)]
  rw [e, List.length_append, List.length_singleton]
  by_cases c : k = 1
  · subst c
    rw [if_pos (by omega), if_pos rfl]
    have : (G ++ [t]).getD (G.length + 1 - 1) tz = t := by simp
    rw [this]
  · have ih := h (k - 1) (by omega) (by omega)
    rw [if_neg c]
    by_cases c2 : k ≤ G.length + 1
    · rw [if_pos (by omega)] at ih
      rw [if_pos c2, ih]
      have : (G ++ [t]).getD (G.length + 1 - k) tz = G.getD (G.length - (k - 1)) tz := by
        rw [show G.length - (k - 1) = G.length + 1 - k by omega, List.getD_eq_getElem?_getD, List.getD_eq_getElem?_getD, List.getElem?_append_left (by omega)]
      rw [this]
    · rw [if_neg (by omega)] at ih
      rw [if_neg c2]
      exact ih
structure LR (w wr : World) (B : Nat) (g : List Hs) (G : List Tx) (v : Value) : Prop where
  st : ST w wr B g
  r : Kd.R (Kd.raw 2) 29 wr w.heap.size (fun _ => True) v (G.map txR)
theorem LR.below {w wr w' : World} {B : Nat} {g : List Hs} {G : List Tx} {v : Value} (h : LR w wr B g G v) (hb : Below wr.heap.size wr w') : LR w w' B g G v := ⟨h.st.below hb, Kd.R_below h.r hb⟩
/-- The texts of a list that are as the argument's world has them, and good. -/
def OldT (w : World) (G : List Tx) : Prop := ∀ t, t ∈ G → Kd.C k58 w t.A t.l.length t.l ∧ t.l.length ≤ t.c ∧ goodT t.s t.l = true
theorem rows_keep {w w' : World} {base B : Nat} {v : Value} {xs : List (List Value)} {cs : Array Value} (h : Kd.R (Kd.raw 2) 29 w base (fun _ => True) v xs) (hB : w.heap[B]? = some (.cells cs 53 (0, 0))) (hG : w.grownBy w' (some B)) : Kd.R (Kd.raw 2) 29 w' base (fun _ => True) v xs :=
  Kd.R_mono (Kd.R_step (Kd.R_types h hB (fun q hq => by
    rcases List.mem_cons.1 hq with e | e
    · rw [e]; decide
    · exact (List.not_mem_nil e).elim)) (fun k hk hlt => hG.block k hlt (fun e => hk.2 (by injection e)))) (fun _ hk => hk.1)
theorem LR.turn {w wr w' : World} {B : Nat} {g g' : List Hs} {G : List Tx} {v : Value} (h : LR w wr B g G v) (hs : ST w w' B g') (hG : wr.grownBy w' (some B)) : LR w w' B g' G v := by
  obtain ⟨vs, hr⟩ := h.st.rg
  exact ⟨hs, rows_keep h.r hr.x hG⟩
/-- Behind an append to a row of texts. -/
theorem RG.app {bs : Nat} {w w' : World} {base B : Nat} {g : List Hs} {vs : List Value} {v : Value} {xs : List (List Value)} (h : RG bs w B g vs) (hv : Kd.R (Kd.raw 2) 29 w base (fun _ => True) v xs) (hG : w.grownBy w' v.ownBlock) : RG bs w' B g vs := by
  have hty := (Kd.R_bound hv).1
  have ht : ∀ k, v.ownBlock = some k → ∃ cells, w.heap[k]? = some (.cells cells 29 (0, 0)) := fun k hk => by
    obtain ⟨-, -, -, q, hq, cells, hc⟩ := hty k hk
    rcases List.mem_cons.1 hq with e | e
    · subst e; exact ⟨cells, hc⟩
    · exact (List.not_mem_nil e).elim
  refine ⟨blk_grown h.x hG (fun e => ?_), h.n, h.m, fun i hi => ?_, Nat.le_trans h.lb hG.size⟩
  · obtain ⟨cells, hc⟩ := ht B e.symm
    rw [h.x] at hc
    cases hc
  · cases e : v.ownBlock with
    | none =>
      rw [e] at hG
      exact Kd.R_step (h.r i hi) (fun k _ hk => hG.block k hk (fun e => by cases e))
    | some p =>
      obtain ⟨cells, hc⟩ := ht p e
      rw [e] at hG
      exact Kd.R_mono (Kd.R_step (Kd.R_types (h.r i hi) hc (fun q hq => by
        rcases List.mem_cons.1 hq with e | e
        · rw [e]; decide
        · exact (List.not_mem_nil e).elim)) (fun k hk hlt => hG.block k hlt (fun e => hk.2 (by injection e)))) (fun _ hk => hk.1)
theorem LR.app {t : List Value} {w wr w' : World} {B : Nat} {g : List Hs} {G : List Tx} {v v' : Value} (h : LR w wr B g G v) (hG : wr.grownBy w' v.ownBlock) (hb : Below w.heap.size w w') (hr : Kd.R (Kd.raw 2) 29 w' w.heap.size (fun _ => True) v' (G.map txR ++ [t])) {tx : Tx} (e : t = txR tx) : LR w w' B g (G ++ [tx]) v' := by
  obtain ⟨vs, hR⟩ := h.st.rg
  refine ⟨⟨hb, h.st.le, h.st.gg, vs, hR.app h.r hG⟩, ?_⟩
  rw [List.map_append, List.map_singleton, ← e]
  exact hr
theorem cell_old {w W : World} (hb : Below w.heap.size w W) {a : Addr} {v : Value} (h : w.cell? a = some v) : W.cell? a = some v := by
  rw [hb.cell (p := a) ?_]
  · exact h
  · unfold World.cell? at h
    cases e : w.heap[a.block]? with
    | none => rw [e] at h; cases h
    | some o => exact (Array.getElem?_eq_some_iff.1 e).1
theorem LR.elem {w W : World} {B : Nat} {g : List Hs} {G : List Tx} {v : Value} (h : LR w W B g G v) (p : Nat) (hp : p < G.length) : ∃ ad c, v = .slice (some ad) G.length c ∧ W.cell? (ad.add (p * 2)) = some (.string (G.getD p tz).s) ∧ W.cell? ⟨(ad.add (p * 2)).block, (ad.add (p * 2)).off + 1, none⟩ = some (.slice (G.getD p tz).A (G.getD p tz).l.length (G.getD p tz).c) := by
  obtain ⟨A, c, e, hc, hC⟩ := Kd.R_reads h.r
  subst e
  obtain ⟨ad, cs, eA, hl, hK, hcell⟩ := Kd.C_get hC [] (p : Int) (by omega) (by rw [List.length_map]; omega)
  rw [Int.toNat_natCast] at hK hcell
  have ep : (G.map txR).getD p [] = txR (G.getD p tz) := by
    rw [List.getD_eq_getElem?_getD, List.getD_eq_getElem?_getD, List.getElem?_map, List.getElem?_eq_getElem hp]
    rfl
  rw [ep] at hK
  have ecs : cs = txR (G.getD p tz) := hK.1
  subst ecs
  refine ⟨ad, c, by rw [eA, List.length_map], hcell 0 _ rfl, ?_⟩
  rw [← add_field _ _ 1 (by omega)]
  exact hcell 1 _ rfl
theorem get_row {g : List Hs} {G : List Tx} (h : RowP g G) (j : Nat) (h1 : 1 ≤ j) (h9 : j ≤ 9) : getM g (48 + (j : Int)) = if j ≤ G.length then (⟨(G.getD (G.length - j) tz).s, (G.getD (G.length - j) tz).l, false⟩, 0) else (zEn, 6) := by
  have e : getI (48 + (j : Int)) = some j := by
    unfold getI
    have hp : pIs (48 + (j : Int)) = false := by unfold pIs; simp; omega
    rw [if_neg (by rw [hp]; decide), if_neg (by omega), if_neg (by omega), if_pos (by omega)]
    congr 1
    omega
  have hk := h j h1 h9
  unfold getM
  rw [e]
  by_cases c : j ≤ G.length
  · rw [if_pos c] at hk ⊢
    simp only [hk, if_true]
  · rw [if_neg c] at hk ⊢
    simp only [hk, if_false]
    rfl
set_option maxRecDepth 100000 in
set_option maxHeartbeats 16000000 in
theorem Row_w (A0 : Option Addr) (c0 : Nat) (l : List XRW.S29) (w : World) (hr : Kd.C XRW.k29 w A0 l.length l) (hc : l.length ≤ c0) (hl : ∀ x, x ∈ l → x.f1.length ≤ 9223372036854775807) :
    Calls Try.prog 3 #[.slice A0 l.length c0] w fun e w' => e = .returned (.bool true) ∧ Below w.heap.size w w' := by
  have HR := Aside0.mk hr
  have HAL := Aside0.mk (fun (w1 : World) => alive_w w1)
  clear hr
  go_enter Try.func3, Try.ntmps3
  go_wp2_with (first | (go_at_call 7; (with_reducible refine (HAL.out w).mono ?_); rintro e w1 ⟨rfl, hb1⟩; have HB1 := Aside0.mk hb1; clear hb1) | (go_at_call 8; (with_reducible refine (new_s w _ HB1.out).mono ?_); rintro e w2 ⟨rfl, hs2, -⟩; have HS2 := Aside0.mk hs2; clear hs2))
  go_loopw [4, 5] (fun vv ii wr => ∃ (q : Nat) (g : List Hs) (G : List Tx) (vq : Value), vq = vv ∧ ii = .int .i64 q ∧ q ≤ l.length ∧ q ≤ 40 ∧ Aside0 (G.length ≤ q) ∧ Aside0 (RowP g G) ∧ Aside0 (OldT w G) ∧ Aside0 (LR w wr w1.heap.size g G vq)) (fun _ ii _ => l.length - (intOf ii).toNat)
  case atStart => exact ⟨0, _, [], _, rfl, rfl, Nat.zero_le _, by decide, ⟨Nat.zero_le _⟩, ⟨RowP.new⟩, ⟨fun t ht => by cases ht⟩, ⟨⟨HS2.out, Kd.R_nil _ _ _ _ _⟩⟩⟩
  case round =>
    obtain ⟨q, g, G, vv, rfl, rfl, hq, hq40, HGQ, HRP, HOT, HL⟩ := hrel
    by_cases hex : q < l.length ∧ q < 40
    · obtain ⟨hql, hq4⟩ := hex
      obtain ⟨ad, A1, c1, eA, y0, y1, hc1, hC1⟩ := XRW.at_T29 HR.out (q : Int) (by omega) (by omega)
      cases eA
      rw [Int.toNat_natCast] at y0 y1
      have hC2 := C_cv hC1
      have hmx : (XRW.rd_T29 l (q : Int)).f1.length ≤ 9223372036854775807 := hl _ (by
        unfold XRW.rd_T29
        rw [Int.toNat_natCast, List.getD_eq_getElem?_getD, List.getElem?_eq_getElem hql]
        exact List.getElem_mem _)
      clear hC1
      generalize XRW.rd_T29 l (q : Int) = y at *
      obtain ⟨x, ym⟩ := y
      simp only at y0 y1 hc1 hC2 hmx
      rw [show ym.length = (ym.map cvR).length from (List.length_map _).symm] at y1 hc1 hC2 hmx
      generalize ym.map cvR = m at *
      have HZ := Aside0.mk (fun (W : World) (hb : Below w.heap.size w W) => (⟨cell_old hb y0, cell_old hb y1⟩ : _ ∧ _))
      have HFI := Aside0.mk (fun (W : World) (h : LR w W w1.heap.size g G vv) => bureaulaw04_Fits.calls x A1 c1 m _ W (Kd.C_below hC2 h.st.bl) hc1 (fit_f x m))
      have HGD := Aside0.mk (fun (W : World) (h : LR w W w1.heap.size g G vv) => bureauref04_Good.calls (2 * m.length + 5000) x A1 c1 m _ W (Kd.C_below hC2 h.st.bl) hc1 (dGood4 x m hmx _ (Nat.le_refl _)))
      obtain ⟨z0, z1⟩ := HZ.out wr HL.out.st.bl
      have HDE := Aside0.mk (fun (hf : m.length ≤ 5000) (W : World) (h : LR w W w1.heap.size g G vv) => (delete_s h.st ⟨x, m, false⟩ A1 c1 0 true (RA.of_old hC2 hc1 h.st.bl h.st.le) (by show m.length ≤ 100000; omega) (by decide) (by decide)).mono (fun e w' (k : _ ∧ ST w w' w1.heap.size (delM g 0 ⟨x, m, false⟩ true).1 ∧ W.grownBy w' (some w1.heap.size)) => (⟨k.1, h.turn k.2.1 k.2.2⟩ : _ ∧ LR w w' w1.heap.size (delM g 0 ⟨x, m, false⟩ true).1 G vv)))
      rw [del0] at HDE
      have HOX := Aside0.mk (⟨hC2, hc1⟩ : _ ∧ _)
      clear y0 y1 hC2
      cases hfi : fitB x m
      · have hng : goodT x m = false := by
          cases e : goodT x m
          · rfl
          · exfalso
            have h1 := good_len e
            obtain ⟨h2, h3⟩ := goodT_good e
            have h4 := good_n h2
            have h5 : fitB x m = true := decide_eq_true ⟨by omega, by omega⟩
            rw [h5] at hfi
            cases hfi
        rw [hfi] at HFI
        rw [hng] at HGD
        clear hfi hng HDE
        go_wp2_with (first | (go_at_call 9; (with_reducible refine (HFI.out _ HL.out).mono ?_); rintro e w3 ⟨rfl, hb3⟩; have HL := Aside0.mk (HL.out.below hb3); clear hb3 z0 z1; obtain ⟨z0, z1⟩ := HZ.out w3 HL.out.st.bl) | (go_at_call 11; (with_reducible refine (HGD.out _ HL.out).mono ?_); rintro e w4 ⟨rfl, hb4⟩; have HL := Aside0.mk (HL.out.below hb4); clear hb4 z0 z1))
        exact ⟨⟨q + 1, g, G, _, rfl, by go_num, by omega, by omega, ⟨Nat.le_succ_of_le HGQ.out⟩, HRP, HOT, HL⟩, by simp [intOf]; omega⟩
      · have hf5 : m.length ≤ 5000 := (of_decide_eq_true hfi : _ ∧ _).2
        have HDE := Aside0.mk (HDE.out hf5)
        rw [hfi] at HFI
        cases hgd : goodT x m
        · rw [hgd, if_neg (by decide)] at HDE
          rw [hgd] at HGD
          clear hfi hgd
          go_wp2_with (first | (go_at_call 9; (with_reducible refine (HFI.out _ HL.out).mono ?_); rintro e w3 ⟨rfl, hb3⟩; have HL := Aside0.mk (HL.out.below hb3); clear hb3 z0 z1; obtain ⟨z0, z1⟩ := HZ.out w3 HL.out.st.bl) | (go_at_call 11; (with_reducible refine (HGD.out _ HL.out).mono ?_); rintro e w4 ⟨rfl, hb4⟩; have HL := Aside0.mk (HL.out.below hb4); clear hb4 z0 z1) | (go_at_call 10; (with_reducible refine (HDE.out _ HL.out).mono ?_); rintro e w5 ⟨rfl, hl5⟩; have HL := Aside0.mk hl5; clear hl5 z0 z1; obtain ⟨z0, z1⟩ := HZ.out w5 HL.out.st.bl))
          exact ⟨⟨q + 1, g, G, _, rfl, by go_num, by omega, by omega, ⟨Nat.le_succ_of_le HGQ.out⟩, HRP, HOT, HL⟩, by simp [intOf]; omega⟩
        · rw [hgd, if_pos rfl] at HDE
          have HNW : Aside0 (RowP (putM (shM g 8) ⟨x, m, false⟩ [1, 37]) (G ++ [(⟨x, m, A1, c1⟩ : Tx)]) ∧ OldT w (G ++ [(⟨x, m, A1, c1⟩ : Tx)]) ∧ (G ++ [(⟨x, m, A1, c1⟩ : Tx)]).length ≤ q + 1) := ⟨HRP.out.step HL.out.st.gg.n ⟨x, m, A1, c1⟩, fun t ht => by
            rcases List.mem_append.1 ht with h | h
            · exact HOT.out t h
            · rw [List.mem_singleton.1 h]; exact ⟨HOX.out.1, HOX.out.2, hgd⟩, by have := HGQ.out; rw [List.length_append, List.length_singleton]; omega⟩
          clear hfi hgd HGD
          have hGl := HGQ.out
          go_wp2_with (first | (go_at_call 9; (with_reducible refine (HFI.out _ HL.out).mono ?_); rintro e w3 ⟨rfl, hb3⟩; have HL := Aside0.mk (HL.out.below hb3); clear hb3 z0 z1; obtain ⟨z0, z1⟩ := HZ.out w3 HL.out.st.bl) | (go_at_call 10; (with_reducible refine (HDE.out _ HL.out).mono ?_); rintro e w5 ⟨rfl, hl5⟩; have HL := Aside0.mk hl5; clear hl5 z0 z1; obtain ⟨z0, z1⟩ := HZ.out w5 HL.out.st.bl) | ((with_reducible refine gate_builtin (b := .append) (xs := #[.tmp 39, .tmp 44]) rfl ?_); at_builtin; refine Kd.R_append (Kd.raw 2) (w0 := w) w.heap.size rfl (.tmp 39) (.tmp 44) 22 29 (.agg #[(.string ⟨#[]⟩), (.slice none 0 0)]) 40 rfl Try.underlying22 (by kernel_rfl) rfl (by decide) (by omega) vv (G.map txR) (txR ⟨x, m, A1, c1⟩) [.string x, .slice A1 m.length c1] (fun _ => True) (fun _ => False) rfl ?aX ?aP (fun _ hk => hk.elim) ?aF ?aO ?aB ?aS ?aL ?_; (case aX => simp [Act.eval]); (case aP => exact ⟨rfl, rfl, fun u hu => by rcases List.mem_cons.1 hu with e | hu; (rw [e]; rfl); rcases List.mem_cons.1 hu with e | hu; (rw [e]; rfl); cases hu⟩); (case aB => exact HL.out.st.bl); (case aF => exact fun _ _ => trivial); (case aO => exact HL.out.r); (case aS => exact HL.out.st.bl.size); (case aL => rw [List.length_map]; omega); intro v1 w7 ho hb hg hat; have HL := Aside0.mk (HL.out.app hg hb ho rfl); clear ho hb hg hat z0 z1))
          exact ⟨⟨q + 1, _, G ++ [(⟨x, m, A1, c1⟩ : Tx)], _, rfl, by go_num, by omega, by omega, ⟨HNW.out.2.2⟩, ⟨HNW.out.1⟩, ⟨HNW.out.2.1⟩, HL⟩, by simp [intOf]; omega⟩
    · have hex2 : ¬ q < l.length ∨ (q < l.length ∧ ¬ q < 40) := by omega
      clear hl HR hc
      rcases hex2 with hx | ⟨hx, hx2⟩
      · have hx' : l.length ≤ q := by omega
        go_wp2
        go_loopw [6] (fun kk wr => ∃ j : Nat, kk = .int .i64 j ∧ 1 ≤ j ∧ j ≤ 10 ∧ Aside0 (LR w wr w1.heap.size g G vv)) (fun kk _ => 10 - (intOf kk).toNat)
        case atStart => exact ⟨1, rfl, by decide, by decide, HL⟩
        case round =>
          obtain ⟨j, rfl, hj1, hj10, HL⟩ := hrel
          by_cases hj9 : j ≤ 9
          · have hw1 : wrap64 (48 + (j : Int)) = 48 + (j : Int) := IntWalk.wrap64_in _ ⟨by omega, by omega⟩
            have hw2 : wrap32 (48 + (j : Int)) = 48 + (j : Int) := by unfold wrap32; omega
            have HGE := Aside0.mk (fun (W : World) (h : LR w W w1.heap.size g G vv) => get_s h.st (48 + (j : Int)) (by omega) (by omega))
            rw [get_row HRP.out j hj1 hj9] at HGE
            have hj9' : (j : Int) ≤ 9 := by omega
            by_cases hjg : j ≤ G.length
            · rw [if_pos hjg] at HGE
              obtain ⟨adv, cv, ev, -⟩ := HL.out.elem (G.length - j) (by omega)
              subst ev
              have hjg' : ¬ (G.length : Int) < (j : Int) := by omega
              have hw3 : wrap64 ((G.length : Int) - (j : Int)) = ((G.length - j : Nat) : Int) := by rw [IntWalk.wrap64_in _ ⟨by have := HGQ.out; omega, by have := HGQ.out; omega⟩]; omega
              have hw4 : IntKind.i64.wrap ((G.length : Int) - (j : Int)) = ((G.length - j : Nat) : Int) := by rw [show IntKind.i64.wrap ((G.length : Int) - (j : Int)) = wrap64 ((G.length : Int) - (j : Int)) from by unfold wrap64; exact IntKind.wrap_i64 _]; exact hw3
              have hi0 : (0 : Int) ≤ ((G.length - j : Nat) : Int) := by omega
              have hi1 : ((G.length - j : Nat) : Int) < (G.length : Int) := by omega
              have hot := HOT.out (G.getD (G.length - j) tz) (by
                rw [List.getD_eq_getElem?_getD, List.getElem?_eq_getElem (by omega)]
                exact List.getElem_mem _)
              have hlt := good_len hot.2.2
              have HEL : Aside0 (∀ W, LR w W w1.heap.size g G (.slice (some adv) G.length cv) → W.cell? (adv.add ((G.length - j) * 2)) = some (.string (G.getD (G.length - j) tz).s) ∧ W.cell? ⟨(adv.add ((G.length - j) * 2)).block, (adv.add ((G.length - j) * 2)).off + 1, none⟩ = some (.slice (G.getD (G.length - j) tz).A (G.getD (G.length - j) tz).l.length (G.getD (G.length - j) tz).c)) := ⟨fun W h => by
                obtain ⟨ad2, c2, e2, r1, r2⟩ := h.elem (G.length - j) (by omega)
                injection e2 with e2 _ _
                injection e2 with e2
                subst e2
                exact ⟨r1, r2⟩⟩
              generalize G.getD (G.length - j) tz = tx at *
              obtain ⟨ts, tl, tA, tc⟩ := tx
              dsimp only at hot hlt HEL HGE
              have HSA := Aside0.mk (fun (W : World) (A7 : Option Addr) (c7 : Nat) (h : LR w W w1.heap.size g G (.slice (some adv) G.length cv)) {base : Nat} (hr : Kd.R k58 58 W base (fun _ => True) (.slice A7 tl.length c7) tl) => bureauref04_Same.calls (tl.length + 1) ts A7 c7 tl ts tA tc tl true W (Kd.R_reads' hr).2.2 (Kd.R_reads' hr).2.1 (Kd.C_below hot.1 h.st.bl) hot.2.1 (same4 ts tl (by omega)))
              clear hot hlt
              generalize G.length - j = p at *
              generalize G.length = gn at *
              go_wp2_with (first | (go_at_call 12; (with_reducible refine (HGE.out _ HL.out).mono ?_); rintro e w5 ⟨A5, c5, rfl, hr5, hb5⟩; have HR5 := Aside0.mk hr5; have HL := Aside0.mk (HL.out.below hb5); clear hr5 hb5))
              have hb9 := below_alloc (Below.refl w5.heap.size w5) (.cells #[.string ts, .slice A5 tl.length c5, .bool false] 33)
              have HL9 := Aside0.mk (HL.out.below hb9)
              have HR9 := Aside0.mk (Kd.R_below HR5.out hb9)
              have HE9 := Aside0.mk (EX.new w5 ts (.slice A5 tl.length c5) false)
              generalize w5.heap.size = p5 at HE9 ⊢
              generalize w5.alloc (.cells #[.string ts, .slice A5 tl.length c5, .bool false] 33) = W9 at *
              have HS9 := Aside0.mk (⟨HE9.out.limbs, HEL.out _ HL9.out⟩ : _ ∧ _)
              obtain ⟨⟨a0, a1, a2⟩, z0, z1⟩ := HS9.out
              clear hb9 HL HR5
              go_region_held3 (fun w' => (w'.cell? ⟨p5, 0, none⟩ = some (.string ts) ∧ w'.cell? ⟨p5, 1, none⟩ = some (.slice A5 tl.length c5) ∧ w'.cell? ⟨p5, 2, none⟩ = some (.bool false)) ∧ w'.cell? (adv.add (p * 2)) = some (.string ts) ∧ w'.cell? ⟨(adv.add (p * 2)).block, (adv.add (p * 2)).off + 1, none⟩ = some (.slice tA tl.length tc)) (first | exact HS9.out | exact HP7.out) (first | (go_at_call 13; (with_reducible refine (HSA.out _ _ _ (HL9.out.below ?sb) (Kd.R_below HR9.out ?sb2)).mono ?_); (case sb => exact (by repeat (first | (with_reducible first | exact Below.refl _ _ | apply pw_below_drewN | apply below_alloc | apply below_drew) | exact Below.refl _ _))); (case sb2 => exact (by repeat (first | (with_reducible first | exact Below.refl _ _ | apply pw_below_drewN | apply below_alloc | apply below_drew) | exact Below.refl _ _))); rintro e w6 ⟨rfl, hb6⟩; have HB6 := Aside0.mk (below_step (by repeat (first | (with_reducible first | exact Below.refl _ _ | apply pw_below_drewN | apply below_alloc | apply below_drew) | exact Below.refl _ _)) hb6 : Below W9.heap.size W9 w6); have HL := Aside0.mk (HL9.out.below HB6.out); have HP7 := Aside0.mk (⟨(HE9.out.below HB6.out).limbs, HEL.out _ HL.out⟩ : _ ∧ _); clear hb6))
              all_goals (
                clear HP7 HS9 HB6 HL9 HE9 HR9
                go_wp2
                exact ⟨⟨j + 1, by go_num, by omega, by omega, HL⟩, by simp [intOf]; omega⟩)
            · rw [if_neg hjg] at HGE
              obtain ⟨A9, c9, e9⟩ := Kd.R_slice HL.out.r
              rw [List.length_map] at e9
              subst e9
              have hjg' : (G.length : Int) < (j : Int) := by omega
              go_wp2_with (first | (go_at_call 12; (with_reducible refine (HGE.out _ HL.out).mono ?_); rintro e w5 ⟨A5, c5, rfl, hr5, hb5⟩; have HR5 := Aside0.mk hr5; have HL := Aside0.mk (HL.out.below hb5); clear hr5 hb5))
              exact ⟨⟨j + 1, by go_num, by omega, by omega, ⟨HL.out.below (below_alloc (Below.refl _ _) _)⟩⟩, by simp [intOf]; omega⟩
          · have hj : j = 10 := by omega
            subst hj
            go_wp2
            go_ret
            exact ⟨rfl, HL.out.st.bl⟩
      · have hx' : (q : Int) < (l.length : Int) := by omega
        have hx2' : (40 : Int) ≤ (q : Int) := by omega
        go_wp2
        go_loopw [6] (fun kk wr => ∃ j : Nat, kk = .int .i64 j ∧ 1 ≤ j ∧ j ≤ 10 ∧ Aside0 (LR w wr w1.heap.size g G vv)) (fun kk _ => 10 - (intOf kk).toNat)
        case atStart => exact ⟨1, rfl, by decide, by decide, HL⟩
        case round =>
          obtain ⟨j, rfl, hj1, hj10, HL⟩ := hrel
          by_cases hj9 : j ≤ 9
          · have hw1 : wrap64 (48 + (j : Int)) = 48 + (j : Int) := IntWalk.wrap64_in _ ⟨by omega, by omega⟩
            have hw2 : wrap32 (48 + (j : Int)) = 48 + (j : Int) := by unfold wrap32; omega
            have HGE := Aside0.mk (fun (W : World) (h : LR w W w1.heap.size g G vv) => get_s h.st (48 + (j : Int)) (by omega) (by omega))
            rw [get_row HRP.out j hj1 hj9] at HGE
            have hj9' : (j : Int) ≤ 9 := by omega
            by_cases hjg : j ≤ G.length
            · rw [if_pos hjg] at HGE
              obtain ⟨adv, cv, ev, -⟩ := HL.out.elem (G.length - j) (by omega)
              subst ev
              have hjg' : ¬ (G.length : Int) < (j : Int) := by omega
              have hw3 : wrap64 ((G.length : Int) - (j : Int)) = ((G.length - j : Nat) : Int) := by rw [IntWalk.wrap64_in _ ⟨by have := HGQ.out; omega, by have := HGQ.out; omega⟩]; omega
              have hw4 : IntKind.i64.wrap ((G.length : Int) - (j : Int)) = ((G.length - j : Nat) : Int) := by rw [show IntKind.i64.wrap ((G.length : Int) - (j : Int)) = wrap64 ((G.length : Int) - (j : Int)) from by unfold wrap64; exact IntKind.wrap_i64 _]; exact hw3
              have hi0 : (0 : Int) ≤ ((G.length - j : Nat) : Int) := by omega
              have hi1 : ((G.length - j : Nat) : Int) < (G.length : Int) := by omega
              have hot := HOT.out (G.getD (G.length - j) tz) (by
                rw [List.getD_eq_getElem?_getD, List.getElem?_eq_getElem (by omega)]
                exact List.getElem_mem _)
              have hlt := good_len hot.2.2
              have HEL : Aside0 (∀ W, LR w W w1.heap.size g G (.slice (some adv) G.length cv) → W.cell? (adv.add ((G.length - j) * 2)) = some (.string (G.getD (G.length - j) tz).s) ∧ W.cell? ⟨(adv.add ((G.length - j) * 2)).block, (adv.add ((G.length - j) * 2)).off + 1, none⟩ = some (.slice (G.getD (G.length - j) tz).A (G.getD (G.length - j) tz).l.length (G.getD (G.length - j) tz).c)) := ⟨fun W h => by
                obtain ⟨ad2, c2, e2, r1, r2⟩ := h.elem (G.length - j) (by omega)
                injection e2 with e2 _ _
                injection e2 with e2
                subst e2
                exact ⟨r1, r2⟩⟩
              generalize G.getD (G.length - j) tz = tx at *
              obtain ⟨ts, tl, tA, tc⟩ := tx
              dsimp only at hot hlt HEL HGE
              have HSA := Aside0.mk (fun (W : World) (A7 : Option Addr) (c7 : Nat) (h : LR w W w1.heap.size g G (.slice (some adv) G.length cv)) {base : Nat} (hr : Kd.R k58 58 W base (fun _ => True) (.slice A7 tl.length c7) tl) => bureauref04_Same.calls (tl.length + 1) ts A7 c7 tl ts tA tc tl true W (Kd.R_reads' hr).2.2 (Kd.R_reads' hr).2.1 (Kd.C_below hot.1 h.st.bl) hot.2.1 (same4 ts tl (by omega)))
              clear hot hlt
              generalize G.length - j = p at *
              generalize G.length = gn at *
              go_wp2_with (first | (go_at_call 12; (with_reducible refine (HGE.out _ HL.out).mono ?_); rintro e w5 ⟨A5, c5, rfl, hr5, hb5⟩; have HR5 := Aside0.mk hr5; have HL := Aside0.mk (HL.out.below hb5); clear hr5 hb5))
              have hb9 := below_alloc (Below.refl w5.heap.size w5) (.cells #[.string ts, .slice A5 tl.length c5, .bool false] 33)
              have HL9 := Aside0.mk (HL.out.below hb9)
              have HR9 := Aside0.mk (Kd.R_below HR5.out hb9)
              have HE9 := Aside0.mk (EX.new w5 ts (.slice A5 tl.length c5) false)
              generalize w5.heap.size = p5 at HE9 ⊢
              generalize w5.alloc (.cells #[.string ts, .slice A5 tl.length c5, .bool false] 33) = W9 at *
              have HS9 := Aside0.mk (⟨HE9.out.limbs, HEL.out _ HL9.out⟩ : _ ∧ _)
              obtain ⟨⟨a0, a1, a2⟩, z0, z1⟩ := HS9.out
              clear hb9 HL HR5
              go_region_held3 (fun w' => (w'.cell? ⟨p5, 0, none⟩ = some (.string ts) ∧ w'.cell? ⟨p5, 1, none⟩ = some (.slice A5 tl.length c5) ∧ w'.cell? ⟨p5, 2, none⟩ = some (.bool false)) ∧ w'.cell? (adv.add (p * 2)) = some (.string ts) ∧ w'.cell? ⟨(adv.add (p * 2)).block, (adv.add (p * 2)).off + 1, none⟩ = some (.slice tA tl.length tc)) (first | exact HS9.out | exact HP7.out) (first | (go_at_call 13; (with_reducible refine (HSA.out _ _ _ (HL9.out.below ?sb) (Kd.R_below HR9.out ?sb2)).mono ?_); (case sb => exact (by repeat (first | (with_reducible first | exact Below.refl _ _ | apply pw_below_drewN | apply below_alloc | apply below_drew) | exact Below.refl _ _))); (case sb2 => exact (by repeat (first | (with_reducible first | exact Below.refl _ _ | apply pw_below_drewN | apply below_alloc | apply below_drew) | exact Below.refl _ _))); rintro e w6 ⟨rfl, hb6⟩; have HB6 := Aside0.mk (below_step (by repeat (first | (with_reducible first | exact Below.refl _ _ | apply pw_below_drewN | apply below_alloc | apply below_drew) | exact Below.refl _ _)) hb6 : Below W9.heap.size W9 w6); have HL := Aside0.mk (HL9.out.below HB6.out); have HP7 := Aside0.mk (⟨(HE9.out.below HB6.out).limbs, HEL.out _ HL.out⟩ : _ ∧ _); clear hb6))
              all_goals (
                clear HP7 HS9 HB6 HL9 HE9 HR9
                go_wp2
                exact ⟨⟨j + 1, by go_num, by omega, by omega, HL⟩, by simp [intOf]; omega⟩)
            · rw [if_neg hjg] at HGE
              obtain ⟨A9, c9, e9⟩ := Kd.R_slice HL.out.r
              rw [List.length_map] at e9
              subst e9
              have hjg' : (G.length : Int) < (j : Int) := by omega
              go_wp2_with (first | (go_at_call 12; (with_reducible refine (HGE.out _ HL.out).mono ?_); rintro e w5 ⟨A5, c5, rfl, hr5, hb5⟩; have HR5 := Aside0.mk hr5; have HL := Aside0.mk (HL.out.below hb5); clear hr5 hb5))
              exact ⟨⟨j + 1, by go_num, by omega, by omega, ⟨HL.out.below (below_alloc (Below.refl _ _) _)⟩⟩, by simp [intOf]; omega⟩
          · have hj : j = 10 := by omega
            subst hj
            go_wp2
            go_ret
            exact ⟨rfl, HL.out.st.bl⟩
def bureaulaw09_RegsRow.f (l0 : List XRW.S29) : Option Bool := if ∀ x, x ∈ l0 → x.f1.length ≤ 9223372036854775807 then some true else none
theorem bureaulaw09_RegsRow.calls (A0 : Option Addr) (c0 : Nat) (l0 : List XRW.S29) (r : Bool) (w : World) (hr0 : Kd.C XRW.k29 w A0 l0.length l0) (hc0 : l0.length ≤ c0) (h : bureaulaw09_RegsRow.f l0 = some r) :
    Calls Try.prog 3 #[.slice A0 l0.length c0] w fun e w' => e = .returned (.bool r) ∧ Below w.heap.size w w' := by
  unfold bureaulaw09_RegsRow.f at h
  by_cases hc : ∀ x, x ∈ l0 → x.f1.length ≤ 9223372036854775807
  · rw [if_pos hc] at h
    cases h
    exact Row_w A0 c0 l0 w hr0 hc0 hc
  · rw [if_neg hc] at h
    cases h

end Go.Proofs.Ytbcbfmhcoemnpaa.Ext
