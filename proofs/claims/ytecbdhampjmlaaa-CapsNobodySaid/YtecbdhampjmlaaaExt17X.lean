/- caps: CapsNobody, by its walk. -/
import Derived.Test.YtecbdhampjmlaaaExt17V
import Derived.Test.YtecbdhampjmlaaaXCapsActsx2
import Derived.Test.YtecbdhampjmlaaaXCNx0
import Derived.Test.YtecbdhampjmlaaaWMore
import Derived.WalkKit
import Derived.WalkMore
import Derived.Below
import Derived.KernelRfl
import Derived.LoopTactic
import Derived.Deep.RegionWith
import Derived.Deep.RegionHeld3
import Derived.IntWalk
import Derived.Deep.DeepCutAuto
import Derived.Deep.CutBlock
import Derived.BigQuiet
import Derived.Laws.RangeString
import Derived.Laws.RangeAny
import Derived.Laws.Rows
import Derived.Laws.Runes
import Derived.Lib.OthersKept
import Derived.OpenShut
set_option linter.unusedVariables false
set_option linter.unusedSimpArgs false
namespace Go.Proofs.Ytecbdhampjmlaaa.Ext
open Go.RowKit Go.Lib Go.Proofs.YtecbdhampjmlaaaW.PrintWords Go.Proofs.YtecbdhampjmlaaaW.PrintMore Go.Proofs.Ytecbdhampjmlaaa.XCapsActs

theorem liveFrom_len (l : List Sl) (i : Nat) : (liveFrom i l).length = lives l := by
  induction l generalizing i with
  | nil => rfl
  | cons s l ih =>
    unfold liveFrom lives
    rw [List.countP_cons]
    by_cases c : s.alive = true
    · rw [if_pos c, List.length_cons, ih, if_pos c]; rfl
    · rw [if_neg c, ih, if_neg c]; rfl
/-- The list of the alive ones, in the order of their slots: the rest from one on is what is alive at later slots. -/
structure Tb where
  r : Nat
  b : Nat
  l : List Sl
abbrev kP : Kd Nat := Kd.scalar (fun R => Value.pointer (some ⟨R, 0, none⟩)) (fun _ => rfl)
abbrev kW : Kd (List S39) := Kd.slice 39 k39
abbrev OB (v : Value) : Nat → Prop := fun k => v.ownBlock = some k
theorem ty_ne {w : World} {a b : Nat} {ca cb : Array Value} {ta tb : TypeId} (ha : w.heap[a]? = some (.cells ca ta (0, 0))) (hb : w.heap[b]? = some (.cells cb tb (0, 0))) (h : ta ≠ tb) : a ≠ b := fun e => by
  subst e
  rw [ha] at hb
  injection hb with hb
  injection hb with _ hb
  exact h hb
theorem tyR {α : Type} {d : Kd α} {e : TypeId} {w : World} {base : Nat} {ok : Nat → Prop} {v : Value} {xs : List α} (h : d.R e w base ok v xs) : ∀ k, v.ownBlock = some k → ∃ cells, w.heap[k]? = some (.cells cells e (0, 0)) := by
  obtain ⟨inner, ho⟩ := Kd.R_own h
  exact fun k hk => own_typed ho k hk
theorem keep_row2 {α : Type} {d : Kd α} {e base B : Nat} {ok : Nat → Prop} {w w' : World} {v : Value} {xs : List α} {cs : Array Value} {t : TypeId} (h : d.R e w base ok v xs) (hB : w.heap[B]? = some (.cells cs t (0, 0))) (ht : ∀ q, q ∈ e :: d.E → q ≠ t) (hG : w.grownBy w' (some B)) : d.R e w' base ok v xs :=
  Kd.R_mono (Kd.R_step (Kd.R_bound h) (fun k hk hlt => hG.block k hlt (fun eq => by
    injection eq with eq
    subst eq
    obtain ⟨q, hq, cells, hc⟩ := hk.2.2.2
    rw [hB] at hc
    injection hc with hc
    injection hc with _ hc2
    exact ht q hq hc2.symm))) (fun _ hk => hk.1)
theorem TRow.gr {α : Type} {d : Kd α} {e : TypeId} {w w' : World} {R B : Nat} {l : List Sl} {g : Int} {base : Nat} {ok : Nat → Prop} {v : Value} {xs : List α} (h : TRow w R B l g) (hv : d.R e w base ok v xs) (h1 : e ≠ 70) (h2 : e ≠ 76) (hG : w.grownBy w' v.ownBlock) : TRow w' R B l g := by
  obtain ⟨c, _, e1⟩ := h.t
  obtain ⟨rest, e2⟩ := h.b
  exact h.kept (hG.block R h.ltR (Kd.R_ne hv e1 h1)) (hG.block B h.ltB (Kd.R_ne hv e2 h2))
structure NS (w0 w : World) (ts : List Tb) (R B : Nat) (l : List Sl) (ov wv : Value) (ro : List Nat) (rs : List (List S39)) : Prop where
  cur : TRow w R B l 9
  hb : Below w0.heap.size w0 w
  sz : w0.heap.size ≤ B
  olds : ∀ t, t ∈ ts → TRow w t.r t.b t.l 9 ∧ t.b ≠ B
  os : Kd.R kP 25 w w0.heap.size (fun _ => True) ov ro
  ws : Kd.R kW 34 w w0.heap.size (fun _ => True) wv rs
section
variable {w0 w w' : World} {ts : List Tb} {R B : Nat} {l : List Sl} {ov wv : Value} {ro : List Nat} {rs : List (List S39)}
theorem NS.below (h : NS w0 w ts R B l ov wv ro rs) (hb : Below w.heap.size w w') : NS w0 w' ts R B l ov wv ro rs :=
  ⟨h.cur.below hb, below_step h.hb hb, h.sz, fun t ht => ⟨(h.olds t ht).1.below hb, (h.olds t ht).2⟩, Kd.R_below h.os hb, Kd.R_below h.ws hb⟩
theorem NS.alloc (h : NS w0 w ts R B l ov wv ro rs) (o : Obj) : NS w0 (w.alloc o) ts R B l ov wv ro rs := h.below (below_alloc (Below.refl _ _) _)
theorem NS.does {l' : List Sl} (h : NS w0 w ts R B l ov wv ro rs) (ht : TRow w' R B l' 9) (hG : w.grownBy w' (some B)) : NS w0 w' ts R B l' ov wv ro rs := by
  obtain ⟨rest, eb⟩ := h.cur.b
  refine ⟨ht, ⟨hG.os.trans h.hb.os, hG.tape.trans h.hb.tape, hG.output.trans h.hb.output, Nat.le_trans h.hb.size hG.size, fun k hk => (hG.block k (Nat.lt_of_lt_of_le hk h.hb.size) (fun e => by injection e with e; have := h.sz; omega)).trans (h.hb.block k hk)⟩, h.sz, fun t htm => ?_, keep_row2 h.os eb (by decide) hG, keep_row2 h.ws eb (by decide) hG⟩
  obtain ⟨h1, h2⟩ := h.olds t htm
  obtain ⟨c, _, e1⟩ := h1.t
  exact ⟨h1.kept (hG.block _ h1.ltR (fun e => ty_ne e1 eb (by decide) (by injection e))) (hG.block _ h1.ltB (fun e => h2 (by injection e))), h2⟩
theorem NS.addO {v1 : Value} {ro' : List Nat} (h : NS w0 w ts R B l ov wv ro rs) (ho : Kd.R kP 25 w' w0.heap.size (fun _ => True) v1 ro') (hb : Below w0.heap.size w0 w') (hg : w.grownBy w' ov.ownBlock) : NS w0 w' ts R B l v1 wv ro' rs :=
  ⟨h.cur.gr h.os (by decide) (by decide) hg, hb, h.sz, fun t ht => ⟨(h.olds t ht).1.gr h.os (by decide) (by decide) hg, (h.olds t ht).2⟩, ho, Kd.R_over' h.ws (tyR h.os) (by decide) hg⟩
theorem NS.addW {v1 : Value} {rs' : List (List S39)} (h : NS w0 w ts R B l ov wv ro rs) (ho : Kd.R kW 34 w' w0.heap.size (fun _ => True) v1 rs') (hb : Below w0.heap.size w0 w') (hg : w.grownBy w' wv.ownBlock) : NS w0 w' ts R B l ov v1 ro rs' :=
  ⟨h.cur.gr h.ws (by decide) (by decide) hg, hb, h.sz, fun t ht => ⟨(h.olds t ht).1.gr h.ws (by decide) (by decide) hg, (h.olds t ht).2⟩, Kd.R_over' h.os (tyR h.ws) (by decide) hg, ho⟩
theorem NS.turn {R' B' : Nat} (h : NS w0 w ts R B l ov wv ro rs) (hT : TRow w' R' B' l 9) (hb : Below w.heap.size w w') (hB : w.heap.size ≤ B') : NS w0 w' (ts ++ [⟨R, B, l⟩]) R' B' l ov wv ro rs := by
  refine ⟨hT, below_step h.hb hb, Nat.le_trans h.hb.size hB, fun t ht => ?_, Kd.R_below h.os hb, Kd.R_below h.ws hb⟩
  rcases List.mem_append.1 ht with ht | ht
  · have h1 := (h.olds t ht).1
    exact ⟨h1.below hb, by have := h1.ltB; omega⟩
  · rw [List.mem_singleton] at ht
    subst ht
    exact ⟨h.cur.below hb, by have := h.cur.ltB; simp only; omega⟩
end
theorem pt_get {w : World} {A : Option Addr} {n : Nat} {xs : List Nat} (hn : n = xs.length) (h : Kd.C kP w A n xs) (q : Nat) (hq : q < xs.length) : ∃ ad, A = some ad ∧ w.cell? (ad.add q) = some (.pointer (some ⟨xs[q], 0, none⟩)) := by
  subst hn
  obtain ⟨ad, c, e, _, hK, hc⟩ := Kd.C_get h 0 (q : Int) (by omega) (by omega)
  rw [Int.toNat_natCast, List.getD_eq_getElem?_getD, List.getElem?_eq_getElem hq] at hK
  have hc0 := hc 0 (.pointer (some ⟨xs[q], 0, none⟩)) (by rw [show c = [.pointer (some ⟨xs[q], 0, none⟩)] from hK]; rfl)
  rw [Int.toNat_natCast, show q * kP.sz + 0 = q from Nat.mul_one q] at hc0
  exact ⟨ad, e, hc0⟩
theorem sl_get {w : World} {A : Option Addr} {n : Nat} {xs : List (List S39)} (hn : n = xs.length) (h : Kd.C kW w A n xs) (q : Nat) (hq : q < xs.length) : ∃ (ad : Addr) (A2 : Option Addr) (c2 : Nat), A = some ad ∧ w.cell? (ad.add q) = some (.slice A2 xs[q].length c2) ∧ Kd.C k39 w A2 xs[q].length xs[q] := by
  subst hn
  obtain ⟨ad, c, e, _, hK, hc⟩ := Kd.C_get h [] (q : Int) (by omega) (by omega)
  rw [Int.toNat_natCast, List.getD_eq_getElem?_getD, List.getElem?_eq_getElem hq] at hK
  obtain ⟨A2, c2, e2, _, hr⟩ := hK
  have hc0 := hc 0 (.slice A2 xs[q].length c2) (by rw [e2]; rfl)
  rw [Int.toNat_natCast, show q * kW.sz + 0 = q from Nat.mul_one q] at hc0
  exact ⟨ad, A2, c2, e, hc0, hr⟩
attribute [local go_sem high] eqA28 eqA37 eqA39
theorem cell_b {a b : World} {c : Nat} (hg : Below c a b) {ad : Addr} {v : Value} (h : a.cell? ad = some v) (hlt : ad.block < c) : b.cell? ad = some v := (hg.cell hlt).trans h
def acOf (x : XCN.S32) : Ac := ⟨x.f0, x.f1.f0, x.f1.f1, x.f2, x.f3, x.f4, x.f5, x.f6⟩
theorem ap_ty {α β : Type} {d1 : Kd α} {d2 : Kd β} {e1 e2 : TypeId} {w : World} {b1 b2 : Nat} {o1 o2 : Nat → Prop} {v u : Value} {xs : List α} {ys : List β} (h1 : d1.R e1 w b1 o1 v xs) (h2 : d2.R e2 w b2 o2 u ys) (he : e1 ≠ e2) : ∀ k, OB v k → True ∧ some k ≠ u.ownBlock := fun k hk => ⟨trivial, fun e => by
  obtain ⟨c1, x1⟩ := tyR h1 k hk
  obtain ⟨c2, x2⟩ := tyR h2 k e.symm
  exact ty_ne x1 x2 he rfl⟩
theorem ob39 {w : World} {b : Nat} {o : Nat → Prop} {v : Value} {xs : List S39} (h : Kd.R k39 39 w b o v xs) : Kd.R k39 39 w b (OB v) v xs := by
  obtain ⟨_, inner, ho, hr⟩ := h
  exact ⟨fun k hk => hk, inner, ho, hr⟩
set_option maxRecDepth 100000 in
set_option maxHeartbeats 16000000 in
theorem Nobody_w (A1 : Option Addr) (c1 : Nat) (l1 : List XCN.S32) (w : World) (hr1 : Kd.C XCN.k32 w A1 l1.length l1) (hc1 : l1.length ≤ c1) (hlm : l1.length ≤ maxLen) (hk : ∀ x, x ∈ l1 → 0 ≤ x.f0 ∧ x.f0 ≤ 255) :
    Calls Try.prog 7 #[.slice A1 l1.length c1] w fun e w' => e = .returned (.bool true) ∧ Below w.heap.size w w' := by
  have hlm2 : l1.length ≤ 9223372036854775807 := hlm
  have HAL := Aside0.mk (alive_w w)
  have HN := Aside0.mk (fun (w1 : World) => New_w 9 9 w1 (by decide) (by decide))
  have HK := Aside0.mk hk
  have HR1 := Aside0.mk hr1
  clear hk hr1 hlm
  go_enter Try.func7, Try.ntmps7
  go_wp2_with (first
    | (go_at_call 8; (with_reducible refine HAL.out.mono ?_); rintro e w1 ⟨rfl, hb1⟩; have HB1 := Aside0.mk hb1; clear hb1))
  have hz : ((w1.alloc (.cells #[.slice none 0 0, .int .i64 0] 70)).alloc (.cells #[.pointer none, .pointer (some ⟨w1.heap.size, 0, none⟩)] 25)).heap[w1.heap.size]? = some (.cells #[.slice none 0 0, .int .i64 0] 70 (0, 0)) := by
    rw [Below.heap_alloc _ _ _ (by simp)]
    exact heap_alloc_new _ _
  have hy : ((w1.alloc (.cells #[.slice none 0 0, .int .i64 0] 70)).alloc (.cells #[.pointer none, .pointer (some ⟨w1.heap.size, 0, none⟩)] 25)).heap[w1.heap.size + 1]? = some (.cells #[.pointer none, .pointer (some ⟨w1.heap.size, 0, none⟩)] 25 (0, 0)) := by
    have := heap_alloc_new (w1.alloc (.cells #[.slice none 0 0, .int .i64 0] 70)) (.cells #[.pointer none, .pointer (some ⟨w1.heap.size, 0, none⟩)] 25)
    simpa using this
  have HBW := Aside0.mk (below_alloc (below_alloc HB1.out (.cells #[.slice none 0 0, .int .i64 0] 70)) (.cells #[.pointer none, .pointer (some ⟨w1.heap.size, 0, none⟩)] 25))
  generalize ((w1.alloc (.cells #[.slice none 0 0, .int .i64 0] 70)).alloc (.cells #[.pointer none, .pointer (some ⟨w1.heap.size, 0, none⟩)] 25)) = wb at hz hy HBW ⊢
  generalize w1.heap.size = Z at hz hy ⊢
  have HZ := Aside0.mk hz
  have HY := Aside0.mk hy
  clear hz hy HB1
  go_loopw [26] (fun ii wr => ∃ (wr1 : World) (q : Nat), wr1 = wr ∧ ii = .int .i64 q ∧ q ≤ 2 ∧ Aside0 (Below wb.heap.size wb wr1)) (fun ii _ => 2 - (intOf ii).toNat)
  case atStart => exact ⟨_, 0, rfl, rfl, by omega, ⟨Below.refl _ _⟩⟩
  case round =>
    obtain ⟨wr1, q, rfl, rfl, hq, HB⟩ := hrel
    have hy := (HB.out.block _ (Array.getElem?_eq_some_iff.1 HY.out).1).trans HY.out
    have hz := (HB.out.block _ (Array.getElem?_eq_some_iff.1 HZ.out).1).trans HZ.out
    obtain ⟨y0, y1, -, -⟩ := tok_lay hy
    clear hy
    by_cases hq0 : q = 0
    · have hno := Nob.nil wr1
      subst hq0
      clear hz
      have HNO := Aside0.mk hno
      clear hno
      go_wp2_with (first | (go_at_call 15; (with_reducible refine (Mint_no _ _ _ _ _ (HNO.out.below (Below.refl _ _))).mono ?_); rintro e w3 ⟨rfl, hb3⟩; have HB3 := Aside0.mk hb3; clear hb3) | (go_at_call 17; (with_reducible refine (Derive_no _ _ _ _ _ _ _ (HNO.out.below (below_alloc HB3.out _))).mono ?_); rintro e w4 ⟨rfl, hb4⟩; have hx3 := (hb4.block w3.heap.size (by simp)).trans (heap_alloc_new w3 _); have hl4 : w3.heap.size < w4.heap.size := (Array.getElem?_eq_some_iff.1 hx3).1; obtain ⟨a0, a1, -, -⟩ := tok_lay hx3; have HX4 := Aside0.mk hx3; have HB4 := Aside0.mk (below_step (below_alloc HB3.out _) hb4); clear hb4 hx3) | (go_at_call 14; (with_reducible refine (Revoke_no _ _ _ _ (HNO.out.below (below_alloc HB4.out _))).mono ?_); rintro e w5 ⟨rfl, hb5⟩; have hy4 := (hb5.block w4.heap.size (by simp)).trans (heap_alloc_new w4 _); have hx3 := (hb5.block w3.heap.size (Nat.lt_trans hl4 (by simp))).trans ((Below.heap_alloc w4 _ _ hl4).trans HX4.out); clear a0 a1; obtain ⟨a0, a1, -, -⟩ := tok_lay hx3; obtain ⟨d0, d1, -, -⟩ := tok_lay hy4; have hl5 : w4.heap.size < w5.heap.size := (Array.getElem?_eq_some_iff.1 hy4).1; have HX5 := Aside0.mk hx3; have HY5 := Aside0.mk hy4; have HB5 := Aside0.mk (below_step (below_alloc HB4.out _) hb5); clear hb5 hx3 hy4) | (go_at_call 13; (with_reducible refine (Look_no _ _ _ _ _ _ (HNO.out.below HB5.out)).mono ?_); rintro e w6 ⟨rfl, hb6⟩; have hy4 := (hb6.block w4.heap.size hl5).trans HY5.out; have hx3 := (hb6.block w3.heap.size (Nat.lt_trans hl4 hl5)).trans HX5.out; have hl6 : w4.heap.size < w6.heap.size := (Array.getElem?_eq_some_iff.1 hy4).1; have hl36 : w3.heap.size < w6.heap.size := Nat.lt_trans hl4 hl6; clear a0 a1 d0 d1; obtain ⟨a0, a1, -, -⟩ := tok_lay hx3; obtain ⟨d0, d1, -, -⟩ := tok_lay hy4; have HB6 := Aside0.mk (below_step HB5.out hb6); clear hb6 hx3 hy4) | (go_at_call 12; (with_reducible refine (Live_no _ _ (HNO.out.below (below_alloc HB6.out _))).mono ?_); rintro e w7 ⟨rfl, hb7⟩; have HB7 := Aside0.mk (below_step (below_alloc HB6.out _) hb7); clear hb7) | (go_at_call 23; (with_reducible refine (Free_no _ _ (HNO.out.below HB7.out)).mono ?_); rintro e w8 ⟨rfl, hb8⟩; have HB8 := Aside0.mk (below_step HB7.out hb8); clear hb8) | (go_at_call 25; (with_reducible refine (Copy_no _ _ (HNO.out.below HB8.out)).mono ?_); rintro e w9 ⟨rfl, hb9⟩; have HB9 := Aside0.mk (below_step HB8.out hb9); clear hb9))
      exact ⟨⟨_, 1, rfl, rfl, by omega, ⟨below_step HB.out HB9.out⟩⟩, by simp [intOf]⟩
    by_cases hq1 : q = 1
    · have hno := Nob.zero hz
      subst hq1
      clear hz hq0
      have HNO := Aside0.mk hno
      clear hno
      go_wp2_with (first | (go_at_call 15; (with_reducible refine (Mint_no _ _ _ _ _ (HNO.out.below (Below.refl _ _))).mono ?_); rintro e w3 ⟨rfl, hb3⟩; have HB3 := Aside0.mk hb3; clear hb3) | (go_at_call 17; (with_reducible refine (Derive_no _ _ _ _ _ _ _ (HNO.out.below (below_alloc HB3.out _))).mono ?_); rintro e w4 ⟨rfl, hb4⟩; have hx3 := (hb4.block w3.heap.size (by simp)).trans (heap_alloc_new w3 _); have hl4 : w3.heap.size < w4.heap.size := (Array.getElem?_eq_some_iff.1 hx3).1; obtain ⟨a0, a1, -, -⟩ := tok_lay hx3; have HX4 := Aside0.mk hx3; have HB4 := Aside0.mk (below_step (below_alloc HB3.out _) hb4); clear hb4 hx3) | (go_at_call 14; (with_reducible refine (Revoke_no _ _ _ _ (HNO.out.below (below_alloc HB4.out _))).mono ?_); rintro e w5 ⟨rfl, hb5⟩; have hy4 := (hb5.block w4.heap.size (by simp)).trans (heap_alloc_new w4 _); have hx3 := (hb5.block w3.heap.size (Nat.lt_trans hl4 (by simp))).trans ((Below.heap_alloc w4 _ _ hl4).trans HX4.out); clear a0 a1; obtain ⟨a0, a1, -, -⟩ := tok_lay hx3; obtain ⟨d0, d1, -, -⟩ := tok_lay hy4; have hl5 : w4.heap.size < w5.heap.size := (Array.getElem?_eq_some_iff.1 hy4).1; have HX5 := Aside0.mk hx3; have HY5 := Aside0.mk hy4; have HB5 := Aside0.mk (below_step (below_alloc HB4.out _) hb5); clear hb5 hx3 hy4) | (go_at_call 13; (with_reducible refine (Look_no _ _ _ _ _ _ (HNO.out.below HB5.out)).mono ?_); rintro e w6 ⟨rfl, hb6⟩; have hy4 := (hb6.block w4.heap.size hl5).trans HY5.out; have hx3 := (hb6.block w3.heap.size (Nat.lt_trans hl4 hl5)).trans HX5.out; have hl6 : w4.heap.size < w6.heap.size := (Array.getElem?_eq_some_iff.1 hy4).1; have hl36 : w3.heap.size < w6.heap.size := Nat.lt_trans hl4 hl6; clear a0 a1 d0 d1; obtain ⟨a0, a1, -, -⟩ := tok_lay hx3; obtain ⟨d0, d1, -, -⟩ := tok_lay hy4; have HB6 := Aside0.mk (below_step HB5.out hb6); clear hb6 hx3 hy4) | (go_at_call 12; (with_reducible refine (Live_no _ _ (HNO.out.below (below_alloc HB6.out _))).mono ?_); rintro e w7 ⟨rfl, hb7⟩; have HB7 := Aside0.mk (below_step (below_alloc HB6.out _) hb7); clear hb7) | (go_at_call 23; (with_reducible refine (Free_no _ _ (HNO.out.below HB7.out)).mono ?_); rintro e w8 ⟨rfl, hb8⟩; have HB8 := Aside0.mk (below_step HB7.out hb8); clear hb8) | (go_at_call 25; (with_reducible refine (Copy_no _ _ (HNO.out.below HB8.out)).mono ?_); rintro e w9 ⟨rfl, hb9⟩; have HB9 := Aside0.mk (below_step HB8.out hb9); clear hb9))
      exact ⟨⟨_, 2, rfl, rfl, by omega, ⟨below_step HB.out HB9.out⟩⟩, by simp [intOf]⟩
    have hqg : 2 ≤ q := by omega
    clear hq0 hq1 hz
    go_wp2_with (first
      | (go_at_call 9; (with_reducible refine (HN.out _).mono ?_); rintro e w2 ⟨R, B, hR, hB, rfl, hT2, hb2⟩; have HT2 := Aside0.mk hT2; have HB2 := Aside0.mk hb2; clear hT2 hb2))
    have HS0 : Aside0 (NS w w2 [] R B (List.replicate (9 : Int).toNat sl0) (.slice none 0 0) (.slice none 0 0) [] []) := ⟨⟨HT2.out, below_step (below_step HBW.out HB.out) HB2.out, Nat.le_trans HBW.out.size (Nat.le_trans HB.out.size hB), fun t h => (List.not_mem_nil h).elim, Kd.R_nil _ _ _ _ _, Kd.R_nil _ _ _ _ _⟩⟩
    clear HT2 HB2 HB HBW HZ HY
    go_loopw [13, 14, 15, 16] (fun tt oo ww ii wr => ∃ (wr2 : World) (ts : List Tb) (R B : Nat) (l : List Sl) (ov wv : Value) (k : Nat), wr2 = wr ∧ tt = .pointer (some ⟨R, 0, none⟩) ∧ ov = oo ∧ wv = ww ∧ ii = .int .i64 k ∧ k ≤ l1.length ∧ ts.length ≤ 8 ∧ Aside0 (NS w wr2 ts R B l ov wv (ts.map (·.r)) (ts.map (fun t => (liveZ t.l).map s39)))) (fun _ _ _ ii _ => l1.length - (intOf ii).toNat)
    case atStart => exact ⟨_, [], R, B, _, _, _, 0, rfl, rfl, rfl, rfl, rfl, Nat.zero_le _, by simp, HS0⟩
    case round =>
      clear HS0
      obtain ⟨wr2, ts, R, B, l, ov, wv, k, rfl, rfl, rfl, rfl, rfl, hk, hts, HS⟩ := hrel
      by_cases hkl : k < l1.length
      · by_cases hk60 : k < 60
        · obtain ⟨ad, eA, hx0, hx1, hx2, hx3, hx4, hx5, hx6, hx7⟩ := XCN.at_T32 HR1.out (k : Int) (by omega) (by omega)
          cases eA
          rw [Int.toNat_natCast] at hx0 hx1 hx2 hx3 hx4 hx5 hx6 hx7
          have hlt : (ad.add (k * 8)).block < w.heap.size := by
            have := Kd.C_lt HR1.out (by omega) (by decide)
            unfold Addr.add
            split <;> exact this
          have hm : XCN.rd_T32 l1 (k : Int) ∈ l1 := by
            unfold XCN.rd_T32
            rw [Int.toNat_natCast, List.getD_eq_getElem?_getD, List.getElem?_eq_getElem hkl]
            exact List.getElem_mem hkl
          have hkk := HK.out _ hm
          generalize XCN.rd_T32 l1 (k : Int) = x at hx0 hx1 hx2 hx3 hx4 hx5 hx6 hx7 hkk
          have HXC := Aside0.mk (⟨hx0, hx1, hx2, hx3, hx4, hx5, hx6, hx7⟩ : _ ∧ _ ∧ _ ∧ _ ∧ _ ∧ _ ∧ _ ∧ _)
          have hx7 := cell_b HS.out.hb hx7 hlt
          have HLT := Aside0.mk hlt
          clear hm hlt hx0 hx1 hx2 hx3 hx4 hx5 hx6
          obtain ⟨Ao, co, eo⟩ := Kd.R_slice HS.out.os
          rw [List.length_map] at eo
          subst eo
          have HLV := Aside0.mk (fun (w1 : World) (h : TRow w1 R B l 9) => Live_w R B l 9 w1 h)
          have HCP := Aside0.mk (fun (w1 : World) (h : TRow w1 R B l 9) => Copy_w R B l 9 w1 h)
          generalize x.f6 = fo at hx7
          go_upto_region 21 with (fail)
          go_cut [128] from 119 to 128 (fun b wc => wc = wr2 ∧ b = .bool (fo && decide ((ts.length : Int) < 8)))
          case first =>
            cases fo
            · go_wp2
              go_meet
              case rel => exact ⟨rfl, rfl⟩
            · go_wp2
              go_meet
              case rel => exact ⟨rfl, rfl⟩
          case rest =>
          obtain ⟨rfl, rfl⟩ := hcut
          go_upto_if 128 with (fail)
          go_cut [13, 14, 15] (fun tt oo ww wc => ∃ (wc1 : World) (ts' : List Tb) (R' B' : Nat) (ov' wv' : Value), wc1 = wc ∧ tt = .pointer (some ⟨R', 0, none⟩) ∧ ov' = oo ∧ wv' = ww ∧ ts'.length ≤ 8 ∧ Aside0 (NS w wc1 ts' R' B' l ov' wv' (ts'.map (·.r)) (ts'.map (fun t => (liveZ t.l).map s39))))
          case first =>
            cases hb : (fo && decide ((ts.length : Int) < 8))
            · go_wp2
              go_meet
              case rel => exact ⟨_, ts, R, B, _, _, rfl, rfl, rfl, rfl, hts, HS⟩
            · have h8 : ts.length < 8 := by
                rw [Bool.and_eq_true, decide_eq_true_eq] at hb
                omega
              clear hb hx7
              go_wp2_with (first | ((with_reducible refine gate_builtin (b := .append) (xs := #[.tmp 129, .tmp 131]) rfl ?_); at_builtin; refine Kd.R_append kP (w0 := w) w.heap.size rfl (.tmp 129) (.tmp 131) 71 25 (.pointer none) 8 rfl Try.underlying71 (by kernel_rfl) rfl (by decide) (by omega) (.slice Ao ts.length co) (ts.map (·.r)) R [.pointer (some ⟨R, 0, none⟩)] (fun _ => True) (fun _ => False) rfl ?aX ?aP (fun _ hk => hk.elim) ?aF ?aO ?aB ?aS ?aL ?_; (case aX => simp [Act.eval]); (case aP => exact rfl); (case aB => exact HS.out.hb); (case aF => exact fun _ _ => trivial); (case aO => exact HS.out.os); (case aS => exact HS.out.hb.size); (case aL => simp; omega); intro v1 w3 ho hb hg hat; have HS3 := Aside0.mk (HS.out.addO ho hb hg); clear ho hb hg hat) | (go_at_call 12; (with_reducible refine (HLV.out _ HS3.out.cur).mono ?_); rintro e w4 ⟨v5, rfl, hR5, hb5⟩; obtain ⟨A5, c5, e5⟩ := Kd.R_slice hR5; rw [List.length_map] at e5; subst e5; have HS4 := Aside0.mk (HS3.out.below hb5); have HR5 := Aside0.mk (ob39 (Kd.R_lower hR5 HS3.out.hb.size)); clear hR5 hb5) | ((with_reducible refine gate_builtin (b := .append) (xs := #[.tmp 133, .tmp 136]) rfl ?_); at_builtin; refine Kd.R_append kW (w0 := w) w.heap.size rfl (.tmp 133) (.tmp 136) 73 34 (.slice none 0 0) 24 rfl Try.underlying73 (by kernel_rfl) rfl (by decide) (by omega) wv (ts.map (fun t => (liveZ t.l).map s39)) ((liveZ l).map s39) [.slice A5 (liveZ l).length c5] (fun _ => True) (OB (.slice A5 (liveZ l).length c5)) rfl ?aX ?aP ?aK ?aF ?aO ?aB ?aS ?aL ?_; (case aX => simp [Act.eval]); (case aP => exact ⟨_, rfl, HR5.out⟩); (case aK => exact ap_ty HR5.out HS4.out.ws (by decide)); (case aB => exact HS4.out.hb); (case aF => exact fun _ _ => trivial); (case aO => exact HS4.out.ws); (case aS => exact HS4.out.hb.size); (case aL => simp; omega); intro v2 w5 ho hb hg hat; have HS5 := Aside0.mk (HS4.out.addW ho hb hg); clear ho hb hg hat) | (go_at_call 25; (with_reducible refine (HCP.out _ HS5.out.cur).mono ?_); rintro e w6 ⟨R', B', rfl, hR6, hB6, hT6, hb6⟩; have HS6 := Aside0.mk (HS5.out.turn hT6 hb6 hB6); clear hR6 hB6 hT6 hb6))
              go_meet
              case rel => exact ⟨_, ts ++ [⟨R, B, l⟩], R', B', _, _, rfl, rfl, rfl, rfl, by simp; omega, ⟨by rw [List.map_append, List.map_append]; exact HS6.out⟩⟩
          case rest =>
            clear HS HLV HCP hx7
            obtain ⟨wc1, ts', R', B', ov', wv', rfl, rfl, rfl, rfl, hts', HS'⟩ := hcut
            obtain ⟨hx0, hx1, hx2, hx3, hx4, hx5, hx6, hx7⟩ := HXC.out
            have hx0 := cell_b HS'.out.hb hx0 HLT.out
            have hx1 := cell_b HS'.out.hb hx1 HLT.out
            have hx2 := cell_b HS'.out.hb hx2 HLT.out
            have hx3 := cell_b HS'.out.hb hx3 HLT.out
            have hx4 := cell_b HS'.out.hb hx4 HLT.out
            have hx5 := cell_b HS'.out.hb hx5 HLT.out
            have hx6 := cell_b HS'.out.hb hx6 HLT.out
            have hx7 := cell_b HS'.out.hb hx7 HLT.out
            have HD := Aside0.mk (fun (w1 : World) (h : TRow w1 R' B' l 9) => does_w R' B' l 9 (acOf x) w1 h hkk)
            unfold acOf at HD
            generalize doesZ 9 l _ = z at HD
            obtain ⟨l3, tk, tg, tb⟩ := z
            go_wp2_with (first | (go_at_call 10; (with_reducible refine (HD.out _ HS'.out.cur).mono ?_); rintro e w7 ⟨rfl, hT7, hG7⟩; have HS7 := Aside0.mk (HS'.out.does hT7 hG7); clear hT7 hG7))
            exact ⟨⟨_, ts', R', B', l3, _, _, k + 1, rfl, rfl, rfl, rfl, by go_num, by omega, hts', HS7⟩, by simp [intOf]; omega⟩
        · have hge : 60 ≤ k := by omega
          obtain ⟨Ao, co, eo⟩ := Kd.R_slice HS.out.os
          rw [List.length_map] at eo
          subst eo
          obtain ⟨Aw, cw, ew⟩ := Kd.R_slice HS.out.ws
          rw [List.length_map] at ew
          subst ew
          go_wp2
          go_loopw [150] (fun ii wr => ∃ (wr3 : World) (q : Nat), wr3 = wr ∧ ii = .int .i64 q ∧ q ≤ ts.length ∧ Aside0 (Below wr2.heap.size wr2 wr3)) (fun ii _ => ts.length - (intOf ii).toNat)
          case atStart => exact ⟨_, 0, rfl, rfl, Nat.zero_le _, ⟨Below.refl _ _⟩⟩
          case round =>
            obtain ⟨wr3, q, rfl, rfl, hq, HB3⟩ := hrel
            have HS3 := Aside0.mk (HS.out.below HB3.out)
            by_cases hql : q < ts.length
            · obtain ⟨ad0, eA0, hp0⟩ := pt_get rfl (Kd.R_reads' HS3.out.os).2.2 q (by rw [List.length_map]; exact hql)
              cases eA0
              rw [List.getElem_map] at hp0
              have htm := List.getElem_mem hql
              generalize htq : ts[q] = t at hp0 htm
              have HTQ := Aside0.mk htq
              have HT3 := Aside0.mk (HS3.out.olds t htm).1
              have HLV := Aside0.mk (fun (w1 : World) (h : TRow w1 t.r t.b t.l 9) => Live_w t.r t.b t.l 9 w1 h)
              have hll : (liveZ t.l).length ≤ 64 := by
                have h1 := HT3.out.n
                have h2 : (liveZ t.l).length ≤ t.l.length := by rw [show (liveZ t.l).length = lives t.l from liveFrom_len t.l 0]; exact lives_len t.l
                omega
              clear htq htm
              go_wp2_with (first | (go_at_call 12; (with_reducible refine (HLV.out _ HT3.out).mono ?_); rintro e w6 ⟨v6, rfl, hR6, hb6⟩; obtain ⟨A6, c6, e6⟩ := Kd.R_slice hR6; rw [List.length_map] at e6; subst e6; have HB6 := Aside0.mk hb6; have HR6 := Aside0.mk (Kd.R_mono hR6 (ok' := fun _ => True) (fun _ _ => trivial)); have HS6 := Aside0.mk (HS3.out.below hb6); obtain ⟨ad1, A2, c2, eA1, hv, -⟩ := sl_get rfl (Kd.R_reads' HS6.out.ws).2.2 q (by rw [List.length_map]; exact hql); rw [List.getElem_map, HTQ.out, List.length_map] at hv; cases eA1; clear hR6 hb6))
              go_loopw [168] (fun ii wr => ∃ (wr4 : World) (p : Nat), wr4 = wr ∧ ii = .int .i64 p ∧ p ≤ (liveZ t.l).length ∧ Aside0 (Below w6.heap.size w6 wr4)) (fun ii _ => (liveZ t.l).length - (intOf ii).toNat)
              case atStart => exact ⟨_, 0, rfl, rfl, Nat.zero_le _, ⟨Below.refl _ _⟩⟩
              case round =>
                obtain ⟨wr4, p, rfl, rfl, hp, HB4⟩ := hrel
                have hS4 := HS6.out.below HB4.out
                by_cases hpl : p < (liveZ t.l).length
                · have hpm : p < ((liveZ t.l).map s39).length := by rw [List.length_map]; exact hpl
                  obtain ⟨ad1, A2, c2, eA, hv, hr⟩ := sl_get rfl (Kd.R_reads' hS4.ws).2.2 q (by rw [List.length_map]; exact hql)
                  rw [List.getElem_map, HTQ.out] at hv hr
                  cases eA
                  obtain ⟨ad2, eA2, g0, g1, g2, g3, g4, g5, g6⟩ := at_T39 hr (p : Int) (by omega) (by omega)
                  cases eA2
                  obtain ⟨ad3, eA3, k0, k1, k2, k3, k4, k5, k6⟩ := at_T39 (Kd.R_reads' (Kd.R_below HR6.out HB4.out)).2.2 (p : Int) (by omega) (by omega)
                  cases eA3
                  rw [Int.toNat_natCast] at g0 g1 g2 g3 g4 g5 g6 k0 k1 k2 k3 k4 k5 k6
                  rw [List.length_map] at hv
                  have cpl : ((p : Int) < ((liveZ t.l).length : Int)) = True := eq_true (by omega)
                  generalize rd_T39 ((liveZ t.l).map s39) (p : Int) = y at g0 g1 g2 g3 g4 g5 g6 k0 k1 k2 k3 k4 k5 k6
                  clear hr hS4 hpm
                  go_wp2
                  go_quiet (fail)
                  go_wp2
                  exact ⟨⟨_, p + 1, rfl, by go_num, by omega, ⟨(by repeat (first | (with_reducible first | exact HB4.out | apply pw_below_drewN | apply below_alloc | apply below_drew) | exact HB4.out))⟩⟩, by simp [intOf]; omega⟩
                · have hpg : (liveZ t.l).length ≤ p := by omega
                  clear hS4
                  go_wp2
                  exact ⟨⟨_, q + 1, rfl, by go_num, by omega, ⟨below_step HB3.out (below_step HB6.out HB4.out)⟩⟩, by simp [intOf]; omega⟩
            · have hqg : ts.length ≤ q := by omega
              go_wp2
              go_ret
              exact ⟨rfl, (HS.out.below HB3.out).hb⟩
      · have hge : l1.length ≤ k := by omega
        obtain ⟨Ao, co, eo⟩ := Kd.R_slice HS.out.os
        rw [List.length_map] at eo
        subst eo
        obtain ⟨Aw, cw, ew⟩ := Kd.R_slice HS.out.ws
        rw [List.length_map] at ew
        subst ew
        go_wp2
        go_loopw [150] (fun ii wr => ∃ (wr3 : World) (q : Nat), wr3 = wr ∧ ii = .int .i64 q ∧ q ≤ ts.length ∧ Aside0 (Below wr2.heap.size wr2 wr3)) (fun ii _ => ts.length - (intOf ii).toNat)
        case atStart => exact ⟨_, 0, rfl, rfl, Nat.zero_le _, ⟨Below.refl _ _⟩⟩
        case round =>
          obtain ⟨wr3, q, rfl, rfl, hq, HB3⟩ := hrel
          have HS3 := Aside0.mk (HS.out.below HB3.out)
          by_cases hql : q < ts.length
          · obtain ⟨ad0, eA0, hp0⟩ := pt_get rfl (Kd.R_reads' HS3.out.os).2.2 q (by rw [List.length_map]; exact hql)
            cases eA0
            rw [List.getElem_map] at hp0
            have htm := List.getElem_mem hql
            generalize htq : ts[q] = t at hp0 htm
            have HTQ := Aside0.mk htq
            have HT3 := Aside0.mk (HS3.out.olds t htm).1
            have HLV := Aside0.mk (fun (w1 : World) (h : TRow w1 t.r t.b t.l 9) => Live_w t.r t.b t.l 9 w1 h)
            have hll : (liveZ t.l).length ≤ 64 := by
              have h1 := HT3.out.n
              have h2 : (liveZ t.l).length ≤ t.l.length := by rw [show (liveZ t.l).length = lives t.l from liveFrom_len t.l 0]; exact lives_len t.l
              omega
            clear htq htm
            go_wp2_with (first | (go_at_call 12; (with_reducible refine (HLV.out _ HT3.out).mono ?_); rintro e w6 ⟨v6, rfl, hR6, hb6⟩; obtain ⟨A6, c6, e6⟩ := Kd.R_slice hR6; rw [List.length_map] at e6; subst e6; have HB6 := Aside0.mk hb6; have HR6 := Aside0.mk (Kd.R_mono hR6 (ok' := fun _ => True) (fun _ _ => trivial)); have HS6 := Aside0.mk (HS3.out.below hb6); obtain ⟨ad1, A2, c2, eA1, hv, -⟩ := sl_get rfl (Kd.R_reads' HS6.out.ws).2.2 q (by rw [List.length_map]; exact hql); rw [List.getElem_map, HTQ.out, List.length_map] at hv; cases eA1; clear hR6 hb6))
            go_loopw [168] (fun ii wr => ∃ (wr4 : World) (p : Nat), wr4 = wr ∧ ii = .int .i64 p ∧ p ≤ (liveZ t.l).length ∧ Aside0 (Below w6.heap.size w6 wr4)) (fun ii _ => (liveZ t.l).length - (intOf ii).toNat)
            case atStart => exact ⟨_, 0, rfl, rfl, Nat.zero_le _, ⟨Below.refl _ _⟩⟩
            case round =>
              obtain ⟨wr4, p, rfl, rfl, hp, HB4⟩ := hrel
              have hS4 := HS6.out.below HB4.out
              by_cases hpl : p < (liveZ t.l).length
              · have hpm : p < ((liveZ t.l).map s39).length := by rw [List.length_map]; exact hpl
                obtain ⟨ad1, A2, c2, eA, hv, hr⟩ := sl_get rfl (Kd.R_reads' hS4.ws).2.2 q (by rw [List.length_map]; exact hql)
                rw [List.getElem_map, HTQ.out] at hv hr
                cases eA
                obtain ⟨ad2, eA2, g0, g1, g2, g3, g4, g5, g6⟩ := at_T39 hr (p : Int) (by omega) (by omega)
                cases eA2
                obtain ⟨ad3, eA3, k0, k1, k2, k3, k4, k5, k6⟩ := at_T39 (Kd.R_reads' (Kd.R_below HR6.out HB4.out)).2.2 (p : Int) (by omega) (by omega)
                cases eA3
                rw [Int.toNat_natCast] at g0 g1 g2 g3 g4 g5 g6 k0 k1 k2 k3 k4 k5 k6
                rw [List.length_map] at hv
                have cpl : ((p : Int) < ((liveZ t.l).length : Int)) = True := eq_true (by omega)
                generalize rd_T39 ((liveZ t.l).map s39) (p : Int) = y at g0 g1 g2 g3 g4 g5 g6 k0 k1 k2 k3 k4 k5 k6
                clear hr hS4 hpm
                go_wp2
                go_quiet (fail)
                go_wp2
                exact ⟨⟨_, p + 1, rfl, by go_num, by omega, ⟨(by repeat (first | (with_reducible first | exact HB4.out | apply pw_below_drewN | apply below_alloc | apply below_drew) | exact HB4.out))⟩⟩, by simp [intOf]; omega⟩
              · have hpg : (liveZ t.l).length ≤ p := by omega
                clear hS4
                go_wp2
                exact ⟨⟨_, q + 1, rfl, by go_num, by omega, ⟨below_step HB3.out (below_step HB6.out HB4.out)⟩⟩, by simp [intOf]; omega⟩
          · have hqg : ts.length ≤ q := by omega
            go_wp2
            go_ret
            exact ⟨rfl, (HS.out.below HB3.out).hb⟩
/-! The contract of CapsNobody, in the print's form. -/
def bureaulaw17_CapsNobody.f (l0 : List XCN.S32) : Option Bool := if l0.length ≤ maxLen ∧ l0.all (fun x => decide (0 ≤ x.f0 ∧ x.f0 ≤ 255)) = true then some true else none
theorem bureaulaw17_CapsNobody.calls (A0 : Option Addr) (c0 : Nat) (l0 : List XCN.S32) (r : Bool) (w : World) (hr0 : Kd.C XCN.k32 w A0 l0.length l0) (hc0 : l0.length ≤ c0) (h : bureaulaw17_CapsNobody.f l0 = some r) :
    Calls Try.prog 7 #[.slice A0 l0.length c0] w fun e w' => e = .returned (.bool r) ∧ Below w.heap.size w w' := by
  unfold bureaulaw17_CapsNobody.f at h
  split at h
  · rename_i hc
    cases h
    exact Nobody_w A0 c0 l0 w hr0 hc0 hc.1 (fun x hx => of_decide_eq_true (List.all_eq_true.1 hc.2 x hx))
  · cases h

end Go.Proofs.Ytecbdhampjmlaaa.Ext
