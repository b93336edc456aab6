/- The law PieceActs, by its walk. -/
import Derived.Test.YtgaggoglbkcomaaExt05O
import Derived.Test.YtgaggoglbkcomaaExt05JL
import Derived.Test.YtgaggoglbkcomaaExt05EI
import Derived.Test.YtgaggoglbkcomaaExt05AD
import Derived.Test.YtgaggoglbkcomaaExtSC
import Derived.Test.YtgaggoglbkcomaaXRRx7
import Derived.Test.YtgaggoglbkcomaaXRRx6
import Derived.Test.YtgaggoglbkcomaaXRRx5
import Derived.Test.YtgaggoglbkcomaaXRRx2
import Derived.Test.YtgaggoglbkcomaaXRRx3
import Derived.Test.YtgaggoglbkcomaaXRRx0
import Derived.Test.YtgaggoglbkcomaaXPAx0
import Derived.Test.YtgaggoglbkcomaaWMore
import Derived.WalkKit
import Derived.WalkMore
import Derived.Below
import Derived.KernelRfl
import Derived.LoopTactic
import Derived.Deep.RegionWith
import Derived.Deep.RegionHeld3
import Derived.IntWalk
import Derived.Deep.DeepCutAuto
import Derived.Deep.CutBlock
import Derived.BigQuiet
import Derived.Laws.RangeString
import Derived.Laws.RangeAny
import Derived.Laws.Rows
import Derived.Laws.Runes
import Derived.Lib.OthersKept
import Derived.OpenShut
set_option linter.unusedVariables false
set_option linter.unusedSimpArgs false
namespace Go.Proofs.Ytgaggoglbkcomaa.Ext
open Go.RowKit Go.Lib Go.Proofs.YtgaggoglbkcomaaW.PrintWords Go.Proofs.YtgaggoglbkcomaaW.PrintMore Go.Proofs.Ytgaggoglbkcomaa.XRR

theorem ST5.kp1 {w W W' : World} {P mo q p : Nat} {va : Value} {s : ByteArray} {rl : List Rn} {cells : Array Value} {t : TypeId} (h : ST5 w W P va mo s rl q) (hb : Below w.heap.size W W') (hk : Kp (fun k => k = p) W W') (hx : W.heap[p]? = some (.cells cells t (0, 0))) (h1 : t ≠ 71) (h2 : t ≠ 5) (h3 : t ≠ 83) (h4 : t ≠ 29) : ST5 w W' P va mo s rl q := by
  obtain ⟨⟨vs, ad, xs, k1, k2, k3⟩, hm⟩ := h
  refine ⟨⟨vs, ad, xs, k1.kp (S := fun k => k = p) hb hk ?_ ?_ ?_, k2, k3⟩, hm⟩
  · rintro rfl
    rw [k1.x] at hx
    injection hx with hx
    injection hx with _ hx
    exact h1 hx.symm
  · rintro g e rfl
    obtain ⟨c, hc⟩ := own_typed k1.a g e
    rw [hc] at hx
    injection hx with hx
    injection hx with _ hx
    exact h2 hx.symm
  · rintro g rfl c q' hc
    rw [hc] at hx
    injection hx with hx
    injection hx with _ hx
    subst hx
    exact ⟨h3, h4⟩
theorem OrO.rd {w W w' : World} {A' A : Option Addr} {c' c : Nat} {l' l : List Rn} (h : OrO W w' A' c' l' A c l) (hr : Rd w W A c l) (hB : Below W.heap.size W w') (hs : w.heap.size ≤ W.heap.size) : Rd w w' A' c' l' := by
  rcases h with ⟨rfl, rfl, rfl⟩ | h
  · exact hr.below hB
  · exact Rd.mk' h hs
/-- The store, and the document's. -/
structure A6 (w wr : World) (P : Nat) (va : Value) (mo : Nat) (s : ByteArray) (rl : List Rn) (q p6 : Nat) (A : Option Addr) (c : Nat) : Prop where
  st : ST5 w wr P va mo s rl q
  x : wr.heap[p6]? = some (.cells #[.string s, sv A rl c, .int .i64 mo] 57 (0, 0))
  r : Rd w wr A c rl
  le : w.heap.size ≤ p6
theorem A6.below {w wr w' : World} {P mo q p6 c : Nat} {va : Value} {s : ByteArray} {rl : List Rn} {A : Option Addr} (h : A6 w wr P va mo s rl q p6 A c) (hb : Below wr.heap.size wr w') : A6 w w' P va mo s rl q p6 A c := ⟨h.st.below hb, blk_below h.x hb, h.r.below hb, h.le⟩
theorem A6.cells {w wr : World} {P mo q p6 c : Nat} {va : Value} {s : ByteArray} {rl : List Rn} {A : Option Addr} (h : A6 w wr P va mo s rl q p6 A c) : wr.cell? ⟨p6, 0, none⟩ = some (.string s) ∧ wr.cell? ⟨p6, 1, none⟩ = some (sv A rl c) ∧ wr.cell? ⟨p6, 2, none⟩ = some (.int .i64 mo) ∧ wr.frozen? ⟨p6, 0, none⟩ = false ∧ wr.frozen? ⟨p6, 1, none⟩ = false ∧ wr.frozen? ⟨p6, 2, none⟩ = false ∧ p6 < wr.heap.size :=
  ⟨cell_of_row wr _ 0 _ _ _ h.x, cell_of_row wr _ 1 _ _ _ h.x, cell_of_row wr _ 2 _ _ _ h.x, frozen_of_row wr _ 0 _ _ h.x, frozen_of_row wr _ 1 _ _ h.x, frozen_of_row wr _ 2 _ _ h.x, (Array.getElem?_eq_some_iff.1 h.x).1⟩
theorem A6.up {w wr : World} {P mo q p6 c : Nat} {va : Value} {s : ByteArray} {rl : List Rn} {A : Option Addr} (h : A6 w wr P va mo s rl q p6 A c) : A6 w wr P va mo s rl (q + 1) p6 A c := ⟨h.st.up, h.x, h.r, h.le⟩
/-- .. and what a Put of the document's left, in a box: (s', rl'). -/
structure A7 (w wr : World) (P : Nat) (va : Value) (mo : Nat) (s1 : ByteArray) (rl1 : List Rn) (q p6 : Nat) (v6 : ByteArray) (u6 : Value) (p13 : Nat) (s' : ByteArray) (A' : Option Addr) (c' : Nat) (rl' : List Rn) : Prop where
  st : ST5 w wr P va mo s1 rl1 q
  x : wr.heap[p6]? = some (.cells #[.string v6, u6, .int .i64 mo] 57 (0, 0))
  y : wr.heap[p13]? = some (.cells #[.string s', sv A' rl' c', .int .i64 mo] 57 (0, 0))
  r : Rd w wr A' c' rl'
  le : w.heap.size ≤ p6
theorem A7.kt {w wr w' : World} {P mo q q' p6 p13 c' : Nat} {va va' u6 : Value} {s1 s2 v6 s' : ByteArray} {rl1 rl2 rl' : List Rn} {A' : Option Addr} (h : A7 w wr P va mo s1 rl1 q p6 v6 u6 p13 s' A' c' rl') (hk : Kt wr w') (hs : ST5 w w' P va' mo s2 rl2 q') : A7 w w' P va' mo s2 rl2 q' p6 v6 u6 p13 s' A' c' rl' := ⟨hs, hk.cells h.x (by decide) (by decide), hk.cells h.y (by decide) (by decide), h.r.kt hk, h.le⟩
theorem A7.cells {w wr : World} {P mo q p6 p13 c' : Nat} {va u6 : Value} {s1 v6 s' : ByteArray} {rl1 rl' : List Rn} {A' : Option Addr} (h : A7 w wr P va mo s1 rl1 q p6 v6 u6 p13 s' A' c' rl') : (wr.cell? ⟨p6, 0, none⟩ = some (.string v6) ∧ wr.cell? ⟨p6, 1, none⟩ = some u6 ∧ wr.cell? ⟨p6, 2, none⟩ = some (.int .i64 mo) ∧ wr.frozen? ⟨p6, 0, none⟩ = false ∧ wr.frozen? ⟨p6, 1, none⟩ = false ∧ wr.frozen? ⟨p6, 2, none⟩ = false) ∧ (wr.cell? ⟨p13, 0, none⟩ = some (.string s') ∧ wr.cell? ⟨p13, 1, none⟩ = some (sv A' rl' c') ∧ wr.cell? ⟨p13, 2, none⟩ = some (.int .i64 mo)) ∧ p6 < wr.heap.size ∧ p13 < wr.heap.size :=
  ⟨⟨cell_of_row wr _ 0 _ _ _ h.x, cell_of_row wr _ 1 _ _ _ h.x, cell_of_row wr _ 2 _ _ _ h.x, frozen_of_row wr _ 0 _ _ h.x, frozen_of_row wr _ 1 _ _ h.x, frozen_of_row wr _ 2 _ _ h.x⟩, ⟨cell_of_row wr _ 0 _ _ _ h.y, cell_of_row wr _ 1 _ _ _ h.y, cell_of_row wr _ 2 _ _ _ h.y⟩, (Array.getElem?_eq_some_iff.1 h.x).1, (Array.getElem?_eq_some_iff.1 h.y).1⟩
theorem Rd.kp1 {w W W' : World} {A : Option Addr} {c p : Nat} {l : List Rn} {cells : Array Value} {t : TypeId} (h : Rd w W A c l) (hk : Kp (fun k => k = p) W W') (hx : W.heap[p]? = some (.cells cells t (0, 0))) (h4 : t ≠ 29) : Rd w W' A c l :=
  ⟨h.hc, h.r.imp id (fun h => R_keep h hk (fun g hg q hq cells' hc => by
    subst hg
    rw [hc] at hx
    injection hx with hx
    injection hx with _ hx
    rcases List.mem_cons.1 hq with e | e
    · subst e; exact h4 hx.symm
    · exact (List.not_mem_nil e).elim))⟩
theorem A7.take {w wr : World} {P mo q p6 p13 c' : Nat} {va u6 : Value} {v6 s' : ByteArray} {rl' : List Rn} {A' : Option Addr} (h : A7 w wr P va mo s' rl' q p6 v6 u6 p13 s' A' c' rl') : A6 w (((wr.setCell ⟨p6, 0, none⟩ (.string s')).setCell ⟨p6, 1, none⟩ (sv A' rl' c')).setCell ⟨p6, 2, none⟩ (.int .i64 mo)) P va mo s' rl' q p6 A' c' := by
  have hk : Kp (fun k => k = p6) wr (((wr.setCell ⟨p6, 0, none⟩ (.string s')).setCell ⟨p6, 1, none⟩ (sv A' rl' c')).setCell ⟨p6, 2, none⟩ (.int .i64 mo)) := ((Kp.set wr p6 0 _).trans (Kp.set _ p6 1 _) (fun _ e => e) (fun _ _ e => e)).trans (Kp.set _ p6 2 _) (fun _ e => e) (fun _ _ e => e)
  exact ⟨h.st.kp1 (three_below (Below.refl _ _) h.le) hk h.x (by decide) (by decide) (by decide) (by decide), three_set h.x, h.r.kp1 hk h.x (by decide), h.le⟩
theorem A7.new {w W w5 : World} {P mo q p6 c c' : Nat} {va : Value} {s s' : ByteArray} {rl rl' : List Rn} {A A' : Option Addr} (h : A6 w W P va mo s rl q p6 A c) (ho : OrO W w5 A' c' rl' A c rl) (hb : Below W.heap.size W w5) : A7 w (w5.alloc (.cells #[.string s', sv A' rl' c', .int .i64 mo] 57)) P va mo s rl q p6 s (sv A rl c) w5.heap.size s' A' c' rl' :=
  ⟨(h.st.below hb).below (below_alloc (Below.refl _ _) _), blk_below (blk_below h.x hb) (below_alloc (Below.refl _ _) _), heap_alloc_new _ _, (OrO.rd ho h.r hb h.st.b.size).below (below_alloc (Below.refl _ _) _), h.le⟩
theorem fit_len {x : ByteArray} {m : List Rn} (h : fitB x m = true) : m.length ≤ 5000 := (of_decide_eq_true h : _ ∧ _).2
theorem cut_k {w u : World} {P mo q : Nat} {va : Value} {s : ByteArray} {rl : List Rn} (h : ST5 w u P va mo s rl q) (hq : q ≤ 1000) (f t : Int) {sc : ByteArray} {lc : List Rn} {ec : Int} (he : cutT s rl f t = (sc, lc, ec)) :
    Calls Try.prog 21 #[.pointer (some ⟨P, 0, none⟩), .int .i64 f, .int .i64 t] u fun e w' => ∃ A c, e = .returned (.tuple #[vT sc (sv A lc c), .int .i64 ec]) ∧ RR w' u.heap.size (sv A lc c) lc ∧ Below u.heap.size u w' := by
  have := cut_s h hq f t
  rwa [he] at this
theorem cutT_len {s : ByteArray} {rl : List Rn} {f t : Int} {sc : ByteArray} {lc : List Rn} {ec : Int} (he : cutT s rl f t = (sc, lc, ec)) : lc.length ≤ 4096 := by
  unfold cutT at he
  by_cases hw : withinT s rl f t = true
  · rw [if_pos hw] at he
    obtain ⟨a, b, rfl, rfl, hab, hb, hg⟩ := within_nat hw
    have e4 : sli rl a b = lc := congrArg (fun z => z.2.1) he
    rw [← e4]
    exact good_len (goodT_good (cut_good hg hab hb)).1
  · rw [if_neg hw] at he
    have e4 : ([] : List Rn) = lc := congrArg (fun z => z.2.1) he
    rw [← e4]
    exact Nat.zero_le _
theorem A6.start {w w2 : World} {P mo : Nat} (h : ST5 w w2 P (.slice none 0 0) mo ⟨#[]⟩ [] 0) : A6 w (w2.alloc (.cells #[.string ⟨#[]⟩, .slice none 0 0, .int .i64 mo] 57)) P (.slice none 0 0) mo ⟨#[]⟩ [] 0 w2.heap.size none 0 :=
  ⟨h.below (below_alloc (Below.refl _ _) _), heap_alloc_new _ _, ⟨Nat.le_refl _, .inr (Kd.R_nil _ _ _ _ _)⟩, h.b.size⟩
set_option maxRecDepth 100000 in
set_option maxHeartbeats 16000000 in
theorem Acts_w (z : Int) (A0 : Option Addr) (c0 : Nat) (l : List XPA.S48) (w : World) (hr : Kd.C XPA.k48 w A0 l.length l) (hc : l.length ≤ c0) (hm : ∀ y, y ∈ l → y.f2.f1.length ≤ maxLen) :
    Calls Try.prog 5 #[.int .i64 z, .slice A0 l.length c0] w fun e w' => e = .returned (.bool true) ∧ Below w.heap.size w w' := by
  have HAL := Aside0.mk (alive_w w)
  have HR := Aside0.mk hr
  have HM := Aside0.mk hm
  clear hr hm
  by_cases hz : z < 0 ∨ 4096 < z
  · have HNO := Aside0.mk (fun (u : World) => new_no (u := u) z hz)
    by_cases h1 : z < 0
    · clear hz
      go_enter Try.func5, Try.ntmps5
      go_wp2_with (first | (go_at_call 17; (with_reducible refine HAL.out.mono ?_); rintro e w1 ⟨rfl, hb1⟩; have HB1 := Aside0.mk hb1; clear hb1) | (go_at_call 18; (with_reducible refine (HNO.out _).mono ?_); rintro e w2 ⟨rfl, hb2⟩; have HB2 := Aside0.mk (below_step HB1.out hb2); clear hb2))
      have HB3 := Aside0.mk (below_alloc HB2.out (.cells #[.string ⟨#[]⟩, .slice none 0 0, .int .i64 z] 57))
      go_loopw [7] (fun ii wr => ∃ wr1 : World, wr1 = wr ∧ ii = .int .i64 0 ∧ Aside0 (Below w.heap.size w wr1)) (fun ii _ => 0)
      case atStart => exact ⟨_, rfl, rfl, HB3⟩
      case round =>
        obtain ⟨wr1, rfl, rfl, HB⟩ := hrel
        go_wp2
        go_ret
        exact ⟨rfl, HB.out⟩
    · have h2 : 4096 < z := by omega
      clear hz
      go_enter Try.func5, Try.ntmps5
      go_wp2_with (first | (go_at_call 17; (with_reducible refine HAL.out.mono ?_); rintro e w1 ⟨rfl, hb1⟩; have HB1 := Aside0.mk hb1; clear hb1) | (go_at_call 18; (with_reducible refine (HNO.out _).mono ?_); rintro e w2 ⟨rfl, hb2⟩; have HB2 := Aside0.mk (below_step HB1.out hb2); clear hb2))
      have HB3 := Aside0.mk (below_alloc HB2.out (.cells #[.string ⟨#[]⟩, .slice none 0 0, .int .i64 z] 57))
      go_loopw [7] (fun ii wr => ∃ wr1 : World, wr1 = wr ∧ ii = .int .i64 0 ∧ Aside0 (Below w.heap.size w wr1)) (fun ii _ => 0)
      case atStart => exact ⟨_, rfl, rfl, HB3⟩
      case round =>
        obtain ⟨wr1, rfl, rfl, HB⟩ := hrel
        go_wp2
        go_ret
        exact ⟨rfl, HB.out⟩
  · obtain ⟨mo, rfl⟩ : ∃ mo : Nat, z = mo := ⟨z.toNat, by omega⟩
    have hmo : mo ≤ 4096 := by omega
    have hmo' : (mo : Int) ≤ 4096 := by omega
    have HNE : Aside0 (∀ u : World, Below w.heap.size w u → Calls Try.prog 18 #[.int .i64 mo] u fun e w' => e = .returned (.pointer (some ⟨u.heap.size, 0, none⟩)) ∧ ST5 w w' u.heap.size (.slice none 0 0) mo ⟨#[]⟩ [] 0) := ⟨fun u hb => (new_s hb mo hmo).mono fun e w' h => ⟨h.1, h.2.1⟩⟩
    clear hz
    go_enter Try.func5, Try.ntmps5
    go_wp2_with (first | (go_at_call 17; (with_reducible refine HAL.out.mono ?_); rintro e w1 ⟨rfl, hb1⟩; have HB1 := Aside0.mk hb1; clear hb1) | (go_at_call 18; (with_reducible refine (HNE.out _ HB1.out).mono ?_); rintro e w2 ⟨rfl, hs2⟩; have HS2 := Aside0.mk hs2; clear hs2))
    have H60 := Aside0.mk (A6.start HS2.out)
    generalize w2.heap.size = p6 at *
    go_loopw [7] (fun ii wr => ∃ (q : Nat) (s : ByteArray) (rl : List Rn) (va : Value) (A : Option Addr) (c : Nat), ii = .int .i64 q ∧ q ≤ l.length ∧ q ≤ 50 ∧ Aside0 (A6 w wr w1.heap.size va mo s rl q p6 A c)) (fun ii _ => l.length - (RowKit.intOf ii).toNat)
    case atStart => exact ⟨0, _, _, _, _, _, rfl, Nat.zero_le _, by decide, H60⟩
    case round =>
      obtain ⟨q, s, rl, va, A, c, rfl, hq, hq50, H6⟩ := hrel
      by_cases hex : q < l.length ∧ q < 50
      · obtain ⟨hql, hq5⟩ := hex
        obtain ⟨ad, A1, c1, eA, y0, y1, y2, y3, y4, y5, hc1, hC1⟩ := XPA.at_T48 HR.out (q : Int) (by omega) (by omega)
        cases eA
        rw [Int.toNat_natCast] at y0 y1 y2 y3 y4 y5
        have hml := HM.out (XPA.rd_T48 l (q : Int)) (by
          unfold XPA.rd_T48
          rw [Int.toNat_natCast, List.getD_eq_getElem?_getD, List.getElem?_eq_getElem hql]
          exact List.getElem_mem _)
        generalize XPA.rd_T48 l (q : Int) = y at *
        obtain ⟨f, t, ⟨x, m⟩, k1, k2⟩ := y
        simp only at y0 y1 y2 y3 y4 y5 hc1 hC1 hml
        have HC := Aside0.mk hC1
        have HZ := Aside0.mk (fun (W : World) (hb : Below w.heap.size w W) => (⟨cell_old hb y0, cell_old hb y1, cell_old hb y2, cell_old hb y3, cell_old hb y4, cell_old hb y5⟩ : _ ∧ _ ∧ _ ∧ _ ∧ _ ∧ _))
        have HFI := Aside0.mk (fun (W : World) (hb : Below w.heap.size w W) => fits_c x m W A1 c1 (Kd.C_below hC1 hb) hc1)
        have hg0 := H6.out.st.good
        have hs4 := goodT_sz hg0
        have hrl := good_len (goodT_good hg0).1
        clear y0 y1 y2 y3 y4 y5
        obtain ⟨z0, z1, z2, z3, z4, z5⟩ := HZ.out wr H6.out.st.b
        go_upto_region 11 with (fail)
        have HA : Aside0 (AX (wr.alloc (.cells #[.int .i64 f, .int .i64 t, .string x, sv A1 m c1, .bool k1, .bool k2] 48)) wr.heap.size f t x (sv A1 m c1) k1 k2) := ⟨⟨heap_alloc_new _ _⟩⟩
        have H6 := Aside0.mk (H6.out.below (below_alloc (Below.refl _ _) (.cells #[.int .i64 f, .int .i64 t, .string x, sv A1 m c1, .bool k1, .bool k2] 48)))
        clear z0 z1 z2 z3 z4 z5 HZ
        generalize wr.heap.size = pb at *
        generalize World.alloc wr _ = wr1 at *
        obtain ⟨x0, x1, x2, x3, x4, x5⟩ := HA.out.cells; have xl := HA.out.lt; obtain ⟨n0, n1, n2, n3, n4, n5, nl⟩ := H6.out.cells
        cases hfi : fitB x m
        · rw [hfi] at HFI
          clear hfi hg0
          go_wp2_with (first | (go_at_call 12; (with_reducible refine (HFI.out _ H6.out.st.b).mono ?_); rintro e w3 ⟨rfl, hb3⟩; have H6 := Aside0.mk (H6.out.below hb3); have HA := Aside0.mk (HA.out.below hb3); clear hb3; clear x0 x1 x2 x3 x4 x5 xl n0 n1 n2 n3 n4 n5 nl; obtain ⟨x0, x1, x2, x3, x4, x5⟩ := HA.out.cells; have xl := HA.out.lt; obtain ⟨n0, n1, n2, n3, n4, n5, nl⟩ := H6.out.cells))
          exact ⟨⟨q + 1, s, rl, va, A, c, by go_num, by omega, by omega, ⟨H6.out.up⟩⟩, by simp [RowKit.intOf]; omega⟩
        · rw [hfi] at HFI
          have hm5 := fit_len hfi
          clear hfi
          cases k1
          · obtain ⟨s', rl', e', hput⟩ : ∃ s' rl' e', putM s rl mo f t x m = (s', rl', e') := ⟨_, _, _, rfl⟩
            have HPU := Aside0.mk (fun (W : World) (h : ST5 w W w1.heap.size va mo s rl q) => put_k h (by omega) hmo x m A1 c1 (Kd.C_below HC.out h.b) hc1 (by omega) f t hput)
            have HRP : Aside0 (∀ W, A6 w W w1.heap.size va mo s rl q p6 A c → Calls Try.prog 23 #[.agg #[.string s, sv A rl c, .int .i64 mo], .int .i64 f, .int .i64 t, vT x (sv A1 m c1)] W fun e w' => ∃ A' c', e = .returned (.tuple #[.agg #[.string s', sv A' rl' c', .int .i64 mo], .int .i64 e']) ∧ OrO W w' A' c' rl' A c rl ∧ Below W.heap.size W w') := ⟨fun W h => by
              have := rput_w W s A c rl mo f t x A1 c1 m (h.r.read h.st.b) h.r.hc (Kd.C_below HC.out h.st.b) hc1 (by omega) hm5 hg0 hmo
              rwa [hput] at this⟩
            clear hg0 hput
            go_upto_region 18 with (first | (go_at_call 12; (with_reducible refine (HFI.out _ H6.out.st.b).mono ?_); rintro e w3 ⟨rfl, hb3⟩; have H6 := Aside0.mk (H6.out.below hb3); have HA := Aside0.mk (HA.out.below hb3); clear hb3; clear x0 x1 x2 x3 x4 x5 xl n0 n1 n2 n3 n4 n5 nl; obtain ⟨x0, x1, x2, x3, x4, x5⟩ := HA.out.cells; have xl := HA.out.lt; obtain ⟨n0, n1, n2, n3, n4, n5, nl⟩ := H6.out.cells) | (go_at_call 23; (with_reducible refine (HRP.out _ H6.out).mono ?_); rintro e w4 ⟨A', c', rfl, ho4, hb4⟩; have H7 := Aside0.mk (A7.new H6.out ho4 hb4 : A7 w (w4.alloc (.cells #[.string s', sv A' rl' c', .int .i64 mo] 57)) _ _ _ _ _ _ _ _ _ _ s' A' c' rl'); have HA := Aside0.mk ((HA.out.below hb4).below (below_alloc (Below.refl _ _) (.cells #[.string s', sv A' rl' c', .int .i64 mo] 57))); clear ho4 hb4; clear x0 x1 x2 x3 x4 x5 xl n0 n1 n2 n3 n4 n5 nl; obtain ⟨x0, x1, x2, x3, x4, x5⟩ := HA.out.cells; have xl := HA.out.lt))
            go_upto_region 20 with (first | (go_at_call 19; (with_reducible refine (HPU.out _ H7.out.st).mono ?_); rintro e w5 ⟨rfl, va', hs5, hk5⟩; have H7 := Aside0.mk (H7.out.kt hk5 hs5); clear hs5 hk5 x0 x1 x2 x3 x4 x5 xl; obtain ⟨⟨n0, n1, n2, n3, n4, n5⟩, ⟨m0, m1, m2⟩, nl, ml⟩ := H7.out.cells))
            go_upto_region 21 with (fail)
            have H6 := Aside0.mk H7.out.take
            clear H7 HA HFI HPU HRP HC n0 n1 n2 n3 n4 n5 m0 m1 m2 nl ml
            generalize World.setCell (World.setCell (World.setCell w5 _ _) _ _) _ _ = w6 at *
            have hg1 := H6.out.st.good
            have hs5 := goodT_sz hg1
            have hrl1 := good_len (goodT_good hg1).1
            have hm1 := H6.out.st.m
            have HTE := Aside0.mk (fun (W : World) (h : A6 w W w1.heap.size va' mo s' rl' (q + 1) p6 A' c') => text_s h.st (by omega))
            have HLE := Aside0.mk (fun (W : World) (h : A6 w W w1.heap.size va' mo s' rl' (q + 1) p6 A' c') => len_s h.st)
            have HRO := Aside0.mk (fun (W : World) (h : A6 w W w1.heap.size va' mo s' rl' (q + 1) p6 A' c') => room_s h.st hmo)
            have HSA := Aside0.mk (fun (W : World) (A9 : Option Addr) (c9 : Nat) (hr : RR W w.heap.size (sv A9 rl' c9) rl') (h : A6 w W w1.heap.size va' mo s' rl' (q + 1) p6 A' c') => same_c s' rl' (by omega) W A9 A' c9 c' (Kd.R_reads' hr).2.2 (Kd.R_reads' hr).2.1 (h.r.read h.st.b) h.r.hc)
            have hw1 : IntKind.i64.wrap ((mo : Int) - (s'.size : Int)) = (mo : Int) - s'.size := by rw [wrap_ok _ (by omega)]
            clear hg1
            refine wp_region_held_drew (S := fun w' => w'.cell? ⟨p6, 0, none⟩ = some (.string s') ∧ w'.cell? ⟨p6, 1, none⟩ = some (sv A' rl' c')) (by kernel_rfl) ?_ (fun hHeld => ?_)
            · exact ⟨H6.out.cells.1, H6.out.cells.2.1⟩
            refine wpAnyH_take (i := 0) (oi := _) (v := ?v0u1) (ga0) (by kernel_rfl) (by kernel_rfl) (by kernel_rfl) (fun _ _ _ h => h) (Or.inl ⟨by rfl, ?hy0u1⟩) (by assumption) ?rest0u1
            case hy0u1 => (intro w hSw; (try dsimp only at hSw); go_simp; try with_reducible rfl)
            (try simp only [Act.put, List.setIfInBounds_toArray, List.set_cons_zero, List.set_cons_succ])
            refine wpAnyH_take (i := 2) (oi := _) (v := ?v2u1) (gaS (gaS (ga0))) (by kernel_rfl) (by kernel_rfl) (by kernel_rfl) (fun _ _ _ h => h) (Or.inl ⟨by rfl, ?hy2u1⟩) (by assumption) ?rest2u1
            case hy2u1 => (intro w hSw; (try dsimp only at hSw); go_simp; try with_reducible rfl)
            (try simp only [Act.put, List.setIfInBounds_toArray, List.set_cons_zero, List.set_cons_succ])
            refine wpAnyH_take (i := 3) (oi := _) (v := ?v3u1) (gaS (gaS (gaS (ga0)))) (by kernel_rfl) (by kernel_rfl) (by kernel_rfl) (fun _ _ _ h => h) (Or.inl ⟨by rfl, ?hy3u1⟩) (by assumption) ?rest3u1
            case hy3u1 => (intro w hSw; (try dsimp only at hSw); go_simp; try with_reducible rfl)
            (try simp only [Act.put, List.setIfInBounds_toArray, List.set_cons_zero, List.set_cons_succ])
            refine wpAnyH_ready (rs := [1]) (by kernel_rfl) (by simp) ?_
            refine AllReadyH.cons (o := _) (gaS (ga0)) (fun K hK => ?_) AllReadyH.nil
            go_simp
            (go_at_call 20; (with_reducible refine (HTE.out _ (H6.out.below ?sb)).mono ?_); (case sb => exact (by repeat (first | (with_reducible first | exact Below.refl _ _ | apply pw_below_drewN | apply below_alloc | apply below_drew) | exact Below.refl _ _))); rintro e w7 ⟨A9, c9, rfl, hr9, hb7⟩; have HR9 := Aside0.mk (Kd.R_lower hr9 (H6.out.st.b.size)); have H6 := Aside0.mk (H6.out.below (below_step (by repeat (first | (with_reducible first | exact Below.refl _ _ | apply pw_below_drewN | apply below_alloc | apply below_drew) | exact Below.refl _ _)) hb7)); clear hr9 hb7)
            go_wp2_with fail
            refine hK.out _ _ ⟨H6.out.cells.1, H6.out.cells.2.1⟩ (fun hHeld => ?_)
            clear hK K
            (try simp only [Act.put, List.setIfInBounds_toArray, List.set_cons_zero, List.set_cons_succ])
            refine wpAnyH_ready (rs := [4]) (by kernel_rfl) (by simp) ?_
            refine AllReadyH.cons (o := _) (gaS (gaS (gaS (gaS (ga0))))) (fun K hK => ?_) AllReadyH.nil
            go_simp
            (go_at_call 16; (with_reducible refine (HSA.out _ _ _ HR9.out H6.out).mono ?_); rintro e w8 ⟨rfl, hb8⟩; have H6 := Aside0.mk (H6.out.below hb8); clear hb8)
            go_wp2_with fail
            refine hK.out _ _ ⟨H6.out.cells.1, H6.out.cells.2.1⟩ (fun hHeld => ?_)
            clear hK K
            (try simp only [Act.put, List.setIfInBounds_toArray, List.set_cons_zero, List.set_cons_succ])
            refine wpAnyH_take (i := 5) (oi := _) (v := ?v5u1) (gaS (gaS (gaS (gaS (gaS (ga0)))))) (by kernel_rfl) (by kernel_rfl) (by kernel_rfl) (fun _ _ _ h => h) (Or.inl ⟨by rfl, ?hy5u1⟩) (by assumption) ?rest5u1
            case hy5u1 => (intro w hSw; (try dsimp only at hSw); go_simp; try with_reducible rfl)
            (try simp only [Act.put, List.setIfInBounds_toArray, List.set_cons_zero, List.set_cons_succ])
            refine wpAnyH_take (i := 6) (oi := _) (v := ?v6u1) (gaS (gaS (gaS (gaS (gaS (gaS (ga0))))))) (by kernel_rfl) (by kernel_rfl) (by kernel_rfl) (fun _ _ _ h => h) (Or.inl ⟨by rfl, ?hy6u1⟩) (by assumption) ?rest6u1
            case hy6u1 => (intro w hSw; (try dsimp only at hSw); go_simp; try with_reducible rfl)
            (try simp only [Act.put, List.setIfInBounds_toArray, List.set_cons_zero, List.set_cons_succ])
            refine wpAnyH_take (i := 7) (oi := _) (v := ?v7u1) (gaS (gaS (gaS (gaS (gaS (gaS (gaS (ga0)))))))) (by kernel_rfl) (by kernel_rfl) (by kernel_rfl) (fun _ _ _ h => h) (Or.inl ⟨by rfl, ?hy7u1⟩) (by assumption) ?rest7u1
            case hy7u1 => (intro w hSw; (try dsimp only at hSw); go_simp; try with_reducible rfl)
            (try simp only [Act.put, List.setIfInBounds_toArray, List.set_cons_zero, List.set_cons_succ])
            refine wpAnyH_take (i := 9) (oi := _) (v := ?v9u1) (gaS (gaS (gaS (gaS (gaS (gaS (gaS (gaS (gaS (ga0)))))))))) (by kernel_rfl) (by kernel_rfl) (by kernel_rfl) (fun _ _ _ h => h) (Or.inl ⟨by rfl, ?hy9u1⟩) (by assumption) ?rest9u1
            case hy9u1 => (intro w hSw; (try dsimp only at hSw); go_simp; try with_reducible rfl)
            (try simp only [Act.put, List.setIfInBounds_toArray, List.set_cons_zero, List.set_cons_succ])
            refine wpAnyH_take (i := 10) (oi := _) (v := ?v10u1) (gaS (gaS (gaS (gaS (gaS (gaS (gaS (gaS (gaS (gaS (ga0))))))))))) (by kernel_rfl) (by kernel_rfl) (by kernel_rfl) (fun _ _ _ h => h) (Or.inl ⟨by rfl, ?hy10u1⟩) (by assumption) ?rest10u1
            case hy10u1 => (intro w hSw; (try dsimp only at hSw); go_simp; try with_reducible rfl)
            (try simp only [Act.put, List.setIfInBounds_toArray, List.set_cons_zero, List.set_cons_succ])
            refine wpAnyH_take (i := 11) (oi := _) (v := ?v11u1) (gaS (gaS (gaS (gaS (gaS (gaS (gaS (gaS (gaS (gaS (gaS (ga0)))))))))))) (by kernel_rfl) (by kernel_rfl) (by kernel_rfl) (fun _ _ _ h => h) (Or.inl ⟨by rfl, ?hy11u1⟩) (by assumption) ?rest11u1
            case hy11u1 => (intro w hSw; (try dsimp only at hSw); go_simp; try with_reducible rfl)
            (try simp only [Act.put, List.setIfInBounds_toArray, List.set_cons_zero, List.set_cons_succ])
            refine wpAnyH_take (i := 12) (oi := _) (v := ?v12u1) (gaS (gaS (gaS (gaS (gaS (gaS (gaS (gaS (gaS (gaS (gaS (gaS (ga0))))))))))))) (by kernel_rfl) (by kernel_rfl) (by kernel_rfl) (fun _ _ _ h => h) (Or.inl ⟨by rfl, ?hy12u1⟩) (by assumption) ?rest12u1
            case hy12u1 => (intro w hSw; (try dsimp only at hSw); go_simp; try with_reducible rfl)
            (try simp only [Act.put, List.setIfInBounds_toArray, List.set_cons_zero, List.set_cons_succ])
            refine wpAnyH_ready (rs := [8]) (by kernel_rfl) (by simp) ?_
            refine AllReadyH.cons (o := _) (gaS (gaS (gaS (gaS (gaS (gaS (gaS (gaS (ga0))))))))) (fun K hK => ?_) AllReadyH.nil
            go_simp
            (go_at_call 24; (with_reducible refine (HLE.out _ H6.out).mono ?_); rintro e w8 ⟨rfl, hb8⟩; have H6 := Aside0.mk (H6.out.below hb8); clear hb8)
            go_wp2_with fail
            refine hK.out _ _ ⟨H6.out.cells.1, H6.out.cells.2.1⟩ (fun hHeld => ?_)
            clear hK K
            (try simp only [Act.put, List.setIfInBounds_toArray, List.set_cons_zero, List.set_cons_succ])
            refine wpAnyH_take (i := 13) (oi := _) (v := ?v13u1) (gaS (gaS (gaS (gaS (gaS (gaS (gaS (gaS (gaS (gaS (gaS (gaS (gaS (ga0)))))))))))))) (by kernel_rfl) (by kernel_rfl) (by kernel_rfl) (fun _ _ _ h => h) (Or.inl ⟨by rfl, ?hy13u1⟩) (by assumption) ?rest13u1
            case hy13u1 => (intro w hSw; (try dsimp only at hSw); go_simp; try with_reducible rfl)
            (try simp only [Act.put, List.setIfInBounds_toArray, List.set_cons_zero, List.set_cons_succ])
            refine wpAnyH_take (i := 14) (oi := _) (v := ?v14u1) (gaS (gaS (gaS (gaS (gaS (gaS (gaS (gaS (gaS (gaS (gaS (gaS (gaS (gaS (ga0))))))))))))))) (by kernel_rfl) (by kernel_rfl) (by kernel_rfl) (fun _ _ _ h => h) (Or.inl ⟨by rfl, ?hy14u1⟩) (by assumption) ?rest14u1
            case hy14u1 => (intro w hSw; (try dsimp only at hSw); go_simp; try with_reducible rfl)
            (try simp only [Act.put, List.setIfInBounds_toArray, List.set_cons_zero, List.set_cons_succ])
            refine wpAnyH_take (i := 15) (oi := _) (v := ?v15u1) (gaS (gaS (gaS (gaS (gaS (gaS (gaS (gaS (gaS (gaS (gaS (gaS (gaS (gaS (gaS (ga0)))))))))))))))) (by kernel_rfl) (by kernel_rfl) (by kernel_rfl) (fun _ _ _ h => h) (Or.inl ⟨by rfl, ?hy15u1⟩) (by assumption) ?rest15u1
            case hy15u1 => (intro w hSw; (try dsimp only at hSw); go_simp; try with_reducible rfl)
            (try simp only [Act.put, List.setIfInBounds_toArray, List.set_cons_zero, List.set_cons_succ])
            refine wpAnyH_take (i := 16) (oi := _) (v := ?v16u1) (gaS (gaS (gaS (gaS (gaS (gaS (gaS (gaS (gaS (gaS (gaS (gaS (gaS (gaS (gaS (gaS (ga0))))))))))))))))) (by kernel_rfl) (by kernel_rfl) (by kernel_rfl) (fun _ _ _ h => h) (Or.inl ⟨by rfl, ?hy16u1⟩) (by assumption) ?rest16u1
            case hy16u1 => (intro w hSw; (try dsimp only at hSw); go_simp; try with_reducible rfl)
            (try simp only [Act.put, List.setIfInBounds_toArray, List.set_cons_zero, List.set_cons_succ])
            refine wpAnyH_take (i := 18) (oi := _) (v := ?v18u1) (gaS (gaS (gaS (gaS (gaS (gaS (gaS (gaS (gaS (gaS (gaS (gaS (gaS (gaS (gaS (gaS (gaS (gaS (ga0))))))))))))))))))) (by kernel_rfl) (by kernel_rfl) (by kernel_rfl) (fun _ _ _ h => h) (Or.inl ⟨by rfl, ?hy18u1⟩) (by assumption) ?rest18u1
            case hy18u1 => (intro w hSw; (try dsimp only at hSw); go_simp; try with_reducible rfl)
            (try simp only [Act.put, List.setIfInBounds_toArray, List.set_cons_zero, List.set_cons_succ])
            refine wpAnyH_take (i := 19) (oi := _) (v := ?v19u1) (gaS (gaS (gaS (gaS (gaS (gaS (gaS (gaS (gaS (gaS (gaS (gaS (gaS (gaS (gaS (gaS (gaS (gaS (gaS (ga0)))))))))))))))))))) (by kernel_rfl) (by kernel_rfl) (by kernel_rfl) (fun _ _ _ h => h) (Or.inl ⟨by rfl, ?hy19u1⟩) (by assumption) ?rest19u1
            case hy19u1 => (intro w hSw; (try dsimp only at hSw); go_simp; try with_reducible rfl)
            (try simp only [Act.put, List.setIfInBounds_toArray, List.set_cons_zero, List.set_cons_succ])
            refine wpAnyH_take (i := 20) (oi := _) (v := ?v20u1) (gaS (gaS (gaS (gaS (gaS (gaS (gaS (gaS (gaS (gaS (gaS (gaS (gaS (gaS (gaS (gaS (gaS (gaS (gaS (gaS (ga0))))))))))))))))))))) (by kernel_rfl) (by kernel_rfl) (by kernel_rfl) (fun _ _ _ h => h) (Or.inl ⟨by rfl, ?hy20u1⟩) (by assumption) ?rest20u1
            case hy20u1 => (intro w hSw; (try dsimp only at hSw); go_simp; try with_reducible rfl)
            (try simp only [Act.put, List.setIfInBounds_toArray, List.set_cons_zero, List.set_cons_succ])
            refine wpAnyH_take (i := 21) (oi := _) (v := ?v21u1) (gaS (gaS (gaS (gaS (gaS (gaS (gaS (gaS (gaS (gaS (gaS (gaS (gaS (gaS (gaS (gaS (gaS (gaS (gaS (gaS (gaS (ga0)))))))))))))))))))))) (by kernel_rfl) (by kernel_rfl) (by kernel_rfl) (fun _ _ _ h => h) (Or.inl ⟨by rfl, ?hy21u1⟩) (by assumption) ?rest21u1
            case hy21u1 => (intro w hSw; (try dsimp only at hSw); go_simp; try with_reducible rfl)
            (try simp only [Act.put, List.setIfInBounds_toArray, List.set_cons_zero, List.set_cons_succ])
            refine wpAnyH_take (i := 22) (oi := _) (v := ?v22u1) (gaS (gaS (gaS (gaS (gaS (gaS (gaS (gaS (gaS (gaS (gaS (gaS (gaS (gaS (gaS (gaS (gaS (gaS (gaS (gaS (gaS (gaS (ga0))))))))))))))))))))))) (by kernel_rfl) (by kernel_rfl) (by kernel_rfl) (fun _ _ _ h => h) (Or.inl ⟨by rfl, ?hy22u1⟩) (by assumption) ?rest22u1
            case hy22u1 => (intro w hSw; (try dsimp only at hSw); go_simp; try with_reducible rfl)
            (try simp only [Act.put, List.setIfInBounds_toArray, List.set_cons_zero, List.set_cons_succ])
            refine wpAnyH_take (i := 23) (oi := _) (v := ?v23u1) (gaS (gaS (gaS (gaS (gaS (gaS (gaS (gaS (gaS (gaS (gaS (gaS (gaS (gaS (gaS (gaS (gaS (gaS (gaS (gaS (gaS (gaS (gaS (ga0)))))))))))))))))))))))) (by kernel_rfl) (by kernel_rfl) (by kernel_rfl) (fun _ _ _ h => h) (Or.inl ⟨by rfl, ?hy23u1⟩) (by assumption) ?rest23u1
            case hy23u1 => (intro w hSw; (try dsimp only at hSw); go_simp; try with_reducible rfl)
            (try simp only [Act.put, List.setIfInBounds_toArray, List.set_cons_zero, List.set_cons_succ])
            refine wpAnyH_ready (rs := [17]) (by kernel_rfl) (by simp) ?_
            refine AllReadyH.cons (o := _) (gaS (gaS (gaS (gaS (gaS (gaS (gaS (gaS (gaS (gaS (gaS (gaS (gaS (gaS (gaS (gaS (gaS (ga0)))))))))))))))))) (fun K hK => ?_) AllReadyH.nil
            go_simp
            (go_at_call 25; (with_reducible refine (HRO.out _ H6.out).mono ?_); rintro e w8 ⟨rfl, hb8⟩; have H6 := Aside0.mk (H6.out.below hb8); clear hb8)
            go_wp2_with fail
            refine hK.out _ _ ⟨H6.out.cells.1, H6.out.cells.2.1⟩ (fun hHeld => ?_)
            clear hK K
            (try simp only [Act.put, List.setIfInBounds_toArray, List.set_cons_zero, List.set_cons_succ])
            refine wpAnyH_take (i := 24) (oi := _) (v := ?v24u1) (gaS (gaS (gaS (gaS (gaS (gaS (gaS (gaS (gaS (gaS (gaS (gaS (gaS (gaS (gaS (gaS (gaS (gaS (gaS (gaS (gaS (gaS (gaS (gaS (ga0))))))))))))))))))))))))) (by kernel_rfl) (by kernel_rfl) (by kernel_rfl) (fun _ _ _ h => h) (Or.inl ⟨by rfl, ?hy24u1⟩) (by assumption) ?rest24u1
            case hy24u1 => (intro w hSw; (try dsimp only at hSw); go_simp; try with_reducible rfl)
            (try simp only [Act.put, List.setIfInBounds_toArray, List.set_cons_zero, List.set_cons_succ])
            refine wpAnyH_take (i := 25) (oi := _) (v := ?v25u1) (gaS (gaS (gaS (gaS (gaS (gaS (gaS (gaS (gaS (gaS (gaS (gaS (gaS (gaS (gaS (gaS (gaS (gaS (gaS (gaS (gaS (gaS (gaS (gaS (gaS (ga0)))))))))))))))))))))))))) (by kernel_rfl) (by kernel_rfl) (by kernel_rfl) (fun _ _ _ h => h) (Or.inl ⟨by rfl, ?hy25u1⟩) (by assumption) ?rest25u1
            case hy25u1 => (intro w hSw; (try dsimp only at hSw); go_simp; try with_reducible rfl)
            (try simp only [Act.put, List.setIfInBounds_toArray, List.set_cons_zero, List.set_cons_succ])
            refine wpAnyH_done (by kernel_rfl) ?_ _
            go_wp2
            exact ⟨⟨q + 1, s', rl', va', A', c', by go_num, by omega, by omega, ⟨H6.out⟩⟩, by simp [RowKit.intOf]; omega⟩
          · obtain ⟨sc, lc, ec, hcut⟩ : ∃ sc lc ec, cutT s rl f t = (sc, lc, ec) := ⟨_, _, _, rfl⟩
            have hlc := cutT_len hcut
            have HCU := Aside0.mk (fun (W : World) (h : A6 w W w1.heap.size va mo s rl q p6 A c) => cut_k h.st (by omega) f t hcut)
            have HCD := Aside0.mk (fun (W : World) (h : A6 w W w1.heap.size va mo s rl q p6 A c) => bureauref04_Cut.calls 20000 s A c rl f t sc lc ec W (h.r.read h.st.b) h.r.hc (by rw [dCut s rl f t (by omega), hcut]))
            have HSC := Aside0.mk (fun (W : World) (p8 p9 c8 c9 : Nat) (A8 A9 : Option Addr) (h8 : Tx W w.heap.size p8 sc A8 c8 lc) (h9 : Tx W w.heap.size p9 sc A9 c9 lc) => same_c sc lc (by omega) W A8 A9 c8 c9 (Kd.R_reads' h8.r).2.2 (Kd.R_reads' h8.r).2.1 (Kd.R_reads' h9.r).2.2 (Kd.R_reads' h9.r).2.1)
            clear hg0 hcut
            go_wp2_with (first | (go_at_call 12; (with_reducible refine (HFI.out _ H6.out.st.b).mono ?_); rintro e w3 ⟨rfl, hb3⟩; have H6 := Aside0.mk (H6.out.below hb3); have HA := Aside0.mk (HA.out.below hb3); clear hb3; clear x0 x1 x2 x3 x4 x5 xl n0 n1 n2 n3 n4 n5 nl; obtain ⟨x0, x1, x2, x3, x4, x5⟩ := HA.out.cells; have xl := HA.out.lt; obtain ⟨n0, n1, n2, n3, n4, n5, nl⟩ := H6.out.cells) | (go_at_call 21; (with_reducible refine (HCU.out _ H6.out).mono ?_); rintro e w4 ⟨A8, c8, rfl, hr8, hb4⟩; have HT8 := Aside0.mk (Tx.new hr8 (H6.out.st.b.size) : Tx (w4.alloc (.cells #[.string sc, sv A8 lc c8] 24)) w.heap.size w4.heap.size sc A8 c8 lc); have H6 := Aside0.mk ((H6.out.below hb4).below (below_alloc (Below.refl _ _) (.cells #[.string sc, sv A8 lc c8] 24))); have HA := Aside0.mk ((HA.out.below hb4).below (below_alloc (Below.refl _ _) (.cells #[.string sc, sv A8 lc c8] 24))); clear hr8 hb4; clear x0 x1 x2 x3 x4 x5 xl n0 n1 n2 n3 n4 n5 nl; obtain ⟨x0, x1, x2, x3, x4, x5⟩ := HA.out.cells; have xl := HA.out.lt; obtain ⟨n0, n1, n2, n3, n4, n5, nl⟩ := H6.out.cells) | (go_at_call 22; (with_reducible refine (HCD.out _ H6.out).mono ?_); rintro e w5 ⟨v9, rfl, hr9, hb5⟩; obtain ⟨A9, c9, rfl⟩ := Kd.R_slice hr9; have HT9 := Aside0.mk (Tx.new hr9 (H6.out.st.b.size) : Tx (w5.alloc (.cells #[.string sc, sv A9 lc c9] 24)) w.heap.size w5.heap.size sc A9 c9 lc); have HT8 := Aside0.mk ((HT8.out.below hb5).below (below_alloc (Below.refl _ _) (.cells #[.string sc, sv A9 lc c9] 24))); have H6 := Aside0.mk ((H6.out.below hb5).below (below_alloc (Below.refl _ _) (.cells #[.string sc, sv A9 lc c9] 24))); clear hr9 hb5; clear x0 x1 x2 x3 x4 x5 xl n0 n1 n2 n3 n4 n5 nl; obtain ⟨t0, t1, -, -⟩ := HT8.out.b.cells; have tl := HT8.out.b.lt) | (go_at_call 16; (with_reducible refine (HSC.out _ _ _ _ _ _ _ HT8.out HT9.out).mono ?_); rintro e w6 ⟨rfl, hb6⟩; have H6 := Aside0.mk (H6.out.below hb6); clear hb6))
            exact ⟨⟨q + 1, s, rl, va, A, c, by go_num, by omega, by omega, ⟨H6.out.up⟩⟩, by simp [RowKit.intOf]; omega⟩
      · have hex2 : ¬ q < l.length ∨ (q < l.length ∧ ¬ q < 50) := by omega
        clear hex HR HM hc
        rcases hex2 with hx | ⟨hx, hx2⟩
        · have hx' : l.length ≤ q := by omega
          go_wp2
          go_ret
          exact ⟨rfl, H6.out.st.b⟩
        · have hx' : (q : Int) < (l.length : Int) := by omega
          have hx2' : (50 : Int) ≤ (q : Int) := by omega
          go_wp2
          go_ret
          exact ⟨rfl, H6.out.st.b⟩
def bureaulaw05_PieceActs.f (a0 : Int) (l1 : List XPA.S48) : Option Bool := if ∀ y, y ∈ l1 → y.f2.f1.length ≤ maxLen then some true else none
theorem bureaulaw05_PieceActs.calls (a0 : Int) (A1 : Option Addr) (c1 : Nat) (l1 : List XPA.S48) (r : Bool) (w : World) (hr1 : Kd.C XPA.k48 w A1 l1.length l1) (hc1 : l1.length ≤ c1) (h : bureaulaw05_PieceActs.f a0 l1 = some r) :
    Calls Try.prog 5 #[.int .i64 a0, .slice A1 l1.length c1] w fun e w' => e = .returned (.bool r) ∧ Below w.heap.size w w' := by
  unfold bureaulaw05_PieceActs.f at h
  by_cases hc : ∀ y, y ∈ l1 → y.f2.f1.length ≤ maxLen
  · rw [if_pos hc] at h
    cases h
    exact Acts_w a0 A1 c1 l1 w hr1 hc1 hc
  · rw [if_neg hc] at h
    cases h

end Go.Proofs.Ytgaggoglbkcomaa.Ext
