/- The law PieceBounds, by its walk. -/
import Derived.Test.YtgaggoglbkcomaaExt05JL
import Derived.Test.YtgaggoglbkcomaaExt05EI
import Derived.Test.YtgaggoglbkcomaaExt05AD
import Derived.Test.YtgaggoglbkcomaaExtSC
import Derived.Test.YtgaggoglbkcomaaXRRx5
import Derived.Test.YtgaggoglbkcomaaXRRx2
import Derived.Test.YtgaggoglbkcomaaXRRx3
import Derived.Test.YtgaggoglbkcomaaXRRx0
import Derived.Test.YtgaggoglbkcomaaXPBx0
import Derived.Test.YtgaggoglbkcomaaWMore
import Derived.WalkKit
import Derived.WalkMore
import Derived.Below
import Derived.KernelRfl
import Derived.LoopTactic
import Derived.Deep.RegionWith
import Derived.Deep.RegionHeld3
import Derived.IntWalk
import Derived.Deep.DeepCutAuto
import Derived.Deep.CutBlock
import Derived.BigQuiet
import Derived.Laws.RangeString
import Derived.Laws.RangeAny
import Derived.Laws.Rows
import Derived.Laws.Runes
import Derived.Lib.OthersKept
import Derived.OpenShut
set_option linter.unusedVariables false
set_option linter.unusedSimpArgs false
namespace Go.Proofs.Ytgaggoglbkcomaa.Ext
open Go.RowKit Go.Lib Go.Proofs.YtgaggoglbkcomaaW.PrintWords Go.Proofs.YtgaggoglbkcomaaW.PrintMore Go.Proofs.Ytgaggoglbkcomaa.XRR

/-- The store, and both texts' boxes. -/
structure T2 (w wr : World) (P : Nat) (va : Value) (mo : Nat) (s' : ByteArray) (rl' : List Rn) (q p8 p9 : Nat) (s : ByteArray) (A8 : Option Addr) (c8 : Nat) (rl : List Rn) (A9 : Option Addr) (c9 : Nat) (pb : Nat) (f t : Int) (x : ByteArray) (v : Value) (k1 k2 : Bool) : Prop where
  st : ST5 w wr P va mo s' rl' q
  t8 : Tx wr w.heap.size p8 s A8 c8 rl
  t9 : Tx wr w.heap.size p9 s' A9 c9 rl'
  a : AX wr pb f t x v k1 k2
theorem T2.below {w wr w' : World} {P mo q p8 p9 c8 c9 pb : Nat} {va v : Value} {s' s x : ByteArray} {rl' rl : List Rn} {A8 A9 : Option Addr} {f t : Int} {k1 k2 : Bool} (h : T2 w wr P va mo s' rl' q p8 p9 s A8 c8 rl A9 c9 pb f t x v k1 k2) (hb : Below wr.heap.size wr w') : T2 w w' P va mo s' rl' q p8 p9 s A8 c8 rl A9 c9 pb f t x v k1 k2 := ⟨h.st.below hb, h.t8.below hb, h.t9.below hb, h.a.below hb⟩
theorem T2.cells {w wr : World} {P mo q p8 p9 c8 c9 pb : Nat} {va v : Value} {s' s x : ByteArray} {rl' rl : List Rn} {A8 A9 : Option Addr} {f t : Int} {k1 k2 : Bool} (h : T2 w wr P va mo s' rl' q p8 p9 s A8 c8 rl A9 c9 pb f t x v k1 k2) : (wr.cell? ⟨p9, 0, none⟩ = some (.string s') ∧ wr.cell? ⟨p9, 1, none⟩ = some (sv A9 rl' c9)) ∧ wr.cell? ⟨p8, 0, none⟩ = some (.string s) ∧ wr.cell? ⟨p8, 1, none⟩ = some (sv A8 rl c8) := ⟨⟨h.t9.b.cells.1, h.t9.b.cells.2.1⟩, h.t8.b.cells.1, h.t8.b.cells.2.1⟩
theorem fit_len {x : ByteArray} {m : List Rn} (h : fitB x m = true) : m.length ≤ 5000 := (of_decide_eq_true h : _ ∧ _).2
set_option maxRecDepth 100000 in
set_option maxHeartbeats 16000000 in
theorem Bounds_w (z : Int) (A0 : Option Addr) (c0 : Nat) (l : List XPB.S48) (w : World) (hr : Kd.C XPB.k48 w A0 l.length l) (hc : l.length ≤ c0) (hm : ∀ y, y ∈ l → y.f2.f1.length ≤ maxLen) :
    Calls Try.prog 6 #[.int .i64 z, .slice A0 l.length c0] w fun e w' => e = .returned (.bool true) ∧ Below w.heap.size w w' := by
  have HAL := Aside0.mk (alive_w w)
  have HR := Aside0.mk hr
  have HM := Aside0.mk hm
  clear hr hm
  by_cases hz : z < 0 ∨ 4096 < z
  · have HNO := Aside0.mk (fun (u : World) => new_no (u := u) z hz)
    by_cases h1 : z < 0
    · clear hz
      go_enter Try.func6, Try.ntmps6
      go_wp2_with (first | (go_at_call 17; (with_reducible refine HAL.out.mono ?_); rintro e w1 ⟨rfl, hb1⟩; have HB1 := Aside0.mk hb1; clear hb1) | (go_at_call 18; (with_reducible refine (HNO.out _).mono ?_); rintro e w2 ⟨rfl, hb2⟩; have HB2 := Aside0.mk (below_step HB1.out hb2); clear hb2))
      go_ret
      exact ⟨rfl, HB2.out⟩
    · have h2 : 4096 < z := by omega
      clear hz
      go_enter Try.func6, Try.ntmps6
      go_wp2_with (first | (go_at_call 17; (with_reducible refine HAL.out.mono ?_); rintro e w1 ⟨rfl, hb1⟩; have HB1 := Aside0.mk hb1; clear hb1) | (go_at_call 18; (with_reducible refine (HNO.out _).mono ?_); rintro e w2 ⟨rfl, hb2⟩; have HB2 := Aside0.mk (below_step HB1.out hb2); clear hb2))
      go_ret
      exact ⟨rfl, HB2.out⟩
  · obtain ⟨mo, rfl⟩ : ∃ mo : Nat, z = mo := ⟨z.toNat, by omega⟩
    have hmo : mo ≤ 4096 := by omega
    have HNE : Aside0 (∀ u : World, Below w.heap.size w u → Calls Try.prog 18 #[.int .i64 mo] u fun e w' => e = .returned (.pointer (some ⟨u.heap.size, 0, none⟩)) ∧ ST5 w w' u.heap.size (.slice none 0 0) mo ⟨#[]⟩ [] 0) := ⟨fun u hb => (new_s hb mo hmo).mono fun e w' h => ⟨h.1, h.2.1⟩⟩
    clear hz
    go_enter Try.func6, Try.ntmps6
    go_wp2_with (first | (go_at_call 17; (with_reducible refine HAL.out.mono ?_); rintro e w1 ⟨rfl, hb1⟩; have HB1 := Aside0.mk hb1; clear hb1) | (go_at_call 18; (with_reducible refine (HNE.out _ HB1.out).mono ?_); rintro e w2 ⟨rfl, hs2⟩; have HS2 := Aside0.mk hs2; clear hs2))
    go_loopw [6] (fun ii wr => ∃ (q : Nat) (s : ByteArray) (rl : List Rn) (va : Value), ii = .int .i64 q ∧ q ≤ l.length ∧ q ≤ 50 ∧ Aside0 (ST5 w wr w1.heap.size va mo s rl q)) (fun ii _ => l.length - (RowKit.intOf ii).toNat)
    case atStart => exact ⟨0, _, _, _, rfl, Nat.zero_le _, by decide, HS2⟩
    case round =>
      obtain ⟨q, s, rl, va, rfl, hq, hq50, HS⟩ := hrel
      by_cases hex : q < l.length ∧ q < 50
      · obtain ⟨hql, hq5⟩ := hex
        obtain ⟨ad, A1, c1, eA, y0, y1, y2, y3, y4, y5, hc1, hC1⟩ := XPB.at_T48 HR.out (q : Int) (by omega) (by omega)
        cases eA
        rw [Int.toNat_natCast] at y0 y1 y2 y3 y4 y5
        have hml := HM.out (XPB.rd_T48 l (q : Int)) (by
          unfold XPB.rd_T48
          rw [Int.toNat_natCast, List.getD_eq_getElem?_getD, List.getElem?_eq_getElem hql]
          exact List.getElem_mem _)
        generalize XPB.rd_T48 l (q : Int) = y at *
        obtain ⟨f, t, ⟨x, m⟩, k1, k2⟩ := y
        simp only at y0 y1 y2 y3 y4 y5 hc1 hC1 hml
        have HC := Aside0.mk hC1
        have HZ := Aside0.mk (fun (W : World) (hb : Below w.heap.size w W) => (⟨cell_old hb y0, cell_old hb y1, cell_old hb y2, cell_old hb y3, cell_old hb y4, cell_old hb y5⟩ : _ ∧ _ ∧ _ ∧ _ ∧ _ ∧ _))
        have HFI := Aside0.mk (fun (W : World) (hb : Below w.heap.size w W) => fits_c x m W A1 c1 (Kd.C_below hC1 hb) hc1)
        have HTE := Aside0.mk (fun (W : World) (h : ST5 w W w1.heap.size va mo s rl q) => text_s h (by omega))
        clear y0 y1 y2 y3 y4 y5
        obtain ⟨z0, z1, z2, z3, z4, z5⟩ := HZ.out wr HS.out.b
        go_upto_region 10 with (fail)
        have HA : Aside0 (AX (wr.alloc (.cells #[.int .i64 f, .int .i64 t, .string x, sv A1 m c1, .bool k1, .bool k2] 48)) wr.heap.size f t x (sv A1 m c1) k1 k2) := ⟨⟨heap_alloc_new _ _⟩⟩
        have HS := Aside0.mk (HS.out.below (below_alloc (Below.refl _ _) (.cells #[.int .i64 f, .int .i64 t, .string x, sv A1 m c1, .bool k1, .bool k2] 48)))
        clear z0 z1 z2 z3 z4 z5 HZ
        generalize wr.heap.size = pb at *
        generalize World.alloc wr _ = wr1 at *
        obtain ⟨x0, x1, x2, x3, x4, x5⟩ := HA.out.cells; have xl := HA.out.lt
        cases hfi : fitB x m
        · rw [hfi] at HFI
          clear hfi
          go_wp2_with (first | (go_at_call 12; (with_reducible refine (HFI.out _ HS.out.b).mono ?_); rintro e w3 ⟨rfl, hb3⟩; have HS := Aside0.mk (HS.out.below hb3); have HA := Aside0.mk (HA.out.below hb3); clear hb3; clear x0 x1 x2 x3 x4 x5 xl; obtain ⟨x0, x1, x2, x3, x4, x5⟩ := HA.out.cells; have xl := HA.out.lt))
          exact ⟨⟨q + 1, s, rl, va, by go_num, by omega, by omega, ⟨HS.out.up⟩⟩, by simp [RowKit.intOf]; omega⟩
        · rw [hfi] at HFI
          have hm5 := fit_len hfi
          obtain ⟨s', rl', e', hput⟩ : ∃ s' rl' e', putM s rl mo f t x m = (s', rl', e') := ⟨_, _, _, rfl⟩
          have HPU := Aside0.mk (fun (W : World) (h : ST5 w W w1.heap.size va mo s rl q) => put_k h (by omega) hmo x m A1 c1 (Kd.C_below HC.out h.b) hc1 (by omega) f t hput)
          have HTE2 := Aside0.mk (fun (W : World) (va' : Value) (h : ST5 w W w1.heap.size va' mo s' rl' (q + 1)) => text_s h (by omega))
          clear hfi hm5
          by_cases he : e' = 0
          · subst he
            obtain ⟨p1, p2, p3, p4, p5, p6⟩ := putM_ok (by rw [hput])
            have hsz : s'.size = s.size - (t.toNat - f.toNat) + x.size := by
              rw [hput] at p6
              have e := congrArg Prod.fst p6
              dsimp only at e
              rw [e]
              exact sS_size s x _ _ (by omega) (by omega)
            have hs4 := goodT_sz HS.out.good
            have hx4 := goodT_sz p1
            have ht1 : ((s'.size : Int) != (s.size : Int) - (t - f) + (x.size : Int)) = false := bne_eq_false_iff_eq.2 (by omega)
            have hs' : (s'.size : Int) ≤ (mo : Int) := by omega
            clear hput p1 p5 p6 hsz
            go_upto_region 14 with (first | (go_at_call 12; (with_reducible refine (HFI.out _ HS.out.b).mono ?_); rintro e w3 ⟨rfl, hb3⟩; have HS := Aside0.mk (HS.out.below hb3); have HA := Aside0.mk (HA.out.below hb3); clear hb3; clear x0 x1 x2 x3 x4 x5 xl; obtain ⟨x0, x1, x2, x3, x4, x5⟩ := HA.out.cells; have xl := HA.out.lt) | (go_at_call 20; (with_reducible refine (HTE.out _ HS.out).mono ?_); rintro e w4 ⟨A8, c8, rfl, hr8, hb4⟩; have hs8 := HS.out.b.size; have HS := Aside0.mk ((HS.out.below hb4).below (below_alloc (Below.refl _ _) (.cells #[.string s, sv A8 rl c8] 24))); have HA := Aside0.mk ((HA.out.below hb4).below (below_alloc (Below.refl _ _) (.cells #[.string s, sv A8 rl c8] 24))); have HT8 := Aside0.mk (Tx.new hr8 (by exact hs8) : Tx _ w.heap.size w4.heap.size s A8 c8 rl); clear hr8 hb4 hs8; clear x0 x1 x2 x3 x4 x5 xl; obtain ⟨x0, x1, x2, x3, x4, x5⟩ := HA.out.cells; have xl := HA.out.lt) | (go_at_call 19; (with_reducible refine (HPU.out _ HS.out).mono ?_); rintro e w5 ⟨rfl, va', hs5, hk5⟩; have HA := Aside0.mk (HA.out.kt hk5); have HT8 := Aside0.mk (HT8.out.kt hk5); have HS := Aside0.mk hs5; clear hs5 hk5; clear x0 x1 x2 x3 x4 x5 xl; obtain ⟨x0, x1, x2, x3, x4, x5⟩ := HA.out.cells; have xl := HA.out.lt) | (go_at_call 20; (with_reducible refine (HTE2.out _ _ HS.out).mono ?_); rintro e w6 ⟨A9, c9, rfl, hr9, hb6⟩; have hs9 := HS.out.b.size; have HS := Aside0.mk ((HS.out.below hb6).below (below_alloc (Below.refl _ _) (.cells #[.string s', sv A9 rl' c9] 24))); have HA := Aside0.mk ((HA.out.below hb6).below (below_alloc (Below.refl _ _) (.cells #[.string s', sv A9 rl' c9] 24))); have HT8 := Aside0.mk ((HT8.out.below hb6).below (below_alloc (Below.refl _ _) (.cells #[.string s', sv A9 rl' c9] 24))); have HT9 := Aside0.mk (Tx.new hr9 (by exact hs9) : Tx _ w.heap.size w6.heap.size s' A9 c9 rl'); clear hr9 hb6 hs9; clear x0 x1 x2 x3 x4 x5 xl; obtain ⟨x0, x1, x2, x3, x4, x5⟩ := HA.out.cells; have xl := HA.out.lt))
            have HT2 := Aside0.mk (⟨HS.out, HT8.out, HT9.out, HA.out⟩ : T2 w _ w1.heap.size va' mo s' rl' (q + 1) w4.heap.size w6.heap.size s A8 c8 rl A9 c9 pb f t x (sv A1 m c1) k1 k2)
            clear HS HA HT8 HT9 HFI HTE HPU HTE2 HC
            clear x0 x1 x2 x3 x4 x5 xl
            obtain ⟨x0, x1, x2, x3, x4, x5⟩ := HT2.out.a.cells
            generalize World.alloc w6 _ = w7 at *
            have HGO := Aside0.mk (fun (W : World) (h : T2 w W w1.heap.size va' mo s' rl' (q + 1) w4.heap.size w6.heap.size s A8 c8 rl A9 c9 pb f t x (sv A1 m c1) k1 k2) => good_c h.st.good W _ A9 c9 h.t9.r)
            have HLE := Aside0.mk (fun (W : World) (h : T2 w W w1.heap.size va' mo s' rl' (q + 1) w4.heap.size w6.heap.size s A8 c8 rl A9 c9 pb f t x (sv A1 m c1) k1 k2) => len_s h.st)
            have HRO := Aside0.mk (fun (W : World) (h : T2 w W w1.heap.size va' mo s' rl' (q + 1) w4.heap.size w6.heap.size s A8 c8 rl A9 c9 pb f t x (sv A1 m c1) k1 k2) => room_s h.st hmo)
            have hw1 : IntKind.i64.wrap ((mo : Int) - (s'.size : Int)) = (mo : Int) - s'.size := by rw [wrap_ok _ (by omega)]
            have hd1 : decide (mo < s'.size) = false := decide_eq_false (by omega)
            have hd2 : decide ((mo : Int) < (s'.size : Int)) = false := decide_eq_false (by omega)
            refine wp_region_held_drew (S := fun w' => (w'.cell? ⟨w6.heap.size, 0, none⟩ = some (.string s') ∧ w'.cell? ⟨w6.heap.size, 1, none⟩ = some (sv A9 rl' c9)) ∧ w'.cell? ⟨w4.heap.size, 0, none⟩ = some (.string s) ∧ w'.cell? ⟨w4.heap.size, 1, none⟩ = some (sv A8 rl c8)) (by kernel_rfl) ?_ (fun hHeld => ?_)
            · exact HT2.out.cells
            refine wpAnyH_take (i := 0) (oi := _) (v := ?v0u1) (ga0) (by kernel_rfl) (by kernel_rfl) (by kernel_rfl) (fun _ _ _ h => h) (Or.inl ⟨by rfl, ?hy0u1⟩) (by assumption) ?rest0u1
            case hy0u1 => (intro w hSw; (try dsimp only at hSw); go_simp; try with_reducible rfl)
            (try simp only [Act.put, List.setIfInBounds_toArray, List.set_cons_zero, List.set_cons_succ])
            refine wpAnyH_ready (rs := [1]) (by kernel_rfl) (by simp) ?_
            refine AllReadyH.cons (o := _) (gaS (ga0)) (fun K hK => ?_) AllReadyH.nil
            go_simp
            (go_at_call 13; (with_reducible refine (HGO.out _ (HT2.out.below ?sb)).mono ?_); (case sb => exact (by repeat (first | (with_reducible first | exact Below.refl _ _ | apply pw_below_drewN | apply below_alloc | apply below_drew) | exact Below.refl _ _))); rintro e w7 ⟨rfl, hb7⟩; have HT2 := Aside0.mk (HT2.out.below (below_step (by repeat (first | (with_reducible first | exact Below.refl _ _ | apply pw_below_drewN | apply below_alloc | apply below_drew) | exact Below.refl _ _)) hb7)); clear hb7)
            go_wp2_with fail
            refine hK.out _ _ HT2.out.cells (fun hHeld => ?_)
            clear hK K
            (try simp only [Act.put, List.setIfInBounds_toArray, List.set_cons_zero, List.set_cons_succ])
            refine wpAnyH_take (i := 2) (oi := _) (v := ?v2u1) (gaS (gaS (ga0))) (by kernel_rfl) (by kernel_rfl) (by kernel_rfl) (fun _ _ _ h => h) (Or.inl ⟨by rfl, ?hy2u1⟩) (by assumption) ?rest2u1
            case hy2u1 => (intro w hSw; (try dsimp only at hSw); go_simp; try with_reducible rfl)
            (try simp only [Act.put, List.setIfInBounds_toArray, List.set_cons_zero, List.set_cons_succ])
            refine wpAnyH_take (i := 3) (oi := _) (v := ?v3u1) (gaS (gaS (gaS (ga0)))) (by kernel_rfl) (by kernel_rfl) (by kernel_rfl) (fun _ _ _ h => h) (Or.inl ⟨by rfl, ?hy3u1⟩) (by assumption) ?rest3u1
            case hy3u1 => (intro w hSw; (try dsimp only at hSw); go_simp; try with_reducible rfl)
            (try simp only [Act.put, List.setIfInBounds_toArray, List.set_cons_zero, List.set_cons_succ])
            refine wpAnyH_take (i := 4) (oi := _) (v := ?v4u1) (gaS (gaS (gaS (gaS (ga0))))) (by kernel_rfl) (by kernel_rfl) (by kernel_rfl) (fun _ _ _ h => h) (Or.inl ⟨by rfl, ?hy4u1⟩) (by assumption) ?rest4u1
            case hy4u1 => (intro w hSw; (try dsimp only at hSw); go_simp; try with_reducible rfl)
            (try simp only [Act.put, List.setIfInBounds_toArray, List.set_cons_zero, List.set_cons_succ])
            refine wpAnyH_take (i := 6) (oi := _) (v := ?v6u1) (gaS (gaS (gaS (gaS (gaS (gaS (ga0))))))) (by kernel_rfl) (by kernel_rfl) (by kernel_rfl) (fun _ _ _ h => h) (Or.inl ⟨by rfl, ?hy6u1⟩) (by assumption) ?rest6u1
            case hy6u1 => (intro w hSw; (try dsimp only at hSw); go_simp; try with_reducible rfl)
            (try simp only [Act.put, List.setIfInBounds_toArray, List.set_cons_zero, List.set_cons_succ])
            refine wpAnyH_take (i := 7) (oi := _) (v := ?v7u1) (gaS (gaS (gaS (gaS (gaS (gaS (gaS (ga0)))))))) (by kernel_rfl) (by kernel_rfl) (by kernel_rfl) (fun _ _ _ h => h) (Or.inl ⟨by rfl, ?hy7u1⟩) (by assumption) ?rest7u1
            case hy7u1 => (intro w hSw; (try dsimp only at hSw); go_simp; try with_reducible rfl)
            (try simp only [Act.put, List.setIfInBounds_toArray, List.set_cons_zero, List.set_cons_succ])
            refine wpAnyH_take (i := 8) (oi := _) (v := ?v8u1) (gaS (gaS (gaS (gaS (gaS (gaS (gaS (gaS (ga0))))))))) (by kernel_rfl) (by kernel_rfl) (by kernel_rfl) (fun _ _ _ h => h) (Or.inl ⟨by rfl, ?hy8u1⟩) (by assumption) ?rest8u1
            case hy8u1 => (intro w hSw; (try dsimp only at hSw); go_simp; try with_reducible rfl)
            (try simp only [Act.put, List.setIfInBounds_toArray, List.set_cons_zero, List.set_cons_succ])
            refine wpAnyH_ready (rs := [5]) (by kernel_rfl) (by simp) ?_
            refine AllReadyH.cons (o := _) (gaS (gaS (gaS (gaS (gaS (ga0)))))) (fun K hK => ?_) AllReadyH.nil
            go_simp
            (go_at_call 24; (with_reducible refine (HLE.out _ (HT2.out.below ?sb)).mono ?_); (case sb => exact (by repeat (first | (with_reducible first | exact Below.refl _ _ | apply pw_below_drewN | apply below_alloc | apply below_drew) | exact Below.refl _ _))); rintro e w7 ⟨rfl, hb7⟩; have HT2 := Aside0.mk (HT2.out.below (below_step (by repeat (first | (with_reducible first | exact Below.refl _ _ | apply pw_below_drewN | apply below_alloc | apply below_drew) | exact Below.refl _ _)) hb7)); clear hb7)
            go_wp2_with fail
            refine hK.out _ _ HT2.out.cells (fun hHeld => ?_)
            clear hK K
            (try simp only [Act.put, List.setIfInBounds_toArray, List.set_cons_zero, List.set_cons_succ])
            refine wpAnyH_take (i := 9) (oi := _) (v := ?v9u1) (gaS (gaS (gaS (gaS (gaS (gaS (gaS (gaS (gaS (ga0)))))))))) (by kernel_rfl) (by kernel_rfl) (by kernel_rfl) (fun _ _ _ h => h) (Or.inl ⟨by rfl, ?hy9u1⟩) (by assumption) ?rest9u1
            case hy9u1 => (intro w hSw; (try dsimp only at hSw); go_simp; try with_reducible rfl)
            (try simp only [Act.put, List.setIfInBounds_toArray, List.set_cons_zero, List.set_cons_succ])
            refine wpAnyH_take (i := 10) (oi := _) (v := ?v10u1) (gaS (gaS (gaS (gaS (gaS (gaS (gaS (gaS (gaS (gaS (ga0))))))))))) (by kernel_rfl) (by kernel_rfl) (by kernel_rfl) (fun _ _ _ h => h) (Or.inl ⟨by rfl, ?hy10u1⟩) (by assumption) ?rest10u1
            case hy10u1 => (intro w hSw; (try dsimp only at hSw); go_simp; try with_reducible rfl)
            (try simp only [Act.put, List.setIfInBounds_toArray, List.set_cons_zero, List.set_cons_succ])
            refine wpAnyH_take (i := 11) (oi := _) (v := ?v11u1) (gaS (gaS (gaS (gaS (gaS (gaS (gaS (gaS (gaS (gaS (gaS (ga0)))))))))))) (by kernel_rfl) (by kernel_rfl) (by kernel_rfl) (fun _ _ _ h => h) (Or.inl ⟨by rfl, ?hy11u1⟩) (by assumption) ?rest11u1
            case hy11u1 => (intro w hSw; (try dsimp only at hSw); go_simp; try with_reducible rfl)
            (try simp only [Act.put, List.setIfInBounds_toArray, List.set_cons_zero, List.set_cons_succ])
            refine wpAnyH_take (i := 12) (oi := _) (v := ?v12u1) (gaS (gaS (gaS (gaS (gaS (gaS (gaS (gaS (gaS (gaS (gaS (gaS (ga0))))))))))))) (by kernel_rfl) (by kernel_rfl) (by kernel_rfl) (fun _ _ _ h => h) (Or.inl ⟨by rfl, ?hy12u1⟩) (by assumption) ?rest12u1
            case hy12u1 => (intro w hSw; (try dsimp only at hSw); go_simp; try with_reducible rfl)
            (try simp only [Act.put, List.setIfInBounds_toArray, List.set_cons_zero, List.set_cons_succ])
            refine wpAnyH_take (i := 14) (oi := _) (v := ?v14u1) (gaS (gaS (gaS (gaS (gaS (gaS (gaS (gaS (gaS (gaS (gaS (gaS (gaS (gaS (ga0))))))))))))))) (by kernel_rfl) (by kernel_rfl) (by kernel_rfl) (fun _ _ _ h => h) (Or.inl ⟨by rfl, ?hy14u1⟩) (by assumption) ?rest14u1
            case hy14u1 => (intro w hSw; (try dsimp only at hSw); go_simp; try with_reducible rfl)
            (try simp only [Act.put, List.setIfInBounds_toArray, List.set_cons_zero, List.set_cons_succ])
            refine wpAnyH_ready (rs := [13]) (by kernel_rfl) (by simp) ?_
            refine AllReadyH.cons (o := _) (gaS (gaS (gaS (gaS (gaS (gaS (gaS (gaS (gaS (gaS (gaS (gaS (gaS (ga0)))))))))))))) (fun K hK => ?_) AllReadyH.nil
            go_simp
            (go_at_call 24; (with_reducible refine (HLE.out _ (HT2.out.below ?sb)).mono ?_); (case sb => exact (by repeat (first | (with_reducible first | exact Below.refl _ _ | apply pw_below_drewN | apply below_alloc | apply below_drew) | exact Below.refl _ _))); rintro e w7 ⟨rfl, hb7⟩; have HT2 := Aside0.mk (HT2.out.below (below_step (by repeat (first | (with_reducible first | exact Below.refl _ _ | apply pw_below_drewN | apply below_alloc | apply below_drew) | exact Below.refl _ _)) hb7)); clear hb7)
            go_wp2_with fail
            refine hK.out _ _ HT2.out.cells (fun hHeld => ?_)
            clear hK K
            (try simp only [Act.put, List.setIfInBounds_toArray, List.set_cons_zero, List.set_cons_succ])
            refine wpAnyH_take (i := 15) (oi := _) (v := ?v15u1) (gaS (gaS (gaS (gaS (gaS (gaS (gaS (gaS (gaS (gaS (gaS (gaS (gaS (gaS (gaS (ga0)))))))))))))))) (by kernel_rfl) (by kernel_rfl) (by kernel_rfl) (fun _ _ _ h => h) (Or.inl ⟨by rfl, ?hy15u1⟩) (by assumption) ?rest15u1
            case hy15u1 => (intro w hSw; (try dsimp only at hSw); go_simp; try with_reducible rfl)
            (try simp only [Act.put, List.setIfInBounds_toArray, List.set_cons_zero, List.set_cons_succ])
            refine wpAnyH_take (i := 16) (oi := _) (v := ?v16u1) (gaS (gaS (gaS (gaS (gaS (gaS (gaS (gaS (gaS (gaS (gaS (gaS (gaS (gaS (gaS (gaS (ga0))))))))))))))))) (by kernel_rfl) (by kernel_rfl) (by kernel_rfl) (fun _ _ _ h => h) (Or.inl ⟨by rfl, ?hy16u1⟩) (by assumption) ?rest16u1
            case hy16u1 => (intro w hSw; (try dsimp only at hSw); go_simp; try with_reducible rfl)
            (try simp only [Act.put, List.setIfInBounds_toArray, List.set_cons_zero, List.set_cons_succ])
            refine wpAnyH_take (i := 17) (oi := _) (v := ?v17u1) (gaS (gaS (gaS (gaS (gaS (gaS (gaS (gaS (gaS (gaS (gaS (gaS (gaS (gaS (gaS (gaS (gaS (ga0)))))))))))))))))) (by kernel_rfl) (by kernel_rfl) (by kernel_rfl) (fun _ _ _ h => h) (Or.inl ⟨by rfl, ?hy17u1⟩) (by assumption) ?rest17u1
            case hy17u1 => (intro w hSw; (try dsimp only at hSw); go_simp; try with_reducible rfl)
            (try simp only [Act.put, List.setIfInBounds_toArray, List.set_cons_zero, List.set_cons_succ])
            refine wpAnyH_take (i := 18) (oi := _) (v := ?v18u1) (gaS (gaS (gaS (gaS (gaS (gaS (gaS (gaS (gaS (gaS (gaS (gaS (gaS (gaS (gaS (gaS (gaS (gaS (ga0))))))))))))))))))) (by kernel_rfl) (by kernel_rfl) (by kernel_rfl) (fun _ _ _ h => h) (Or.inl ⟨by rfl, ?hy18u1⟩) (by assumption) ?rest18u1
            case hy18u1 => (intro w hSw; (try dsimp only at hSw); go_simp; try with_reducible rfl)
            (try simp only [Act.put, List.setIfInBounds_toArray, List.set_cons_zero, List.set_cons_succ])
            refine wpAnyH_take (i := 20) (oi := _) (v := ?v20u1) (gaS (gaS (gaS (gaS (gaS (gaS (gaS (gaS (gaS (gaS (gaS (gaS (gaS (gaS (gaS (gaS (gaS (gaS (gaS (gaS (ga0))))))))))))))))))))) (by kernel_rfl) (by kernel_rfl) (by kernel_rfl) (fun _ _ _ h => h) (Or.inl ⟨by rfl, ?hy20u1⟩) (by assumption) ?rest20u1
            case hy20u1 => (intro w hSw; (try dsimp only at hSw); go_simp; try with_reducible rfl)
            (try simp only [Act.put, List.setIfInBounds_toArray, List.set_cons_zero, List.set_cons_succ])
            refine wpAnyH_take (i := 21) (oi := _) (v := ?v21u1) (gaS (gaS (gaS (gaS (gaS (gaS (gaS (gaS (gaS (gaS (gaS (gaS (gaS (gaS (gaS (gaS (gaS (gaS (gaS (gaS (gaS (ga0)))))))))))))))))))))) (by kernel_rfl) (by kernel_rfl) (by kernel_rfl) (fun _ _ _ h => h) (Or.inl ⟨by rfl, ?hy21u1⟩) (by assumption) ?rest21u1
            case hy21u1 => (intro w hSw; (try dsimp only at hSw); go_simp; try with_reducible rfl)
            (try simp only [Act.put, List.setIfInBounds_toArray, List.set_cons_zero, List.set_cons_succ])
            refine wpAnyH_ready (rs := [19]) (by kernel_rfl) (by simp) ?_
            refine AllReadyH.cons (o := _) (gaS (gaS (gaS (gaS (gaS (gaS (gaS (gaS (gaS (gaS (gaS (gaS (gaS (gaS (gaS (gaS (gaS (gaS (gaS (ga0)))))))))))))))))))) (fun K hK => ?_) AllReadyH.nil
            go_simp
            (go_at_call 25; (with_reducible refine (HRO.out _ (HT2.out.below ?sb)).mono ?_); (case sb => exact (by repeat (first | (with_reducible first | exact Below.refl _ _ | apply pw_below_drewN | apply below_alloc | apply below_drew) | exact Below.refl _ _))); rintro e w7 ⟨rfl, hb7⟩; have HT2 := Aside0.mk (HT2.out.below (below_step (by repeat (first | (with_reducible first | exact Below.refl _ _ | apply pw_below_drewN | apply below_alloc | apply below_drew) | exact Below.refl _ _)) hb7)); clear hb7)
            go_wp2_with fail
            refine hK.out _ _ HT2.out.cells (fun hHeld => ?_)
            clear hK K
            (try simp only [Act.put, List.setIfInBounds_toArray, List.set_cons_zero, List.set_cons_succ])
            refine wpAnyH_ready (rs := [22]) (by kernel_rfl) (by simp) ?_
            refine AllReadyH.cons (o := _) (gaS (gaS (gaS (gaS (gaS (gaS (gaS (gaS (gaS (gaS (gaS (gaS (gaS (gaS (gaS (gaS (gaS (gaS (gaS (gaS (gaS (gaS (ga0))))))))))))))))))))))) (fun K hK => ?_) AllReadyH.nil
            go_simp
            (go_at_call 24; (with_reducible refine (HLE.out _ (HT2.out.below ?sb)).mono ?_); (case sb => exact (by repeat (first | (with_reducible first | exact Below.refl _ _ | apply pw_below_drewN | apply below_alloc | apply below_drew) | exact Below.refl _ _))); rintro e w7 ⟨rfl, hb7⟩; have HT2 := Aside0.mk (HT2.out.below (below_step (by repeat (first | (with_reducible first | exact Below.refl _ _ | apply pw_below_drewN | apply below_alloc | apply below_drew) | exact Below.refl _ _)) hb7)); clear hb7)
            go_wp2_with fail
            refine hK.out _ _ HT2.out.cells (fun hHeld => ?_)
            clear hK K
            (try simp only [Act.put, List.setIfInBounds_toArray, List.set_cons_zero, List.set_cons_succ])
            refine wpAnyH_take (i := 23) (oi := _) (v := ?v23u1) (gaS (gaS (gaS (gaS (gaS (gaS (gaS (gaS (gaS (gaS (gaS (gaS (gaS (gaS (gaS (gaS (gaS (gaS (gaS (gaS (gaS (gaS (gaS (ga0)))))))))))))))))))))))) (by kernel_rfl) (by kernel_rfl) (by kernel_rfl) (fun _ _ _ h => h) (Or.inl ⟨by rfl, ?hy23u1⟩) (by assumption) ?rest23u1
            case hy23u1 => (intro w hSw; (try dsimp only at hSw); go_simp; try with_reducible rfl)
            (try simp only [Act.put, List.setIfInBounds_toArray, List.set_cons_zero, List.set_cons_succ])
            refine wpAnyH_take (i := 24) (oi := _) (v := ?v24u1) (gaS (gaS (gaS (gaS (gaS (gaS (gaS (gaS (gaS (gaS (gaS (gaS (gaS (gaS (gaS (gaS (gaS (gaS (gaS (gaS (gaS (gaS (gaS (gaS (ga0))))))))))))))))))))))))) (by kernel_rfl) (by kernel_rfl) (by kernel_rfl) (fun _ _ _ h => h) (Or.inl ⟨by rfl, ?hy24u1⟩) (by assumption) ?rest24u1
            case hy24u1 => (intro w hSw; (try dsimp only at hSw); go_simp; try with_reducible rfl)
            (try simp only [Act.put, List.setIfInBounds_toArray, List.set_cons_zero, List.set_cons_succ])
            refine wpAnyH_take (i := 25) (oi := _) (v := ?v25u1) (gaS (gaS (gaS (gaS (gaS (gaS (gaS (gaS (gaS (gaS (gaS (gaS (gaS (gaS (gaS (gaS (gaS (gaS (gaS (gaS (gaS (gaS (gaS (gaS (gaS (ga0)))))))))))))))))))))))))) (by kernel_rfl) (by kernel_rfl) (by kernel_rfl) (fun _ _ _ h => h) (Or.inl ⟨by rfl, ?hy25u1⟩) (by assumption) ?rest25u1
            case hy25u1 => (intro w hSw; (try dsimp only at hSw); go_simp; try with_reducible rfl)
            (try simp only [Act.put, List.setIfInBounds_toArray, List.set_cons_zero, List.set_cons_succ])
            refine wpAnyH_take (i := 26) (oi := _) (v := ?v26u1) (gaS (gaS (gaS (gaS (gaS (gaS (gaS (gaS (gaS (gaS (gaS (gaS (gaS (gaS (gaS (gaS (gaS (gaS (gaS (gaS (gaS (gaS (gaS (gaS (gaS (gaS (ga0))))))))))))))))))))))))))) (by kernel_rfl) (by kernel_rfl) (by kernel_rfl) (fun _ _ _ h => h) (Or.inl ⟨by rfl, ?hy26u1⟩) (by assumption) ?rest26u1
            case hy26u1 => (intro w hSw; (try dsimp only at hSw); go_simp; try with_reducible rfl)
            (try simp only [Act.put, List.setIfInBounds_toArray, List.set_cons_zero, List.set_cons_succ])
            refine wpAnyH_take (i := 27) (oi := _) (v := ?v27u1) (gaS (gaS (gaS (gaS (gaS (gaS (gaS (gaS (gaS (gaS (gaS (gaS (gaS (gaS (gaS (gaS (gaS (gaS (gaS (gaS (gaS (gaS (gaS (gaS (gaS (gaS (gaS (ga0)))))))))))))))))))))))))))) (by kernel_rfl) (by kernel_rfl) (by kernel_rfl) (fun _ _ _ h => h) (Or.inl ⟨by rfl, ?hy27u1⟩) (by assumption) ?rest27u1
            case hy27u1 => (intro w hSw; (try dsimp only at hSw); go_simp; try with_reducible rfl)
            (try simp only [Act.put, List.setIfInBounds_toArray, List.set_cons_zero, List.set_cons_succ])
            refine wpAnyH_take (i := 28) (oi := _) (v := ?v28u1) (gaS (gaS (gaS (gaS (gaS (gaS (gaS (gaS (gaS (gaS (gaS (gaS (gaS (gaS (gaS (gaS (gaS (gaS (gaS (gaS (gaS (gaS (gaS (gaS (gaS (gaS (gaS (gaS (ga0))))))))))))))))))))))))))))) (by kernel_rfl) (by kernel_rfl) (by kernel_rfl) (fun _ _ _ h => h) (Or.inl ⟨by rfl, ?hy28u1⟩) (by assumption) ?rest28u1
            case hy28u1 => (intro w hSw; (try dsimp only at hSw); go_simp; try with_reducible rfl)
            (try simp only [Act.put, List.setIfInBounds_toArray, List.set_cons_zero, List.set_cons_succ])
            refine wpAnyH_take (i := 29) (oi := _) (v := ?v29u1) (gaS (gaS (gaS (gaS (gaS (gaS (gaS (gaS (gaS (gaS (gaS (gaS (gaS (gaS (gaS (gaS (gaS (gaS (gaS (gaS (gaS (gaS (gaS (gaS (gaS (gaS (gaS (gaS (gaS (ga0)))))))))))))))))))))))))))))) (by kernel_rfl) (by kernel_rfl) (by kernel_rfl) (fun _ _ _ h => h) (Or.inl ⟨by rfl, ?hy29u1⟩) (by assumption) ?rest29u1
            case hy29u1 => (intro w hSw; (try dsimp only at hSw); go_simp; try with_reducible rfl)
            (try simp only [Act.put, List.setIfInBounds_toArray, List.set_cons_zero, List.set_cons_succ])
            refine wpAnyH_take (i := 30) (oi := _) (v := undef) (gaS (gaS (gaS (gaS (gaS (gaS (gaS (gaS (gaS (gaS (gaS (gaS (gaS (gaS (gaS (gaS (gaS (gaS (gaS (gaS (gaS (gaS (gaS (gaS (gaS (gaS (gaS (gaS (gaS (gaS (ga0))))))))))))))))))))))))))))))) (by kernel_rfl) (by kernel_rfl) (by kernel_rfl) (fun _ _ _ h => h) (Or.inr ⟨by rfl, rfl⟩) (by assumption) ?_
            (try simp only [Act.put, List.setIfInBounds_toArray, List.set_cons_zero, List.set_cons_succ])
            refine wpAnyH_take (i := 31) (oi := _) (v := undef) (gaS (gaS (gaS (gaS (gaS (gaS (gaS (gaS (gaS (gaS (gaS (gaS (gaS (gaS (gaS (gaS (gaS (gaS (gaS (gaS (gaS (gaS (gaS (gaS (gaS (gaS (gaS (gaS (gaS (gaS (gaS (ga0)))))))))))))))))))))))))))))))) (by kernel_rfl) (by kernel_rfl) (by kernel_rfl) (fun _ _ _ h => h) (Or.inr ⟨by rfl, rfl⟩) (by assumption) ?_
            (try simp only [Act.put, List.setIfInBounds_toArray, List.set_cons_zero, List.set_cons_succ])
            refine wpAnyH_take (i := 32) (oi := _) (v := undef) (gaS (gaS (gaS (gaS (gaS (gaS (gaS (gaS (gaS (gaS (gaS (gaS (gaS (gaS (gaS (gaS (gaS (gaS (gaS (gaS (gaS (gaS (gaS (gaS (gaS (gaS (gaS (gaS (gaS (gaS (gaS (gaS (ga0))))))))))))))))))))))))))))))))) (by kernel_rfl) (by kernel_rfl) (by kernel_rfl) (fun _ _ _ h => h) (Or.inr ⟨by rfl, rfl⟩) (by assumption) ?_
            (try simp only [Act.put, List.setIfInBounds_toArray, List.set_cons_zero, List.set_cons_succ])
            refine wpAnyH_take (i := 33) (oi := _) (v := undef) (gaS (gaS (gaS (gaS (gaS (gaS (gaS (gaS (gaS (gaS (gaS (gaS (gaS (gaS (gaS (gaS (gaS (gaS (gaS (gaS (gaS (gaS (gaS (gaS (gaS (gaS (gaS (gaS (gaS (gaS (gaS (gaS (gaS (ga0)))))))))))))))))))))))))))))))))) (by kernel_rfl) (by kernel_rfl) (by kernel_rfl) (fun _ _ _ h => h) (Or.inr ⟨by rfl, rfl⟩) (by assumption) ?_
            (try simp only [Act.put, List.setIfInBounds_toArray, List.set_cons_zero, List.set_cons_succ])
            refine wpAnyH_take (i := 34) (oi := _) (v := ?v34u1) (gaS (gaS (gaS (gaS (gaS (gaS (gaS (gaS (gaS (gaS (gaS (gaS (gaS (gaS (gaS (gaS (gaS (gaS (gaS (gaS (gaS (gaS (gaS (gaS (gaS (gaS (gaS (gaS (gaS (gaS (gaS (gaS (gaS (gaS (ga0))))))))))))))))))))))))))))))))))) (by kernel_rfl) (by kernel_rfl) (by kernel_rfl) (fun _ _ _ h => h) (Or.inl ⟨by rfl, ?hy34u1⟩) (by assumption) ?rest34u1
            case hy34u1 => (intro w hSw; (try dsimp only at hSw); go_simp; try with_reducible rfl)
            (try simp only [Act.put, List.setIfInBounds_toArray, List.set_cons_zero, List.set_cons_succ])
            refine wpAnyH_take (i := 35) (oi := _) (v := ?v35u1) (gaS (gaS (gaS (gaS (gaS (gaS (gaS (gaS (gaS (gaS (gaS (gaS (gaS (gaS (gaS (gaS (gaS (gaS (gaS (gaS (gaS (gaS (gaS (gaS (gaS (gaS (gaS (gaS (gaS (gaS (gaS (gaS (gaS (gaS (gaS (ga0)))))))))))))))))))))))))))))))))))) (by kernel_rfl) (by kernel_rfl) (by kernel_rfl) (fun _ _ _ h => h) (Or.inl ⟨by rfl, ?hy35u1⟩) (by assumption) ?rest35u1
            case hy35u1 => (intro w hSw; (try dsimp only at hSw); go_simp; try with_reducible rfl)
            (try simp only [Act.put, List.setIfInBounds_toArray, List.set_cons_zero, List.set_cons_succ])
            refine wpAnyH_done (by kernel_rfl) ?_ _
            clear x0 x1 x2 x3 x4 x5
            obtain ⟨x0, x1, x2, x3, x4, x5⟩ := HT2.out.a.cells
            obtain ⟨⟨n0, n1⟩, m0, m1⟩ := HT2.out.cells
            go_wp2
            exact ⟨⟨q + 1, s', rl', va', by go_num, by omega, by omega, ⟨HT2.out.st⟩⟩, by simp [RowKit.intOf]; omega⟩
          · obtain ⟨p1, p2⟩ := putM_no (by rw [hput]; exact he)
            rw [hput] at p1 p2
            dsimp only at p1 p2
            replace p1 := p1.symm
            replace p2 := p2.symm
            subst p1
            subst p2
            have hs4 := goodT_sz HS.out.good
            have hrl := good_len (goodT_good HS.out.good).1
            have he1 : (e' != 0) = true := bne_iff_ne.2 he
            have he2 : (e' == 0) = false := beq_eq_false_iff_ne.2 he
            have hs' : (s.size : Int) ≤ (mo : Int) := by have := HS.out.m; omega
            clear hput he
            go_upto_region 14 with (first | (go_at_call 12; (with_reducible refine (HFI.out _ HS.out.b).mono ?_); rintro e w3 ⟨rfl, hb3⟩; have HS := Aside0.mk (HS.out.below hb3); have HA := Aside0.mk (HA.out.below hb3); clear hb3; clear x0 x1 x2 x3 x4 x5 xl; obtain ⟨x0, x1, x2, x3, x4, x5⟩ := HA.out.cells; have xl := HA.out.lt) | (go_at_call 20; (with_reducible refine (HTE.out _ HS.out).mono ?_); rintro e w4 ⟨A8, c8, rfl, hr8, hb4⟩; have hs8 := HS.out.b.size; have HS := Aside0.mk ((HS.out.below hb4).below (below_alloc (Below.refl _ _) (.cells #[.string s, sv A8 rl c8] 24))); have HA := Aside0.mk ((HA.out.below hb4).below (below_alloc (Below.refl _ _) (.cells #[.string s, sv A8 rl c8] 24))); have HT8 := Aside0.mk (Tx.new hr8 (by exact hs8) : Tx _ w.heap.size w4.heap.size s A8 c8 rl); clear hr8 hb4 hs8; clear x0 x1 x2 x3 x4 x5 xl; obtain ⟨x0, x1, x2, x3, x4, x5⟩ := HA.out.cells; have xl := HA.out.lt) | (go_at_call 19; (with_reducible refine (HPU.out _ HS.out).mono ?_); rintro e w5 ⟨rfl, va', hs5, hk5⟩; have HA := Aside0.mk (HA.out.kt hk5); have HT8 := Aside0.mk (HT8.out.kt hk5); have HS := Aside0.mk hs5; clear hs5 hk5; clear x0 x1 x2 x3 x4 x5 xl; obtain ⟨x0, x1, x2, x3, x4, x5⟩ := HA.out.cells; have xl := HA.out.lt) | (go_at_call 20; (with_reducible refine (HTE2.out _ _ HS.out).mono ?_); rintro e w6 ⟨A9, c9, rfl, hr9, hb6⟩; have hs9 := HS.out.b.size; have HS := Aside0.mk ((HS.out.below hb6).below (below_alloc (Below.refl _ _) (.cells #[.string s, sv A9 rl c9] 24))); have HA := Aside0.mk ((HA.out.below hb6).below (below_alloc (Below.refl _ _) (.cells #[.string s, sv A9 rl c9] 24))); have HT8 := Aside0.mk ((HT8.out.below hb6).below (below_alloc (Below.refl _ _) (.cells #[.string s, sv A9 rl c9] 24))); have HT9 := Aside0.mk (Tx.new hr9 (by exact hs9) : Tx _ w.heap.size w6.heap.size s A9 c9 rl); clear hr9 hb6 hs9; clear x0 x1 x2 x3 x4 x5 xl; obtain ⟨x0, x1, x2, x3, x4, x5⟩ := HA.out.cells; have xl := HA.out.lt))
            have HT2 := Aside0.mk (⟨HS.out, HT8.out, HT9.out, HA.out⟩ : T2 w _ w1.heap.size va' mo s rl (q + 1) w4.heap.size w6.heap.size s A8 c8 rl A9 c9 pb f t x (sv A1 m c1) k1 k2)
            clear HS HA HT8 HT9 HFI HTE HPU HTE2 HC
            clear x0 x1 x2 x3 x4 x5 xl
            generalize World.alloc w6 _ = w7 at *
            have HGO := Aside0.mk (fun (W : World) (h : T2 w W w1.heap.size va' mo s rl (q + 1) w4.heap.size w6.heap.size s A8 c8 rl A9 c9 pb f t x (sv A1 m c1) k1 k2) => good_c h.st.good W _ A9 c9 h.t9.r)
            have HLE := Aside0.mk (fun (W : World) (h : T2 w W w1.heap.size va' mo s rl (q + 1) w4.heap.size w6.heap.size s A8 c8 rl A9 c9 pb f t x (sv A1 m c1) k1 k2) => len_s h.st)
            have HRO := Aside0.mk (fun (W : World) (h : T2 w W w1.heap.size va' mo s rl (q + 1) w4.heap.size w6.heap.size s A8 c8 rl A9 c9 pb f t x (sv A1 m c1) k1 k2) => room_s h.st hmo)
            have HSA := Aside0.mk (fun (W : World) (h : T2 w W w1.heap.size va' mo s rl (q + 1) w4.heap.size w6.heap.size s A8 c8 rl A9 c9 pb f t x (sv A1 m c1) k1 k2) => same_c s rl (by omega) W A9 A8 c9 c8 (Kd.R_reads' h.t9.r).2.2 (Kd.R_reads' h.t9.r).2.1 (Kd.R_reads' h.t8.r).2.2 (Kd.R_reads' h.t8.r).2.1)
            have hw1 : IntKind.i64.wrap ((mo : Int) - (s.size : Int)) = (mo : Int) - s.size := by rw [wrap_ok _ (by omega)]
            have hd1 : decide (mo < s.size) = false := decide_eq_false (by omega)
            have hd2 : decide ((mo : Int) < (s.size : Int)) = false := decide_eq_false (by omega)
            refine wp_region_held_drew (S := fun w' => (w'.cell? ⟨w6.heap.size, 0, none⟩ = some (.string s) ∧ w'.cell? ⟨w6.heap.size, 1, none⟩ = some (sv A9 rl c9)) ∧ w'.cell? ⟨w4.heap.size, 0, none⟩ = some (.string s) ∧ w'.cell? ⟨w4.heap.size, 1, none⟩ = some (sv A8 rl c8)) (by kernel_rfl) ?_ (fun hHeld => ?_)
            · exact HT2.out.cells
            refine wpAnyH_take (i := 0) (oi := _) (v := ?v0u2) (ga0) (by kernel_rfl) (by kernel_rfl) (by kernel_rfl) (fun _ _ _ h => h) (Or.inl ⟨by rfl, ?hy0u2⟩) (by assumption) ?rest0u2
            case hy0u2 => (intro w hSw; (try dsimp only at hSw); go_simp; try with_reducible rfl)
            (try simp only [Act.put, List.setIfInBounds_toArray, List.set_cons_zero, List.set_cons_succ])
            refine wpAnyH_ready (rs := [1]) (by kernel_rfl) (by simp) ?_
            refine AllReadyH.cons (o := _) (gaS (ga0)) (fun K hK => ?_) AllReadyH.nil
            go_simp
            (go_at_call 13; (with_reducible refine (HGO.out _ (HT2.out.below ?sb)).mono ?_); (case sb => exact (by repeat (first | (with_reducible first | exact Below.refl _ _ | apply pw_below_drewN | apply below_alloc | apply below_drew) | exact Below.refl _ _))); rintro e w7 ⟨rfl, hb7⟩; have HT2 := Aside0.mk (HT2.out.below (below_step (by repeat (first | (with_reducible first | exact Below.refl _ _ | apply pw_below_drewN | apply below_alloc | apply below_drew) | exact Below.refl _ _)) hb7)); clear hb7)
            go_wp2_with fail
            refine hK.out _ _ HT2.out.cells (fun hHeld => ?_)
            clear hK K
            (try simp only [Act.put, List.setIfInBounds_toArray, List.set_cons_zero, List.set_cons_succ])
            refine wpAnyH_take (i := 2) (oi := _) (v := ?v2u2) (gaS (gaS (ga0))) (by kernel_rfl) (by kernel_rfl) (by kernel_rfl) (fun _ _ _ h => h) (Or.inl ⟨by rfl, ?hy2u2⟩) (by assumption) ?rest2u2
            case hy2u2 => (intro w hSw; (try dsimp only at hSw); go_simp; try with_reducible rfl)
            (try simp only [Act.put, List.setIfInBounds_toArray, List.set_cons_zero, List.set_cons_succ])
            refine wpAnyH_take (i := 3) (oi := _) (v := ?v3u2) (gaS (gaS (gaS (ga0)))) (by kernel_rfl) (by kernel_rfl) (by kernel_rfl) (fun _ _ _ h => h) (Or.inl ⟨by rfl, ?hy3u2⟩) (by assumption) ?rest3u2
            case hy3u2 => (intro w hSw; (try dsimp only at hSw); go_simp; try with_reducible rfl)
            (try simp only [Act.put, List.setIfInBounds_toArray, List.set_cons_zero, List.set_cons_succ])
            refine wpAnyH_take (i := 4) (oi := _) (v := ?v4u2) (gaS (gaS (gaS (gaS (ga0))))) (by kernel_rfl) (by kernel_rfl) (by kernel_rfl) (fun _ _ _ h => h) (Or.inl ⟨by rfl, ?hy4u2⟩) (by assumption) ?rest4u2
            case hy4u2 => (intro w hSw; (try dsimp only at hSw); go_simp; try with_reducible rfl)
            (try simp only [Act.put, List.setIfInBounds_toArray, List.set_cons_zero, List.set_cons_succ])
            refine wpAnyH_take (i := 6) (oi := _) (v := ?v6u2) (gaS (gaS (gaS (gaS (gaS (gaS (ga0))))))) (by kernel_rfl) (by kernel_rfl) (by kernel_rfl) (fun _ _ _ h => h) (Or.inl ⟨by rfl, ?hy6u2⟩) (by assumption) ?rest6u2
            case hy6u2 => (intro w hSw; (try dsimp only at hSw); go_simp; try with_reducible rfl)
            (try simp only [Act.put, List.setIfInBounds_toArray, List.set_cons_zero, List.set_cons_succ])
            refine wpAnyH_take (i := 7) (oi := _) (v := ?v7u2) (gaS (gaS (gaS (gaS (gaS (gaS (gaS (ga0)))))))) (by kernel_rfl) (by kernel_rfl) (by kernel_rfl) (fun _ _ _ h => h) (Or.inl ⟨by rfl, ?hy7u2⟩) (by assumption) ?rest7u2
            case hy7u2 => (intro w hSw; (try dsimp only at hSw); go_simp; try with_reducible rfl)
            (try simp only [Act.put, List.setIfInBounds_toArray, List.set_cons_zero, List.set_cons_succ])
            refine wpAnyH_take (i := 8) (oi := _) (v := ?v8u2) (gaS (gaS (gaS (gaS (gaS (gaS (gaS (gaS (ga0))))))))) (by kernel_rfl) (by kernel_rfl) (by kernel_rfl) (fun _ _ _ h => h) (Or.inl ⟨by rfl, ?hy8u2⟩) (by assumption) ?rest8u2
            case hy8u2 => (intro w hSw; (try dsimp only at hSw); go_simp; try with_reducible rfl)
            (try simp only [Act.put, List.setIfInBounds_toArray, List.set_cons_zero, List.set_cons_succ])
            refine wpAnyH_ready (rs := [5]) (by kernel_rfl) (by simp) ?_
            refine AllReadyH.cons (o := _) (gaS (gaS (gaS (gaS (gaS (ga0)))))) (fun K hK => ?_) AllReadyH.nil
            go_simp
            (go_at_call 24; (with_reducible refine (HLE.out _ (HT2.out.below ?sb)).mono ?_); (case sb => exact (by repeat (first | (with_reducible first | exact Below.refl _ _ | apply pw_below_drewN | apply below_alloc | apply below_drew) | exact Below.refl _ _))); rintro e w7 ⟨rfl, hb7⟩; have HT2 := Aside0.mk (HT2.out.below (below_step (by repeat (first | (with_reducible first | exact Below.refl _ _ | apply pw_below_drewN | apply below_alloc | apply below_drew) | exact Below.refl _ _)) hb7)); clear hb7)
            go_wp2_with fail
            refine hK.out _ _ HT2.out.cells (fun hHeld => ?_)
            clear hK K
            (try simp only [Act.put, List.setIfInBounds_toArray, List.set_cons_zero, List.set_cons_succ])
            refine wpAnyH_take (i := 9) (oi := _) (v := ?v9u2) (gaS (gaS (gaS (gaS (gaS (gaS (gaS (gaS (gaS (ga0)))))))))) (by kernel_rfl) (by kernel_rfl) (by kernel_rfl) (fun _ _ _ h => h) (Or.inl ⟨by rfl, ?hy9u2⟩) (by assumption) ?rest9u2
            case hy9u2 => (intro w hSw; (try dsimp only at hSw); go_simp; try with_reducible rfl)
            (try simp only [Act.put, List.setIfInBounds_toArray, List.set_cons_zero, List.set_cons_succ])
            refine wpAnyH_take (i := 10) (oi := _) (v := ?v10u2) (gaS (gaS (gaS (gaS (gaS (gaS (gaS (gaS (gaS (gaS (ga0))))))))))) (by kernel_rfl) (by kernel_rfl) (by kernel_rfl) (fun _ _ _ h => h) (Or.inl ⟨by rfl, ?hy10u2⟩) (by assumption) ?rest10u2
            case hy10u2 => (intro w hSw; (try dsimp only at hSw); go_simp; try with_reducible rfl)
            (try simp only [Act.put, List.setIfInBounds_toArray, List.set_cons_zero, List.set_cons_succ])
            refine wpAnyH_take (i := 11) (oi := _) (v := ?v11u2) (gaS (gaS (gaS (gaS (gaS (gaS (gaS (gaS (gaS (gaS (gaS (ga0)))))))))))) (by kernel_rfl) (by kernel_rfl) (by kernel_rfl) (fun _ _ _ h => h) (Or.inl ⟨by rfl, ?hy11u2⟩) (by assumption) ?rest11u2
            case hy11u2 => (intro w hSw; (try dsimp only at hSw); go_simp; try with_reducible rfl)
            (try simp only [Act.put, List.setIfInBounds_toArray, List.set_cons_zero, List.set_cons_succ])
            refine wpAnyH_take (i := 12) (oi := _) (v := ?v12u2) (gaS (gaS (gaS (gaS (gaS (gaS (gaS (gaS (gaS (gaS (gaS (gaS (ga0))))))))))))) (by kernel_rfl) (by kernel_rfl) (by kernel_rfl) (fun _ _ _ h => h) (Or.inl ⟨by rfl, ?hy12u2⟩) (by assumption) ?rest12u2
            case hy12u2 => (intro w hSw; (try dsimp only at hSw); go_simp; try with_reducible rfl)
            (try simp only [Act.put, List.setIfInBounds_toArray, List.set_cons_zero, List.set_cons_succ])
            refine wpAnyH_take (i := 14) (oi := _) (v := ?v14u2) (gaS (gaS (gaS (gaS (gaS (gaS (gaS (gaS (gaS (gaS (gaS (gaS (gaS (gaS (ga0))))))))))))))) (by kernel_rfl) (by kernel_rfl) (by kernel_rfl) (fun _ _ _ h => h) (Or.inl ⟨by rfl, ?hy14u2⟩) (by assumption) ?rest14u2
            case hy14u2 => (intro w hSw; (try dsimp only at hSw); go_simp; try with_reducible rfl)
            (try simp only [Act.put, List.setIfInBounds_toArray, List.set_cons_zero, List.set_cons_succ])
            refine wpAnyH_ready (rs := [13]) (by kernel_rfl) (by simp) ?_
            refine AllReadyH.cons (o := _) (gaS (gaS (gaS (gaS (gaS (gaS (gaS (gaS (gaS (gaS (gaS (gaS (gaS (ga0)))))))))))))) (fun K hK => ?_) AllReadyH.nil
            go_simp
            (go_at_call 24; (with_reducible refine (HLE.out _ (HT2.out.below ?sb)).mono ?_); (case sb => exact (by repeat (first | (with_reducible first | exact Below.refl _ _ | apply pw_below_drewN | apply below_alloc | apply below_drew) | exact Below.refl _ _))); rintro e w7 ⟨rfl, hb7⟩; have HT2 := Aside0.mk (HT2.out.below (below_step (by repeat (first | (with_reducible first | exact Below.refl _ _ | apply pw_below_drewN | apply below_alloc | apply below_drew) | exact Below.refl _ _)) hb7)); clear hb7)
            go_wp2_with fail
            refine hK.out _ _ HT2.out.cells (fun hHeld => ?_)
            clear hK K
            (try simp only [Act.put, List.setIfInBounds_toArray, List.set_cons_zero, List.set_cons_succ])
            refine wpAnyH_take (i := 15) (oi := _) (v := ?v15u2) (gaS (gaS (gaS (gaS (gaS (gaS (gaS (gaS (gaS (gaS (gaS (gaS (gaS (gaS (gaS (ga0)))))))))))))))) (by kernel_rfl) (by kernel_rfl) (by kernel_rfl) (fun _ _ _ h => h) (Or.inl ⟨by rfl, ?hy15u2⟩) (by assumption) ?rest15u2
            case hy15u2 => (intro w hSw; (try dsimp only at hSw); go_simp; try with_reducible rfl)
            (try simp only [Act.put, List.setIfInBounds_toArray, List.set_cons_zero, List.set_cons_succ])
            refine wpAnyH_take (i := 16) (oi := _) (v := ?v16u2) (gaS (gaS (gaS (gaS (gaS (gaS (gaS (gaS (gaS (gaS (gaS (gaS (gaS (gaS (gaS (gaS (ga0))))))))))))))))) (by kernel_rfl) (by kernel_rfl) (by kernel_rfl) (fun _ _ _ h => h) (Or.inl ⟨by rfl, ?hy16u2⟩) (by assumption) ?rest16u2
            case hy16u2 => (intro w hSw; (try dsimp only at hSw); go_simp; try with_reducible rfl)
            (try simp only [Act.put, List.setIfInBounds_toArray, List.set_cons_zero, List.set_cons_succ])
            refine wpAnyH_take (i := 17) (oi := _) (v := ?v17u2) (gaS (gaS (gaS (gaS (gaS (gaS (gaS (gaS (gaS (gaS (gaS (gaS (gaS (gaS (gaS (gaS (gaS (ga0)))))))))))))))))) (by kernel_rfl) (by kernel_rfl) (by kernel_rfl) (fun _ _ _ h => h) (Or.inl ⟨by rfl, ?hy17u2⟩) (by assumption) ?rest17u2
            case hy17u2 => (intro w hSw; (try dsimp only at hSw); go_simp; try with_reducible rfl)
            (try simp only [Act.put, List.setIfInBounds_toArray, List.set_cons_zero, List.set_cons_succ])
            refine wpAnyH_take (i := 18) (oi := _) (v := ?v18u2) (gaS (gaS (gaS (gaS (gaS (gaS (gaS (gaS (gaS (gaS (gaS (gaS (gaS (gaS (gaS (gaS (gaS (gaS (ga0))))))))))))))))))) (by kernel_rfl) (by kernel_rfl) (by kernel_rfl) (fun _ _ _ h => h) (Or.inl ⟨by rfl, ?hy18u2⟩) (by assumption) ?rest18u2
            case hy18u2 => (intro w hSw; (try dsimp only at hSw); go_simp; try with_reducible rfl)
            (try simp only [Act.put, List.setIfInBounds_toArray, List.set_cons_zero, List.set_cons_succ])
            refine wpAnyH_take (i := 20) (oi := _) (v := ?v20u2) (gaS (gaS (gaS (gaS (gaS (gaS (gaS (gaS (gaS (gaS (gaS (gaS (gaS (gaS (gaS (gaS (gaS (gaS (gaS (gaS (ga0))))))))))))))))))))) (by kernel_rfl) (by kernel_rfl) (by kernel_rfl) (fun _ _ _ h => h) (Or.inl ⟨by rfl, ?hy20u2⟩) (by assumption) ?rest20u2
            case hy20u2 => (intro w hSw; (try dsimp only at hSw); go_simp; try with_reducible rfl)
            (try simp only [Act.put, List.setIfInBounds_toArray, List.set_cons_zero, List.set_cons_succ])
            refine wpAnyH_take (i := 21) (oi := _) (v := ?v21u2) (gaS (gaS (gaS (gaS (gaS (gaS (gaS (gaS (gaS (gaS (gaS (gaS (gaS (gaS (gaS (gaS (gaS (gaS (gaS (gaS (gaS (ga0)))))))))))))))))))))) (by kernel_rfl) (by kernel_rfl) (by kernel_rfl) (fun _ _ _ h => h) (Or.inl ⟨by rfl, ?hy21u2⟩) (by assumption) ?rest21u2
            case hy21u2 => (intro w hSw; (try dsimp only at hSw); go_simp; try with_reducible rfl)
            (try simp only [Act.put, List.setIfInBounds_toArray, List.set_cons_zero, List.set_cons_succ])
            refine wpAnyH_ready (rs := [19]) (by kernel_rfl) (by simp) ?_
            refine AllReadyH.cons (o := _) (gaS (gaS (gaS (gaS (gaS (gaS (gaS (gaS (gaS (gaS (gaS (gaS (gaS (gaS (gaS (gaS (gaS (gaS (gaS (ga0)))))))))))))))))))) (fun K hK => ?_) AllReadyH.nil
            go_simp
            (go_at_call 25; (with_reducible refine (HRO.out _ (HT2.out.below ?sb)).mono ?_); (case sb => exact (by repeat (first | (with_reducible first | exact Below.refl _ _ | apply pw_below_drewN | apply below_alloc | apply below_drew) | exact Below.refl _ _))); rintro e w7 ⟨rfl, hb7⟩; have HT2 := Aside0.mk (HT2.out.below (below_step (by repeat (first | (with_reducible first | exact Below.refl _ _ | apply pw_below_drewN | apply below_alloc | apply below_drew) | exact Below.refl _ _)) hb7)); clear hb7)
            go_wp2_with fail
            refine hK.out _ _ HT2.out.cells (fun hHeld => ?_)
            clear hK K
            (try simp only [Act.put, List.setIfInBounds_toArray, List.set_cons_zero, List.set_cons_succ])
            refine wpAnyH_ready (rs := [22]) (by kernel_rfl) (by simp) ?_
            refine AllReadyH.cons (o := _) (gaS (gaS (gaS (gaS (gaS (gaS (gaS (gaS (gaS (gaS (gaS (gaS (gaS (gaS (gaS (gaS (gaS (gaS (gaS (gaS (gaS (gaS (ga0))))))))))))))))))))))) (fun K hK => ?_) AllReadyH.nil
            go_simp
            (go_at_call 24; (with_reducible refine (HLE.out _ (HT2.out.below ?sb)).mono ?_); (case sb => exact (by repeat (first | (with_reducible first | exact Below.refl _ _ | apply pw_below_drewN | apply below_alloc | apply below_drew) | exact Below.refl _ _))); rintro e w7 ⟨rfl, hb7⟩; have HT2 := Aside0.mk (HT2.out.below (below_step (by repeat (first | (with_reducible first | exact Below.refl _ _ | apply pw_below_drewN | apply below_alloc | apply below_drew) | exact Below.refl _ _)) hb7)); clear hb7)
            go_wp2_with fail
            refine hK.out _ _ HT2.out.cells (fun hHeld => ?_)
            clear hK K
            (try simp only [Act.put, List.setIfInBounds_toArray, List.set_cons_zero, List.set_cons_succ])
            refine wpAnyH_take (i := 23) (oi := _) (v := ?v23u2) (gaS (gaS (gaS (gaS (gaS (gaS (gaS (gaS (gaS (gaS (gaS (gaS (gaS (gaS (gaS (gaS (gaS (gaS (gaS (gaS (gaS (gaS (gaS (ga0)))))))))))))))))))))))) (by kernel_rfl) (by kernel_rfl) (by kernel_rfl) (fun _ _ _ h => h) (Or.inl ⟨by rfl, ?hy23u2⟩) (by assumption) ?rest23u2
            case hy23u2 => (intro w hSw; (try dsimp only at hSw); go_simp; try with_reducible rfl)
            (try simp only [Act.put, List.setIfInBounds_toArray, List.set_cons_zero, List.set_cons_succ])
            refine wpAnyH_take (i := 24) (oi := _) (v := ?v24u2) (gaS (gaS (gaS (gaS (gaS (gaS (gaS (gaS (gaS (gaS (gaS (gaS (gaS (gaS (gaS (gaS (gaS (gaS (gaS (gaS (gaS (gaS (gaS (gaS (ga0))))))))))))))))))))))))) (by kernel_rfl) (by kernel_rfl) (by kernel_rfl) (fun _ _ _ h => h) (Or.inl ⟨by rfl, ?hy24u2⟩) (by assumption) ?rest24u2
            case hy24u2 => (intro w hSw; (try dsimp only at hSw); go_simp; try with_reducible rfl)
            (try simp only [Act.put, List.setIfInBounds_toArray, List.set_cons_zero, List.set_cons_succ])
            refine wpAnyH_take (i := 25) (oi := _) (v := ?v25u2) (gaS (gaS (gaS (gaS (gaS (gaS (gaS (gaS (gaS (gaS (gaS (gaS (gaS (gaS (gaS (gaS (gaS (gaS (gaS (gaS (gaS (gaS (gaS (gaS (gaS (ga0)))))))))))))))))))))))))) (by kernel_rfl) (by kernel_rfl) (by kernel_rfl) (fun _ _ _ h => h) (Or.inl ⟨by rfl, ?hy25u2⟩) (by assumption) ?rest25u2
            case hy25u2 => (intro w hSw; (try dsimp only at hSw); go_simp; try with_reducible rfl)
            (try simp only [Act.put, List.setIfInBounds_toArray, List.set_cons_zero, List.set_cons_succ])
            refine wpAnyH_take (i := 26) (oi := _) (v := ?v26u2) (gaS (gaS (gaS (gaS (gaS (gaS (gaS (gaS (gaS (gaS (gaS (gaS (gaS (gaS (gaS (gaS (gaS (gaS (gaS (gaS (gaS (gaS (gaS (gaS (gaS (gaS (ga0))))))))))))))))))))))))))) (by kernel_rfl) (by kernel_rfl) (by kernel_rfl) (fun _ _ _ h => h) (Or.inl ⟨by rfl, ?hy26u2⟩) (by assumption) ?rest26u2
            case hy26u2 => (intro w hSw; (try dsimp only at hSw); go_simp; try with_reducible rfl)
            (try simp only [Act.put, List.setIfInBounds_toArray, List.set_cons_zero, List.set_cons_succ])
            refine wpAnyH_take (i := 27) (oi := _) (v := ?v27u2) (gaS (gaS (gaS (gaS (gaS (gaS (gaS (gaS (gaS (gaS (gaS (gaS (gaS (gaS (gaS (gaS (gaS (gaS (gaS (gaS (gaS (gaS (gaS (gaS (gaS (gaS (gaS (ga0)))))))))))))))))))))))))))) (by kernel_rfl) (by kernel_rfl) (by kernel_rfl) (fun _ _ _ h => h) (Or.inl ⟨by rfl, ?hy27u2⟩) (by assumption) ?rest27u2
            case hy27u2 => (intro w hSw; (try dsimp only at hSw); go_simp; try with_reducible rfl)
            (try simp only [Act.put, List.setIfInBounds_toArray, List.set_cons_zero, List.set_cons_succ])
            refine wpAnyH_take (i := 28) (oi := _) (v := ?v28u2) (gaS (gaS (gaS (gaS (gaS (gaS (gaS (gaS (gaS (gaS (gaS (gaS (gaS (gaS (gaS (gaS (gaS (gaS (gaS (gaS (gaS (gaS (gaS (gaS (gaS (gaS (gaS (gaS (ga0))))))))))))))))))))))))))))) (by kernel_rfl) (by kernel_rfl) (by kernel_rfl) (fun _ _ _ h => h) (Or.inl ⟨by rfl, ?hy28u2⟩) (by assumption) ?rest28u2
            case hy28u2 => (intro w hSw; (try dsimp only at hSw); go_simp; try with_reducible rfl)
            (try simp only [Act.put, List.setIfInBounds_toArray, List.set_cons_zero, List.set_cons_succ])
            refine wpAnyH_take (i := 29) (oi := _) (v := ?v29u2) (gaS (gaS (gaS (gaS (gaS (gaS (gaS (gaS (gaS (gaS (gaS (gaS (gaS (gaS (gaS (gaS (gaS (gaS (gaS (gaS (gaS (gaS (gaS (gaS (gaS (gaS (gaS (gaS (gaS (ga0)))))))))))))))))))))))))))))) (by kernel_rfl) (by kernel_rfl) (by kernel_rfl) (fun _ _ _ h => h) (Or.inl ⟨by rfl, ?hy29u2⟩) (by assumption) ?rest29u2
            case hy29u2 => (intro w hSw; (try dsimp only at hSw); go_simp; try with_reducible rfl)
            (try simp only [Act.put, List.setIfInBounds_toArray, List.set_cons_zero, List.set_cons_succ])
            refine wpAnyH_take (i := 30) (oi := _) (v := ?v30u2) (gaS (gaS (gaS (gaS (gaS (gaS (gaS (gaS (gaS (gaS (gaS (gaS (gaS (gaS (gaS (gaS (gaS (gaS (gaS (gaS (gaS (gaS (gaS (gaS (gaS (gaS (gaS (gaS (gaS (gaS (ga0))))))))))))))))))))))))))))))) (by kernel_rfl) (by kernel_rfl) (by kernel_rfl) (fun _ _ _ h => h) (Or.inl ⟨by rfl, ?hy30u2⟩) (by assumption) ?rest30u2
            case hy30u2 => (intro w hSw; (try dsimp only at hSw); go_simp; try with_reducible rfl)
            (try simp only [Act.put, List.setIfInBounds_toArray, List.set_cons_zero, List.set_cons_succ])
            refine wpAnyH_take (i := 31) (oi := _) (v := ?v31u2) (gaS (gaS (gaS (gaS (gaS (gaS (gaS (gaS (gaS (gaS (gaS (gaS (gaS (gaS (gaS (gaS (gaS (gaS (gaS (gaS (gaS (gaS (gaS (gaS (gaS (gaS (gaS (gaS (gaS (gaS (gaS (ga0)))))))))))))))))))))))))))))))) (by kernel_rfl) (by kernel_rfl) (by kernel_rfl) (fun _ _ _ h => h) (Or.inl ⟨by rfl, ?hy31u2⟩) (by assumption) ?rest31u2
            case hy31u2 => (intro w hSw; (try dsimp only at hSw); go_simp; try with_reducible rfl)
            (try simp only [Act.put, List.setIfInBounds_toArray, List.set_cons_zero, List.set_cons_succ])
            refine wpAnyH_ready (rs := [32]) (by kernel_rfl) (by simp) ?_
            refine AllReadyH.cons (o := _) (gaS (gaS (gaS (gaS (gaS (gaS (gaS (gaS (gaS (gaS (gaS (gaS (gaS (gaS (gaS (gaS (gaS (gaS (gaS (gaS (gaS (gaS (gaS (gaS (gaS (gaS (gaS (gaS (gaS (gaS (gaS (gaS (ga0))))))))))))))))))))))))))))))))) (fun K hK => ?_) AllReadyH.nil
            go_simp
            (go_at_call 16; (with_reducible refine (HSA.out _ (HT2.out.below ?sb)).mono ?_); (case sb => exact (by repeat (first | (with_reducible first | exact Below.refl _ _ | apply pw_below_drewN | apply below_alloc | apply below_drew) | exact Below.refl _ _))); rintro e w7 ⟨rfl, hb7⟩; have HT2 := Aside0.mk (HT2.out.below (below_step (by repeat (first | (with_reducible first | exact Below.refl _ _ | apply pw_below_drewN | apply below_alloc | apply below_drew) | exact Below.refl _ _)) hb7)); clear hb7)
            go_wp2_with fail
            refine hK.out _ _ HT2.out.cells (fun hHeld => ?_)
            clear hK K
            (try simp only [Act.put, List.setIfInBounds_toArray, List.set_cons_zero, List.set_cons_succ])
            refine wpAnyH_take (i := 33) (oi := _) (v := ?v33u2) (gaS (gaS (gaS (gaS (gaS (gaS (gaS (gaS (gaS (gaS (gaS (gaS (gaS (gaS (gaS (gaS (gaS (gaS (gaS (gaS (gaS (gaS (gaS (gaS (gaS (gaS (gaS (gaS (gaS (gaS (gaS (gaS (gaS (ga0)))))))))))))))))))))))))))))))))) (by kernel_rfl) (by kernel_rfl) (by kernel_rfl) (fun _ _ _ h => h) (Or.inl ⟨by rfl, ?hy33u2⟩) (by assumption) ?rest33u2
            case hy33u2 => (intro w hSw; (try dsimp only at hSw); go_simp; try with_reducible rfl)
            (try simp only [Act.put, List.setIfInBounds_toArray, List.set_cons_zero, List.set_cons_succ])
            refine wpAnyH_take (i := 34) (oi := _) (v := ?v34u2) (gaS (gaS (gaS (gaS (gaS (gaS (gaS (gaS (gaS (gaS (gaS (gaS (gaS (gaS (gaS (gaS (gaS (gaS (gaS (gaS (gaS (gaS (gaS (gaS (gaS (gaS (gaS (gaS (gaS (gaS (gaS (gaS (gaS (gaS (ga0))))))))))))))))))))))))))))))))))) (by kernel_rfl) (by kernel_rfl) (by kernel_rfl) (fun _ _ _ h => h) (Or.inl ⟨by rfl, ?hy34u2⟩) (by assumption) ?rest34u2
            case hy34u2 => (intro w hSw; (try dsimp only at hSw); go_simp; try with_reducible rfl)
            (try simp only [Act.put, List.setIfInBounds_toArray, List.set_cons_zero, List.set_cons_succ])
            refine wpAnyH_take (i := 35) (oi := _) (v := ?v35u2) (gaS (gaS (gaS (gaS (gaS (gaS (gaS (gaS (gaS (gaS (gaS (gaS (gaS (gaS (gaS (gaS (gaS (gaS (gaS (gaS (gaS (gaS (gaS (gaS (gaS (gaS (gaS (gaS (gaS (gaS (gaS (gaS (gaS (gaS (gaS (ga0)))))))))))))))))))))))))))))))))))) (by kernel_rfl) (by kernel_rfl) (by kernel_rfl) (fun _ _ _ h => h) (Or.inl ⟨by rfl, ?hy35u2⟩) (by assumption) ?rest35u2
            case hy35u2 => (intro w hSw; (try dsimp only at hSw); go_simp; try with_reducible rfl)
            (try simp only [Act.put, List.setIfInBounds_toArray, List.set_cons_zero, List.set_cons_succ])
            refine wpAnyH_done (by kernel_rfl) ?_ _
            go_wp2
            exact ⟨⟨q + 1, s, rl, va', by go_num, by omega, by omega, ⟨HT2.out.st⟩⟩, by simp [RowKit.intOf]; omega⟩
      · have hex2 : ¬ q < l.length ∨ (q < l.length ∧ ¬ q < 50) := by omega
        clear hex HR HM hc
        rcases hex2 with hx | ⟨hx, hx2⟩
        · have hx' : l.length ≤ q := by omega
          go_wp2
          go_ret
          exact ⟨rfl, HS.out.b⟩
        · have hx' : (q : Int) < (l.length : Int) := by omega
          have hx2' : (50 : Int) ≤ (q : Int) := by omega
          go_wp2
          go_ret
          exact ⟨rfl, HS.out.b⟩
def bureaulaw05_PieceBounds.f (a0 : Int) (l1 : List XPB.S48) : Option Bool := if ∀ y, y ∈ l1 → y.f2.f1.length ≤ maxLen then some true else none
theorem bureaulaw05_PieceBounds.calls (a0 : Int) (A1 : Option Addr) (c1 : Nat) (l1 : List XPB.S48) (r : Bool) (w : World) (hr1 : Kd.C XPB.k48 w A1 l1.length l1) (hc1 : l1.length ≤ c1) (h : bureaulaw05_PieceBounds.f a0 l1 = some r) :
    Calls Try.prog 6 #[.int .i64 a0, .slice A1 l1.length c1] w fun e w' => e = .returned (.bool r) ∧ Below w.heap.size w w' := by
  unfold bureaulaw05_PieceBounds.f at h
  by_cases hc : ∀ y, y ∈ l1 → y.f2.f1.length ≤ maxLen
  · rw [if_pos hc] at h
    cases h
    exact Bounds_w a0 A1 c1 l1 w hr1 hc1 hc
  · rw [if_neg hc] at h
    cases h

end Go.Proofs.Ytgaggoglbkcomaa.Ext
