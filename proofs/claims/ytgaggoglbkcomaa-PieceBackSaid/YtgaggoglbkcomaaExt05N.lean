/- The law PieceBack, by its walk. -/
import Derived.Test.YtgaggoglbkcomaaExt05JL
import Derived.Test.YtgaggoglbkcomaaExt05EI
import Derived.Test.YtgaggoglbkcomaaExt05AD
import Derived.Test.YtgaggoglbkcomaaExtSC
import Derived.Test.YtgaggoglbkcomaaXRRx5
import Derived.Test.YtgaggoglbkcomaaXRRx2
import Derived.Test.YtgaggoglbkcomaaXRRx3
import Derived.Test.YtgaggoglbkcomaaXRRx0
import Derived.Test.YtgaggoglbkcomaaXPKx0
import Derived.Test.YtgaggoglbkcomaaWMore
import Derived.WalkKit
import Derived.WalkMore
import Derived.Below
import Derived.KernelRfl
import Derived.LoopTactic
import Derived.Deep.RegionWith
import Derived.Deep.RegionHeld3
import Derived.IntWalk
import Derived.Deep.DeepCutAuto
import Derived.Deep.CutBlock
import Derived.BigQuiet
import Derived.Laws.RangeString
import Derived.Laws.RangeAny
import Derived.Laws.Rows
import Derived.Laws.Runes
import Derived.Lib.OthersKept
import Derived.OpenShut
set_option linter.unusedVariables false
set_option linter.unusedSimpArgs false
namespace Go.Proofs.Ytgaggoglbkcomaa.Ext
open Go.RowKit Go.Lib Go.Proofs.YtgaggoglbkcomaaW.PrintWords Go.Proofs.YtgaggoglbkcomaaW.PrintMore Go.Proofs.Ytgaggoglbkcomaa.XRR

theorem AX.start (w : World) (f t : Int) (x : ByteArray) (v : Value) (k1 k2 : Bool) : AX (w.alloc (.cells #[.int .i64 f, .int .i64 t, .string x, v, .bool k1, .bool k2] 48)) w.heap.size f t x v k1 k2 := ⟨heap_alloc_new _ _⟩
/-- The store, a text's box, the last act's box. -/
structure T3 (w wr : World) (P : Nat) (va : Value) (mo : Nat) (s' : ByteArray) (rl' : List Rn) (q p7 : Nat) (s : ByteArray) (A7 : Option Addr) (c7 : Nat) (rl : List Rn) (pb : Nat) (f t : Int) (x : ByteArray) (v : Value) (k1 k2 : Bool) : Prop where
  st : ST5 w wr P va mo s' rl' q
  t7 : Tx wr w.heap.size p7 s A7 c7 rl
  a : AX wr pb f t x v k1 k2
theorem T3.below {w wr w' : World} {P mo q p7 c7 pb : Nat} {va v : Value} {s' s x : ByteArray} {rl' rl : List Rn} {A7 : Option Addr} {f t : Int} {k1 k2 : Bool} (h : T3 w wr P va mo s' rl' q p7 s A7 c7 rl pb f t x v k1 k2) (hb : Below wr.heap.size wr w') : T3 w w' P va mo s' rl' q p7 s A7 c7 rl pb f t x v k1 k2 := ⟨h.st.below hb, h.t7.below hb, h.a.below hb⟩
theorem T3.kt {w wr w' : World} {P mo q q' p7 c7 pb : Nat} {va va' v : Value} {s' s s2 x : ByteArray} {rl' rl rl2 : List Rn} {A7 : Option Addr} {f t : Int} {k1 k2 : Bool} (h : T3 w wr P va mo s' rl' q p7 s A7 c7 rl pb f t x v k1 k2) (hk : Kt wr w') (hs : ST5 w w' P va' mo s2 rl2 q') : T3 w w' P va' mo s2 rl2 q' p7 s A7 c7 rl pb f t x v k1 k2 := ⟨hs, h.t7.kt hk, h.a.kt hk⟩
theorem T3.c7 {w wr : World} {P mo q p7 c7 pb : Nat} {va v : Value} {s' s x : ByteArray} {rl' rl : List Rn} {A7 : Option Addr} {f t : Int} {k1 k2 : Bool} (h : T3 w wr P va mo s' rl' q p7 s A7 c7 rl pb f t x v k1 k2) : wr.cell? ⟨p7, 0, none⟩ = some (.string s) ∧ wr.cell? ⟨p7, 1, none⟩ = some (sv A7 rl c7) := ⟨h.t7.b.cells.1, h.t7.b.cells.2.1⟩
/-- .. and a second text's box. -/
structure T4 (w wr : World) (P : Nat) (va : Value) (mo : Nat) (s' : ByteArray) (rl' : List Rn) (q p7 : Nat) (s : ByteArray) (A7 : Option Addr) (c7 : Nat) (rl : List Rn) (pb : Nat) (f t : Int) (x : ByteArray) (v : Value) (k1 k2 : Bool) (p8 : Nat) (sc : ByteArray) (A8 : Option Addr) (c8 : Nat) (lc : List Rn) : Prop where
  h3 : T3 w wr P va mo s' rl' q p7 s A7 c7 rl pb f t x v k1 k2
  t8 : Tx wr w.heap.size p8 sc A8 c8 lc
theorem T4.below {w wr w' : World} {P mo q p7 c7 pb p8 c8 : Nat} {va v : Value} {s' s x sc : ByteArray} {rl' rl lc : List Rn} {A7 A8 : Option Addr} {f t : Int} {k1 k2 : Bool} (h : T4 w wr P va mo s' rl' q p7 s A7 c7 rl pb f t x v k1 k2 p8 sc A8 c8 lc) (hb : Below wr.heap.size wr w') : T4 w w' P va mo s' rl' q p7 s A7 c7 rl pb f t x v k1 k2 p8 sc A8 c8 lc := ⟨h.h3.below hb, h.t8.below hb⟩
theorem T4.kt {w wr w' : World} {P mo q q' p7 c7 pb p8 c8 : Nat} {va va' v : Value} {s' s s2 x sc : ByteArray} {rl' rl rl2 lc : List Rn} {A7 A8 : Option Addr} {f t : Int} {k1 k2 : Bool} (h : T4 w wr P va mo s' rl' q p7 s A7 c7 rl pb f t x v k1 k2 p8 sc A8 c8 lc) (hk : Kt wr w') (hs : ST5 w w' P va' mo s2 rl2 q') : T4 w w' P va' mo s2 rl2 q' p7 s A7 c7 rl pb f t x v k1 k2 p8 sc A8 c8 lc := ⟨h.h3.kt hk hs, h.t8.kt hk⟩
/-- .. and a third one. -/
structure T5 (w wr : World) (P : Nat) (va : Value) (mo : Nat) (s' : ByteArray) (rl' : List Rn) (q p7 : Nat) (s : ByteArray) (A7 : Option Addr) (c7 : Nat) (rl : List Rn) (pb : Nat) (f t : Int) (x : ByteArray) (v : Value) (k1 k2 : Bool) (p8 : Nat) (sc : ByteArray) (A8 : Option Addr) (c8 : Nat) (lc : List Rn) (p9 : Nat) (s9 : ByteArray) (A9 : Option Addr) (c9 : Nat) (l9 : List Rn) : Prop where
  h4 : T4 w wr P va mo s' rl' q p7 s A7 c7 rl pb f t x v k1 k2 p8 sc A8 c8 lc
  t9 : Tx wr w.heap.size p9 s9 A9 c9 l9
theorem T5.below {w wr w' : World} {P mo q p7 c7 pb p8 c8 p9 c9 : Nat} {va v : Value} {s' s x sc s9 : ByteArray} {rl' rl lc l9 : List Rn} {A7 A8 A9 : Option Addr} {f t : Int} {k1 k2 : Bool} (h : T5 w wr P va mo s' rl' q p7 s A7 c7 rl pb f t x v k1 k2 p8 sc A8 c8 lc p9 s9 A9 c9 l9) (hb : Below wr.heap.size wr w') : T5 w w' P va mo s' rl' q p7 s A7 c7 rl pb f t x v k1 k2 p8 sc A8 c8 lc p9 s9 A9 c9 l9 := ⟨h.h4.below hb, h.t9.below hb⟩
theorem T5.kt {w wr w' : World} {P mo q q' p7 c7 pb p8 c8 p9 c9 : Nat} {va va' v : Value} {s' s s2 x sc s9 : ByteArray} {rl' rl rl2 lc l9 : List Rn} {A7 A8 A9 : Option Addr} {f t : Int} {k1 k2 : Bool} (h : T5 w wr P va mo s' rl' q p7 s A7 c7 rl pb f t x v k1 k2 p8 sc A8 c8 lc p9 s9 A9 c9 l9) (hk : Kt wr w') (hs : ST5 w w' P va' mo s2 rl2 q') : T5 w w' P va' mo s2 rl2 q' p7 s A7 c7 rl pb f t x v k1 k2 p8 sc A8 c8 lc p9 s9 A9 c9 l9 := ⟨h.h4.kt hk hs, h.t9.kt hk⟩
theorem T5.cells {w wr : World} {P mo q p7 c7 pb p8 c8 p9 c9 : Nat} {va v : Value} {s' s x sc s9 : ByteArray} {rl' rl lc l9 : List Rn} {A7 A8 A9 : Option Addr} {f t : Int} {k1 k2 : Bool} (h : T5 w wr P va mo s' rl' q p7 s A7 c7 rl pb f t x v k1 k2 p8 sc A8 c8 lc p9 s9 A9 c9 l9) : (wr.cell? ⟨p7, 0, none⟩ = some (.string s) ∧ wr.cell? ⟨p7, 1, none⟩ = some (sv A7 rl c7)) ∧ (wr.cell? ⟨p8, 0, none⟩ = some (.string sc) ∧ wr.cell? ⟨p8, 1, none⟩ = some (sv A8 lc c8)) ∧ (wr.cell? ⟨p9, 0, none⟩ = some (.string s9) ∧ wr.cell? ⟨p9, 1, none⟩ = some (sv A9 l9 c9)) ∧ wr.cell? ⟨pb, 0, none⟩ = some (.int .i64 f) ∧ wr.cell? ⟨pb, 2, none⟩ = some (.string x) ∧ wr.cell? ⟨pb, 3, none⟩ = some v :=
  ⟨h.h4.h3.c7, ⟨h.h4.t8.b.cells.1, h.h4.t8.b.cells.2.1⟩, ⟨h.t9.b.cells.1, h.t9.b.cells.2.1⟩, h.h4.h3.a.cells.1, h.h4.h3.a.cells.2.2.1, h.h4.h3.a.cells.2.2.2.1⟩
theorem fit_len {x : ByteArray} {m : List Rn} (h : fitB x m = true) : m.length ≤ 5000 := (of_decide_eq_true h : _ ∧ _).2
theorem cut_k {w u : World} {P mo q : Nat} {va : Value} {s : ByteArray} {rl : List Rn} (h : ST5 w u P va mo s rl q) (hq : q ≤ 1000) (f t : Int) {sc : ByteArray} {lc : List Rn} {ec : Int} (he : cutT s rl f t = (sc, lc, ec)) :
    Calls Try.prog 21 #[.pointer (some ⟨P, 0, none⟩), .int .i64 f, .int .i64 t] u fun e w' => ∃ A c, e = .returned (.tuple #[vT sc (sv A lc c), .int .i64 ec]) ∧ RR w' u.heap.size (sv A lc c) lc ∧ Below u.heap.size u w' := by
  have := cut_s h hq f t
  rwa [he] at this
theorem back_plain {s x s' sc : ByteArray} {rl m rl' lc : List Rn} {f t ec : Int} (hput : putM s rl 4096 f t x m = (s', rl', 0)) (hcut : cutT s rl f t = (sc, lc, ec)) (hg : goodT s rl = true) : ec = 0 ∧ 0 ≤ f ∧ f ≤ 4096 ∧ x.size ≤ 4096 ∧ m.length ≤ 4096 ∧ lc.length ≤ 4096 ∧ cutT s' rl' f (f + (x.size : Int)) = (x, m, 0) ∧ putM s' rl' 4096 f (f + (x.size : Int)) sc lc = (s, rl, 0) := by
  obtain ⟨p1, p2, p3, p4, p5, p6⟩ := putM_ok (by rw [hput])
  rw [hput] at p6
  obtain ⟨a, rfl⟩ : ∃ a : Nat, f = a := ⟨f.toNat, by omega⟩
  obtain ⟨b, rfl⟩ : ∃ b : Nat, t = b := ⟨t.toNat, by omega⟩
  rw [Int.toNat_natCast, Int.toNat_natCast] at p5 p6
  have hab : a ≤ b := by omega
  have hb : b ≤ s.size := by omega
  have hs4 := goodT_sz hg
  have hx4 := goodT_sz p1
  have e1 : s' = sS s a b x := congrArg Prod.fst p6
  have e2 : rl' = spl rl a b m := congrArg (fun z => z.2.1) p6
  have hw := within_intro hg hab hb
  have hc : cutT s rl a b = (s.extract a b, sli rl a b, 0) := by
    unfold cutT
    rw [if_pos hw, Int.toNat_natCast, Int.toNat_natCast]
  rw [hc] at hcut
  have e3 : s.extract a b = sc := congrArg Prod.fst hcut
  have e4 : sli rl a b = lc := congrArg (fun z => z.2.1) hcut
  have e5 : (0 : Int) = ec := congrArg (fun z => z.2.2) hcut
  subst e1
  subst e2
  subst e3
  subst e4
  have hG := splice_good hg p1 hab hb p5
  have hsz := sS_size s x a b hab hb
  obtain ⟨c1, c2⟩ := splice_cut hg p1 hab hb p5
  obtain ⟨b1, b2⟩ := splice_back hg p1 hab hb p5
  have hgc := cut_good hg hab hb
  have hcs : (s.extract a b).size = b - a := by rw [ByteArray.size_extract]; omega
  have ec2 : ((a : Int) + (x.size : Int)) = ((a + x.size : Nat) : Int) := (Int.natCast_add _ _).symm
  refine ⟨e5.symm, by omega, by omega, hx4, good_len (goodT_good p1).1, good_len (goodT_good hgc).1, ?_, ?_⟩
  · rw [ec2]
    unfold cutT
    rw [if_pos (within_intro hG (by omega) (by omega)), Int.toNat_natCast, Int.toNat_natCast, c1, c2]
  · rw [ec2]
    unfold putM
    rw [if_pos ⟨hgc, by omega, by omega, by omega⟩, Int.toNat_natCast, Int.toNat_natCast, if_pos (by omega), b1, b2]
set_option maxRecDepth 100000 in
set_option maxHeartbeats 16000000 in
theorem Back_w (A0 : Option Addr) (c0 : Nat) (l : List XPK.S48) (f t : Int) (x : ByteArray) (A : Option Addr) (c : Nat) (m : List Rn) (k1 k2 : Bool) (w : World) (hr : Kd.C XPK.k48 w A0 l.length l) (hc : l.length ≤ c0) (hml : ∀ y, y ∈ l → y.f2.f1.length ≤ maxLen) (hm : CC w A m) (hmc : m.length ≤ c) :
    Calls Try.prog 4 #[.slice A0 l.length c0, .agg #[.int .i64 f, .int .i64 t, .string x, sv A m c, .bool k1, .bool k2]] w fun e w' => e = .returned (.bool true) ∧ Below w.heap.size w w' := by
  have HAL := Aside0.mk alive_w
  have HR := Aside0.mk hr
  have HM := Aside0.mk (⟨hm, hmc⟩ : _ ∧ _)
  have HML := Aside0.mk hml
  have HB0 := Aside0.mk (below_alloc (Below.refl w.heap.size w) (.cells #[.int .i64 f, .int .i64 t, .string x, sv A m c, .bool k1, .bool k2] 48))
  have HA := Aside0.mk (AX.start w f t x (sv A m c) k1 k2)
  have HNE : Aside0 (∀ u : World, Below w.heap.size w u → Calls Try.prog 18 #[.int .i64 4096] u fun e w' => e = .returned (.pointer (some ⟨u.heap.size, 0, none⟩)) ∧ ST5 w w' u.heap.size (.slice none 0 0) 4096 ⟨#[]⟩ [] 0 ∧ Below u.heap.size u w') := ⟨fun u hb => new_s hb 4096 (by decide)⟩
  clear hr hm hmc hml
  obtain ⟨x0, x1, x2, x3, x4, x5⟩ := HA.out.cells; have xl := HA.out.lt
  go_enter Try.func4, Try.ntmps4
  go_wp2_with (first | (go_at_call 17; (with_reducible refine (HAL.out _).mono ?_); rintro e w1 ⟨rfl, hb1⟩; have HA := Aside0.mk (HA.out.below hb1); have HB1 := Aside0.mk (below_step HB0.out hb1); clear hb1; clear x0 x1 x2 x3 x4 x5 xl; obtain ⟨x0, x1, x2, x3, x4, x5⟩ := HA.out.cells; have xl := HA.out.lt) | (go_at_call 18; (with_reducible refine (HNE.out _ HB1.out).mono ?_); rintro e w2 ⟨rfl, hs2, hb2⟩; have HL1 := Aside0.mk HA.out.lt; have HA := Aside0.mk (HA.out.below hb2); have HS2 := Aside0.mk hs2; clear hs2 hb2; clear x0 x1 x2 x3 x4 x5 xl; obtain ⟨x0, x1, x2, x3, x4, x5⟩ := HA.out.cells; have xl := HA.out.lt))
  go_loopw [6] (fun ii wr => ∃ (q : Nat) (s : ByteArray) (rl : List Rn) (va : Value), ii = .int .i64 q ∧ q ≤ l.length ∧ q ≤ 50 ∧ Aside0 (ST5 w wr w1.heap.size va 4096 s rl q) ∧ Aside0 (AX wr w.heap.size f t x (sv A m c) k1 k2)) (fun ii _ => l.length - (RowKit.intOf ii).toNat)
  case atStart => exact ⟨0, _, _, _, rfl, Nat.zero_le _, by decide, HS2, HA⟩
  case round =>
    clear HA
    obtain ⟨q, s, rl, va, rfl, hq, hq50, HS, HA⟩ := hrel
    clear x0 x1 x2 x3 x4 x5 xl
    by_cases hex : q < l.length ∧ q < 50
    · obtain ⟨hql, hq5⟩ := hex
      obtain ⟨ad, A1, c1, eA, y0, y1, y2, y3, y4, y5, hc1, hC1⟩ := XPK.at_T48 HR.out (q : Int) (by omega) (by omega)
      cases eA
      rw [Int.toNat_natCast] at y0 y1 y2 y3 y4 y5
      have hml := HML.out (XPK.rd_T48 l (q : Int)) (by
        unfold XPK.rd_T48
        rw [Int.toNat_natCast, List.getD_eq_getElem?_getD, List.getElem?_eq_getElem hql]
        exact List.getElem_mem _)
      generalize XPK.rd_T48 l (q : Int) = y at *
      obtain ⟨f1, t1, ⟨x1, m1⟩, j1, j2⟩ := y
      simp only at y0 y1 y2 y3 y4 y5 hc1 hC1 hml
      have HC := Aside0.mk hC1
      have HZ := Aside0.mk (fun (W : World) (hb : Below w.heap.size w W) => (⟨cell_old hb y0, cell_old hb y1, cell_old hb y2, cell_old hb y3, cell_old hb y4, cell_old hb y5⟩ : _ ∧ _ ∧ _ ∧ _ ∧ _ ∧ _))
      have HFI := Aside0.mk (fun (W : World) (hb : Below w.heap.size w W) => fits_c x1 m1 W A1 c1 (Kd.C_below hC1 hb) hc1)
      clear y0 y1 y2 y3 y4 y5
      obtain ⟨z0, z1, z2, z3, z4, z5⟩ := HZ.out wr HS.out.b
      cases hfi : fitB x1 m1
      · rw [hfi] at HFI
        clear hfi
        go_wp2_with (first | (go_at_call 12; (with_reducible refine (HFI.out _ HS.out.b).mono ?_); rintro e w3 ⟨rfl, hb3⟩; have HS := Aside0.mk (HS.out.below hb3); have HA := Aside0.mk (HA.out.below hb3); clear hb3; clear z0 z1 z2 z3 z4 z5; obtain ⟨z0, z1, z2, z3, z4, z5⟩ := HZ.out _ HS.out.b))
        exact ⟨⟨q + 1, s, rl, va, by go_num, by omega, by omega, ⟨HS.out.up⟩, HA⟩, by simp [RowKit.intOf]; omega⟩
      · rw [hfi] at HFI
        have hm5 := fit_len hfi
        obtain ⟨s', rl', e', hput⟩ : ∃ s' rl' e', putM s rl 4096 f1 t1 x1 m1 = (s', rl', e') := ⟨_, _, _, rfl⟩
        have HPU := Aside0.mk (fun (W : World) (h : ST5 w W w1.heap.size va 4096 s rl q) => put_k h (by omega) (by decide) x1 m1 A1 c1 (Kd.C_below HC.out h.b) hc1 (by omega) f1 t1 hput)
        clear hfi hm5 hput
        go_upto_region 10 with (first | (go_at_call 12; (with_reducible refine (HFI.out _ HS.out.b).mono ?_); rintro e w3 ⟨rfl, hb3⟩; have HS := Aside0.mk (HS.out.below hb3); have HA := Aside0.mk (HA.out.below hb3); clear hb3; clear z0 z1 z2 z3 z4 z5; obtain ⟨z0, z1, z2, z3, z4, z5⟩ := HZ.out _ HS.out.b))
        go_region_held3 (fun w' => (w'.cell? (ad.add (q * 6)) = some (.int .i64 f1) ∧ w'.cell? ⟨(ad.add (q * 6)).block, (ad.add (q * 6)).off + 1, none⟩ = some (.int .i64 t1)) ∧ w'.cell? ⟨(ad.add (q * 6)).block, (ad.add (q * 6)).off + 2, none⟩ = some (.string x1) ∧ w'.cell? ⟨(ad.add (q * 6)).block, (ad.add (q * 6)).off + 3, none⟩ = some (sv A1 m1 c1)) (first | exact ⟨⟨z0, z1⟩, z2, z3⟩ | (obtain ⟨u0, u1, u2, u3, -, -⟩ := HZ.out _ HS.out.b; exact ⟨⟨u0, u1⟩, u2, u3⟩) | go_keep) (first | (go_at_call 19; (with_reducible refine (HPU.out _ (HS.out.below ?sb)).mono ?_); (case sb => exact (by repeat (first | (with_reducible first | exact Below.refl _ _ | apply pw_below_drewN | apply below_alloc | apply below_drew) | exact Below.refl _ _))); rintro e w5 ⟨rfl, va', hs5, hk5⟩; have HA := Aside0.mk (AX.kt (HA.out.below (by repeat (first | (with_reducible first | exact Below.refl _ _ | apply pw_below_drewN | apply below_alloc | apply below_drew) | exact Below.refl _ _))) hk5); have HS := Aside0.mk hs5; clear hs5 hk5))
        go_wp2
        exact ⟨⟨q + 1, s', rl', va', by go_num, by omega, by omega, HS, HA⟩, by simp [RowKit.intOf]; omega⟩
    · have hex2 : ¬ q < l.length ∨ (q < l.length ∧ ¬ q < 50) := by omega
      clear hex HR HML hc
      rcases hex2 with hx | ⟨hx, hx2⟩
      · have hx' : l.length ≤ q := by omega
        have HFL := Aside0.mk (fun (W : World) (hb : Below w.heap.size w W) => fits_c x m W A c (Kd.C_below HM.out.1 hb) HM.out.2)
        obtain ⟨x0, x1, x2, x3, x4, x5⟩ := HA.out.cells; have xl := HA.out.lt
        cases hfi : fitB x m
        · rw [hfi] at HFL
          go_wp2_with (first | (go_at_call 12; (with_reducible refine (HFL.out _ HS.out.b).mono ?_); rintro e w3 ⟨rfl, hb3⟩; have HS := Aside0.mk (HS.out.below hb3); have HA := Aside0.mk (HA.out.below hb3); clear hb3; clear x0 x1 x2 x3 x4 x5 xl; obtain ⟨x0, x1, x2, x3, x4, x5⟩ := HA.out.cells; have xl := HA.out.lt))
          go_ret
          exact ⟨rfl, HS.out.b⟩
        · rw [hfi] at HFL
          have hm5 := fit_len hfi
          have hg0 := HS.out.good
          have hs4 := goodT_sz hg0
          have hrl := good_len (goodT_good hg0).1
          obtain ⟨sc, lc, ec, hcut⟩ : ∃ sc lc ec, cutT s rl f t = (sc, lc, ec) := ⟨_, _, _, rfl⟩
          obtain ⟨s', rl', e', hput⟩ : ∃ s' rl' e', putM s rl 4096 f t x m = (s', rl', e') := ⟨_, _, _, rfl⟩
          have HTE := Aside0.mk (fun (W : World) (h : ST5 w W w1.heap.size va 4096 s rl q) => text_s h (by omega))
          have HCU := Aside0.mk (fun (W : World) (h : ST5 w W w1.heap.size va 4096 s rl q) => cut_k h (by omega) f t hcut)
          have HPL := Aside0.mk (fun (W : World) (h : ST5 w W w1.heap.size va 4096 s rl q) => put_k h (by omega) (by decide) x m A c (Kd.C_below HM.out.1 h.b) HM.out.2 (by omega) f t hput)
          have HSA := Aside0.mk (fun (W : World) (A9 : Option Addr) (c9 : Nat) {p7 : Nat} {A7 : Option Addr} {c7 : Nat} {va2 : Value} {s2 : ByteArray} {rl2 : List Rn} {q2 : Nat} (hr : RR W w.heap.size (sv A9 rl c9) rl) (h : T3 w W w1.heap.size va2 4096 s2 rl2 q2 p7 s A7 c7 rl w.heap.size f t x (sv A m c) k1 k2) => same_c s rl (by omega) W A9 A7 c9 c7 (Kd.R_reads' hr).2.2 (Kd.R_reads' hr).2.1 (Kd.R_reads' h.t7.r).2.2 (Kd.R_reads' h.t7.r).2.1)
          by_cases he : e' = 0
          · subst he
            obtain ⟨e0, f0, f4, x4, m4, l4, hc2, hp2⟩ := back_plain hput hcut hg0
            subst e0
            have HC2 := Aside0.mk (fun (W : World) (va2 : Value) (h : ST5 w W w1.heap.size va2 4096 s' rl' (q + 1)) => cut_k h (by omega) f (f + (x.size : Int)) hc2)
            have HT3 := Aside0.mk (fun (W : World) (va2 : Value) (h : ST5 w W w1.heap.size va2 4096 s rl (q + 1 + 1)) => text_s h (by omega))
            have HP2 := Aside0.mk hp2
            have x4' : (x.size : Int) ≤ 4096 := by omega
            clear hput hcut hfi hm5 hg0 hc2 hp2
            go_upto_region 19 with (first | (go_at_call 12; (with_reducible refine (HFL.out _ HS.out.b).mono ?_); rintro e w3 ⟨rfl, hb3⟩; have HS := Aside0.mk (HS.out.below hb3); have HA := Aside0.mk (HA.out.below hb3); clear hb3; clear x0 x1 x2 x3 x4 x5 xl; obtain ⟨x0, x1, x2, x3, x4, x5⟩ := HA.out.cells; have xl := HA.out.lt) | (go_at_call 20; (with_reducible refine (HTE.out _ HS.out).mono ?_); rintro e w4 ⟨A7, c7, rfl, hr8, hb4⟩; have hs8 := HS.out.b.size; have H3 := Aside0.mk (⟨(HS.out.below hb4).below (below_alloc (Below.refl _ _) _), Tx.new hr8 hs8, (HA.out.below hb4).below (below_alloc (Below.refl _ _) _)⟩ : T3 w (w4.alloc (.cells #[.string s, sv A7 rl c7] 24)) w1.heap.size va 4096 s rl q w4.heap.size s A7 c7 rl w.heap.size f t x (sv A m c) k1 k2); clear hr8 hb4 hs8 HS HA; clear x0 x1 x2 x3 x4 x5 xl; obtain ⟨x0, x1, x2, x3, x4, x5⟩ := H3.out.a.cells; have xl := H3.out.a.lt) | (go_at_call 21; (with_reducible refine (HCU.out _ H3.out.st).mono ?_); rintro e w5 ⟨A8, c8, rfl, hr8, hb5⟩; have hs8 := H3.out.st.b.size; have H4 := Aside0.mk (⟨(H3.out.below hb5).below (below_alloc (Below.refl _ _) _), Tx.new hr8 hs8⟩ : T4 w (w5.alloc (.cells #[.string sc, sv A8 lc c8] 24)) w1.heap.size va 4096 s rl q w4.heap.size s A7 c7 rl w.heap.size f t x (sv A m c) k1 k2 w5.heap.size sc A8 c8 lc); clear hr8 hb5 hs8 H3; clear x0 x1 x2 x3 x4 x5 xl; obtain ⟨x0, x1, x2, x3, x4, x5⟩ := H4.out.h3.a.cells; have xl := H4.out.h3.a.lt) | (go_at_call 19; (with_reducible refine (HPL.out _ H4.out.h3.st).mono ?_); rintro e w6 ⟨rfl, va', hs6, hk6⟩; have H4 := Aside0.mk (H4.out.kt hk6 hs6); clear hs6 hk6; clear x0 x1 x2 x3 x4 x5 xl; obtain ⟨x0, x1, x2, x3, x4, x5⟩ := H4.out.h3.a.cells; have xl := H4.out.h3.a.lt) | (go_at_call 21; (with_reducible refine (HC2.out _ _ H4.out.h3.st).mono ?_); rintro e w7 ⟨A9, c9, rfl, hr9, hb7⟩; have hs9 := H4.out.h3.st.b.size; have H5 := Aside0.mk (⟨(H4.out.below hb7).below (below_alloc (Below.refl _ _) _), Tx.new hr9 hs9⟩ : T5 w (w7.alloc (.cells #[.string x, sv A9 m c9] 24)) w1.heap.size va' 4096 s' rl' (q + 1) w4.heap.size s A7 c7 rl w.heap.size f t x (sv A m c) k1 k2 w5.heap.size sc A8 c8 lc w7.heap.size x A9 c9 m); clear hr9 hb7 hs9 H4; clear x0 x1 x2 x3 x4 x5 xl))
            have HS1 := Aside0.mk (fun (W : World) (h : T5 w W w1.heap.size va' 4096 s' rl' (q + 1) w4.heap.size s A7 c7 rl w.heap.size f t x (sv A m c) k1 k2 w5.heap.size sc A8 c8 lc w7.heap.size x A9 c9 m) => same_c x m (by omega) W A9 A c9 c (Kd.R_reads' h.t9.r).2.2 (Kd.R_reads' h.t9.r).2.1 (Kd.C_below HM.out.1 h.h4.h3.st.b) HM.out.2)
            have HPB := Aside0.mk (fun (W : World) (h : T5 w W w1.heap.size va' 4096 s' rl' (q + 1) w4.heap.size s A7 c7 rl w.heap.size f t x (sv A m c) k1 k2 w5.heap.size sc A8 c8 lc w7.heap.size x A9 c9 m) => put_k h.h4.h3.st (by omega) (by decide) sc lc A8 c8 (Kd.R_reads' h.h4.t8.r).2.2 (Kd.R_reads' h.h4.t8.r).2.1 (by omega) f (f + (x.size : Int)) HP2.out)
            have hw1 : IntKind.i64.wrap (f + (x.size : Int)) = f + (x.size : Int) := by rw [wrap_ok _ (by omega)]
            clear HTE HCU HPL HC2 HFL
            generalize World.alloc w7 _ = w8 at *
            refine wp_region_held_drew (S := fun w' => (w'.cell? ⟨w4.heap.size, 0, none⟩ = some (.string s) ∧ w'.cell? ⟨w4.heap.size, 1, none⟩ = some (sv A7 rl c7)) ∧ (w'.cell? ⟨w5.heap.size, 0, none⟩ = some (.string sc) ∧ w'.cell? ⟨w5.heap.size, 1, none⟩ = some (sv A8 lc c8)) ∧ (w'.cell? ⟨w7.heap.size, 0, none⟩ = some (.string x) ∧ w'.cell? ⟨w7.heap.size, 1, none⟩ = some (sv A9 m c9)) ∧ w'.cell? ⟨w.heap.size, 0, none⟩ = some (.int .i64 f) ∧ w'.cell? ⟨w.heap.size, 2, none⟩ = some (.string x) ∧ w'.cell? ⟨w.heap.size, 3, none⟩ = some (sv A m c)) (by kernel_rfl) ?_ (fun hHeld => ?_)
            · exact H5.out.cells
            refine wpAnyH_take (i := 0) (oi := _) (v := ?v0u3) (ga0) (by kernel_rfl) (by kernel_rfl) (by kernel_rfl) (fun _ _ _ h => h) (Or.inl ⟨by rfl, ?hy0u3⟩) (by assumption) ?rest0u3
            case hy0u3 => (intro w hSw; (try dsimp only at hSw); go_simp; try with_reducible rfl)
            (try simp only [Act.put, List.setIfInBounds_toArray, List.set_cons_zero, List.set_cons_succ])
            refine wpAnyH_take (i := 1) (oi := _) (v := ?v1u3) (gaS (ga0)) (by kernel_rfl) (by kernel_rfl) (by kernel_rfl) (fun _ _ _ h => h) (Or.inl ⟨by rfl, ?hy1u3⟩) (by assumption) ?rest1u3
            case hy1u3 => (intro w hSw; (try dsimp only at hSw); go_simp; try with_reducible rfl)
            (try simp only [Act.put, List.setIfInBounds_toArray, List.set_cons_zero, List.set_cons_succ])
            refine wpAnyH_take (i := 2) (oi := _) (v := ?v2u3) (gaS (gaS (ga0))) (by kernel_rfl) (by kernel_rfl) (by kernel_rfl) (fun _ _ _ h => h) (Or.inl ⟨by rfl, ?hy2u3⟩) (by assumption) ?rest2u3
            case hy2u3 => (intro w hSw; (try dsimp only at hSw); go_simp; try with_reducible rfl)
            (try simp only [Act.put, List.setIfInBounds_toArray, List.set_cons_zero, List.set_cons_succ])
            refine wpAnyH_take (i := 3) (oi := _) (v := ?v3u3) (gaS (gaS (gaS (ga0)))) (by kernel_rfl) (by kernel_rfl) (by kernel_rfl) (fun _ _ _ h => h) (Or.inl ⟨by rfl, ?hy3u3⟩) (by assumption) ?rest3u3
            case hy3u3 => (intro w hSw; (try dsimp only at hSw); go_simp; try with_reducible rfl)
            (try simp only [Act.put, List.setIfInBounds_toArray, List.set_cons_zero, List.set_cons_succ])
            refine wpAnyH_take (i := 4) (oi := _) (v := ?v4u3) (gaS (gaS (gaS (gaS (ga0))))) (by kernel_rfl) (by kernel_rfl) (by kernel_rfl) (fun _ _ _ h => h) (Or.inl ⟨by rfl, ?hy4u3⟩) (by assumption) ?rest4u3
            case hy4u3 => (intro w hSw; (try dsimp only at hSw); go_simp; try with_reducible rfl)
            (try simp only [Act.put, List.setIfInBounds_toArray, List.set_cons_zero, List.set_cons_succ])
            refine wpAnyH_take (i := 5) (oi := _) (v := ?v5u3) (gaS (gaS (gaS (gaS (gaS (ga0)))))) (by kernel_rfl) (by kernel_rfl) (by kernel_rfl) (fun _ _ _ h => h) (Or.inl ⟨by rfl, ?hy5u3⟩) (by assumption) ?rest5u3
            case hy5u3 => (intro w hSw; (try dsimp only at hSw); go_simp; try with_reducible rfl)
            (try simp only [Act.put, List.setIfInBounds_toArray, List.set_cons_zero, List.set_cons_succ])
            refine wpAnyH_ready (rs := [6]) (by kernel_rfl) (by simp) ?_
            refine AllReadyH.cons (o := _) (gaS (gaS (gaS (gaS (gaS (gaS (ga0))))))) (fun K hK => ?_) AllReadyH.nil
            go_simp
            (go_at_call 16; (with_reducible refine (HS1.out _ (H5.out.below ?sb)).mono ?_); (case sb => exact (by repeat (first | (with_reducible first | exact Below.refl _ _ | apply pw_below_drewN | apply below_alloc | apply below_drew) | exact Below.refl _ _))); rintro e w9 ⟨rfl, hb9⟩; have H5 := Aside0.mk (H5.out.below (below_step (by repeat (first | (with_reducible first | exact Below.refl _ _ | apply pw_below_drewN | apply below_alloc | apply below_drew) | exact Below.refl _ _)) hb9)); clear hb9)
            go_wp2_with fail
            refine hK.out _ _ H5.out.cells (fun hHeld => ?_)
            clear hK K
            (try simp only [Act.put, List.setIfInBounds_toArray, List.set_cons_zero, List.set_cons_succ])
            refine wpAnyH_take (i := 7) (oi := _) (v := ?v7u3) (gaS (gaS (gaS (gaS (gaS (gaS (gaS (ga0)))))))) (by kernel_rfl) (by kernel_rfl) (by kernel_rfl) (fun _ _ _ h => h) (Or.inl ⟨by rfl, ?hy7u3⟩) (by assumption) ?rest7u3
            case hy7u3 => (intro w hSw; (try dsimp only at hSw); go_simp; try with_reducible rfl)
            (try simp only [Act.put, List.setIfInBounds_toArray, List.set_cons_zero, List.set_cons_succ])
            refine wpAnyH_take (i := 8) (oi := _) (v := ?v8u3) (gaS (gaS (gaS (gaS (gaS (gaS (gaS (gaS (ga0))))))))) (by kernel_rfl) (by kernel_rfl) (by kernel_rfl) (fun _ _ _ h => h) (Or.inl ⟨by rfl, ?hy8u3⟩) (by assumption) ?rest8u3
            case hy8u3 => (intro w hSw; (try dsimp only at hSw); go_simp; try with_reducible rfl)
            (try simp only [Act.put, List.setIfInBounds_toArray, List.set_cons_zero, List.set_cons_succ])
            refine wpAnyH_take (i := 9) (oi := _) (v := ?v9u3) (gaS (gaS (gaS (gaS (gaS (gaS (gaS (gaS (gaS (ga0)))))))))) (by kernel_rfl) (by kernel_rfl) (by kernel_rfl) (fun _ _ _ h => h) (Or.inl ⟨by rfl, ?hy9u3⟩) (by assumption) ?rest9u3
            case hy9u3 => (intro w hSw; (try dsimp only at hSw); go_simp; try with_reducible rfl)
            (try simp only [Act.put, List.setIfInBounds_toArray, List.set_cons_zero, List.set_cons_succ])
            refine wpAnyH_take (i := 10) (oi := _) (v := ?v10u3) (gaS (gaS (gaS (gaS (gaS (gaS (gaS (gaS (gaS (gaS (ga0))))))))))) (by kernel_rfl) (by kernel_rfl) (by kernel_rfl) (fun _ _ _ h => h) (Or.inl ⟨by rfl, ?hy10u3⟩) (by assumption) ?rest10u3
            case hy10u3 => (intro w hSw; (try dsimp only at hSw); go_simp; try with_reducible rfl)
            (try simp only [Act.put, List.setIfInBounds_toArray, List.set_cons_zero, List.set_cons_succ])
            refine wpAnyH_take (i := 11) (oi := _) (v := ?v11u3) (gaS (gaS (gaS (gaS (gaS (gaS (gaS (gaS (gaS (gaS (gaS (ga0)))))))))))) (by kernel_rfl) (by kernel_rfl) (by kernel_rfl) (fun _ _ _ h => h) (Or.inl ⟨by rfl, ?hy11u3⟩) (by assumption) ?rest11u3
            case hy11u3 => (intro w hSw; (try dsimp only at hSw); go_simp; try with_reducible rfl)
            (try simp only [Act.put, List.setIfInBounds_toArray, List.set_cons_zero, List.set_cons_succ])
            refine wpAnyH_take (i := 12) (oi := _) (v := ?v12u3) (gaS (gaS (gaS (gaS (gaS (gaS (gaS (gaS (gaS (gaS (gaS (gaS (ga0))))))))))))) (by kernel_rfl) (by kernel_rfl) (by kernel_rfl) (fun _ _ _ h => h) (Or.inl ⟨by rfl, ?hy12u3⟩) (by assumption) ?rest12u3
            case hy12u3 => (intro w hSw; (try dsimp only at hSw); go_simp; try with_reducible rfl)
            (try simp only [Act.put, List.setIfInBounds_toArray, List.set_cons_zero, List.set_cons_succ])
            refine wpAnyH_take (i := 13) (oi := _) (v := ?v13u3) (gaS (gaS (gaS (gaS (gaS (gaS (gaS (gaS (gaS (gaS (gaS (gaS (gaS (ga0)))))))))))))) (by kernel_rfl) (by kernel_rfl) (by kernel_rfl) (fun _ _ _ h => h) (Or.inl ⟨by rfl, ?hy13u3⟩) (by assumption) ?rest13u3
            case hy13u3 => (intro w hSw; (try dsimp only at hSw); go_simp; try with_reducible rfl)
            (try simp only [Act.put, List.setIfInBounds_toArray, List.set_cons_zero, List.set_cons_succ])
            refine wpAnyH_take (i := 14) (oi := _) (v := ?v14u3) (gaS (gaS (gaS (gaS (gaS (gaS (gaS (gaS (gaS (gaS (gaS (gaS (gaS (gaS (ga0))))))))))))))) (by kernel_rfl) (by kernel_rfl) (by kernel_rfl) (fun _ _ _ h => h) (Or.inl ⟨by rfl, ?hy14u3⟩) (by assumption) ?rest14u3
            case hy14u3 => (intro w hSw; (try dsimp only at hSw); go_simp; try with_reducible rfl)
            (try simp only [Act.put, List.setIfInBounds_toArray, List.set_cons_zero, List.set_cons_succ])
            refine wpAnyH_take (i := 15) (oi := _) (v := ?v15u3) (gaS (gaS (gaS (gaS (gaS (gaS (gaS (gaS (gaS (gaS (gaS (gaS (gaS (gaS (gaS (ga0)))))))))))))))) (by kernel_rfl) (by kernel_rfl) (by kernel_rfl) (fun _ _ _ h => h) (Or.inl ⟨by rfl, ?hy15u3⟩) (by assumption) ?rest15u3
            case hy15u3 => (intro w hSw; (try dsimp only at hSw); go_simp; try with_reducible rfl)
            (try simp only [Act.put, List.setIfInBounds_toArray, List.set_cons_zero, List.set_cons_succ])
            refine wpAnyH_take (i := 16) (oi := _) (v := ?v16u3) (gaS (gaS (gaS (gaS (gaS (gaS (gaS (gaS (gaS (gaS (gaS (gaS (gaS (gaS (gaS (gaS (ga0))))))))))))))))) (by kernel_rfl) (by kernel_rfl) (by kernel_rfl) (fun _ _ _ h => h) (Or.inl ⟨by rfl, ?hy16u3⟩) (by assumption) ?rest16u3
            case hy16u3 => (intro w hSw; (try dsimp only at hSw); go_simp; try with_reducible rfl)
            (try simp only [Act.put, List.setIfInBounds_toArray, List.set_cons_zero, List.set_cons_succ])
            refine wpAnyH_take (i := 17) (oi := _) (v := ?v17u3) (gaS (gaS (gaS (gaS (gaS (gaS (gaS (gaS (gaS (gaS (gaS (gaS (gaS (gaS (gaS (gaS (gaS (ga0)))))))))))))))))) (by kernel_rfl) (by kernel_rfl) (by kernel_rfl) (fun _ _ _ h => h) (Or.inl ⟨by rfl, ?hy17u3⟩) (by assumption) ?rest17u3
            case hy17u3 => (intro w hSw; (try dsimp only at hSw); go_simp; try with_reducible rfl)
            (try simp only [Act.put, List.setIfInBounds_toArray, List.set_cons_zero, List.set_cons_succ])
            refine wpAnyH_take (i := 18) (oi := _) (v := ?v18u3) (gaS (gaS (gaS (gaS (gaS (gaS (gaS (gaS (gaS (gaS (gaS (gaS (gaS (gaS (gaS (gaS (gaS (gaS (ga0))))))))))))))))))) (by kernel_rfl) (by kernel_rfl) (by kernel_rfl) (fun _ _ _ h => h) (Or.inl ⟨by rfl, ?hy18u3⟩) (by assumption) ?rest18u3
            case hy18u3 => (intro w hSw; (try dsimp only at hSw); go_simp; try with_reducible rfl)
            (try simp only [Act.put, List.setIfInBounds_toArray, List.set_cons_zero, List.set_cons_succ])
            refine wpAnyH_take (i := 19) (oi := _) (v := ?v19u3) (gaS (gaS (gaS (gaS (gaS (gaS (gaS (gaS (gaS (gaS (gaS (gaS (gaS (gaS (gaS (gaS (gaS (gaS (gaS (ga0)))))))))))))))))))) (by kernel_rfl) (by kernel_rfl) (by kernel_rfl) (fun _ _ _ h => h) (Or.inl ⟨by rfl, ?hy19u3⟩) (by assumption) ?rest19u3
            case hy19u3 => (intro w hSw; (try dsimp only at hSw); go_simp; try with_reducible rfl)
            (try simp only [Act.put, List.setIfInBounds_toArray, List.set_cons_zero, List.set_cons_succ])
            refine wpAnyH_ready (rs := [20]) (by kernel_rfl) (by simp) ?_
            refine AllReadyH.cons (o := _) (gaS (gaS (gaS (gaS (gaS (gaS (gaS (gaS (gaS (gaS (gaS (gaS (gaS (gaS (gaS (gaS (gaS (gaS (gaS (gaS (ga0))))))))))))))))))))) (fun K hK => ?_) AllReadyH.nil
            go_simp
            (go_at_call 19; (with_reducible refine (HPB.out _ H5.out).mono ?_); rintro e w10 ⟨rfl, va2, hs10, hk10⟩; have H5 := Aside0.mk (H5.out.kt hk10 hs10); clear hs10 hk10)
            go_wp2_with fail
            refine hK.out _ _ H5.out.cells (fun hHeld => ?_)
            clear hK K
            (try simp only [Act.put, List.setIfInBounds_toArray, List.set_cons_zero, List.set_cons_succ])
            refine wpAnyH_take (i := 21) (oi := _) (v := ?v21u3) (gaS (gaS (gaS (gaS (gaS (gaS (gaS (gaS (gaS (gaS (gaS (gaS (gaS (gaS (gaS (gaS (gaS (gaS (gaS (gaS (gaS (ga0)))))))))))))))))))))) (by kernel_rfl) (by kernel_rfl) (by kernel_rfl) (fun _ _ _ h => h) (Or.inl ⟨by rfl, ?hy21u3⟩) (by assumption) ?rest21u3
            case hy21u3 => (intro w hSw; (try dsimp only at hSw); go_simp; try with_reducible rfl)
            (try simp only [Act.put, List.setIfInBounds_toArray, List.set_cons_zero, List.set_cons_succ])
            refine wpAnyH_take (i := 22) (oi := _) (v := ?v22u3) (gaS (gaS (gaS (gaS (gaS (gaS (gaS (gaS (gaS (gaS (gaS (gaS (gaS (gaS (gaS (gaS (gaS (gaS (gaS (gaS (gaS (gaS (ga0))))))))))))))))))))))) (by kernel_rfl) (by kernel_rfl) (by kernel_rfl) (fun _ _ _ h => h) (Or.inl ⟨by rfl, ?hy22u3⟩) (by assumption) ?rest22u3
            case hy22u3 => (intro w hSw; (try dsimp only at hSw); go_simp; try with_reducible rfl)
            (try simp only [Act.put, List.setIfInBounds_toArray, List.set_cons_zero, List.set_cons_succ])
            refine wpAnyH_take (i := 23) (oi := _) (v := ?v23u3) (gaS (gaS (gaS (gaS (gaS (gaS (gaS (gaS (gaS (gaS (gaS (gaS (gaS (gaS (gaS (gaS (gaS (gaS (gaS (gaS (gaS (gaS (gaS (ga0)))))))))))))))))))))))) (by kernel_rfl) (by kernel_rfl) (by kernel_rfl) (fun _ _ _ h => h) (Or.inl ⟨by rfl, ?hy23u3⟩) (by assumption) ?rest23u3
            case hy23u3 => (intro w hSw; (try dsimp only at hSw); go_simp; try with_reducible rfl)
            (try simp only [Act.put, List.setIfInBounds_toArray, List.set_cons_zero, List.set_cons_succ])
            refine wpAnyH_take (i := 24) (oi := _) (v := ?v24u3) (gaS (gaS (gaS (gaS (gaS (gaS (gaS (gaS (gaS (gaS (gaS (gaS (gaS (gaS (gaS (gaS (gaS (gaS (gaS (gaS (gaS (gaS (gaS (gaS (ga0))))))))))))))))))))))))) (by kernel_rfl) (by kernel_rfl) (by kernel_rfl) (fun _ _ _ h => h) (Or.inl ⟨by rfl, ?hy24u3⟩) (by assumption) ?rest24u3
            case hy24u3 => (intro w hSw; (try dsimp only at hSw); go_simp; try with_reducible rfl)
            (try simp only [Act.put, List.setIfInBounds_toArray, List.set_cons_zero, List.set_cons_succ])
            refine wpAnyH_take (i := 26) (oi := _) (v := ?v26u3) (gaS (gaS (gaS (gaS (gaS (gaS (gaS (gaS (gaS (gaS (gaS (gaS (gaS (gaS (gaS (gaS (gaS (gaS (gaS (gaS (gaS (gaS (gaS (gaS (gaS (gaS (ga0))))))))))))))))))))))))))) (by kernel_rfl) (by kernel_rfl) (by kernel_rfl) (fun _ _ _ h => h) (Or.inl ⟨by rfl, ?hy26u3⟩) (by assumption) ?rest26u3
            case hy26u3 => (intro w hSw; (try dsimp only at hSw); go_simp; try with_reducible rfl)
            (try simp only [Act.put, List.setIfInBounds_toArray, List.set_cons_zero, List.set_cons_succ])
            refine wpAnyH_ready (rs := [25]) (by kernel_rfl) (by simp) ?_
            refine AllReadyH.cons (o := _) (gaS (gaS (gaS (gaS (gaS (gaS (gaS (gaS (gaS (gaS (gaS (gaS (gaS (gaS (gaS (gaS (gaS (gaS (gaS (gaS (gaS (gaS (gaS (gaS (gaS (ga0)))))))))))))))))))))))))) (fun K hK => ?_) AllReadyH.nil
            go_simp
            (go_at_call 20; (with_reducible refine (HT3.out _ _ H5.out.h4.h3.st).mono ?_); rintro e w11 ⟨Ae, ce, rfl, hr11, hb11⟩; have HR9 := Aside0.mk (Kd.R_lower hr11 (H5.out.h4.h3.st.b.size)); have H5 := Aside0.mk (H5.out.below hb11); clear hr11 hb11)
            go_wp2_with fail
            refine hK.out _ _ H5.out.cells (fun hHeld => ?_)
            clear hK K
            (try simp only [Act.put, List.setIfInBounds_toArray, List.set_cons_zero, List.set_cons_succ])
            refine wpAnyH_ready (rs := [27]) (by kernel_rfl) (by simp) ?_
            refine AllReadyH.cons (o := _) (gaS (gaS (gaS (gaS (gaS (gaS (gaS (gaS (gaS (gaS (gaS (gaS (gaS (gaS (gaS (gaS (gaS (gaS (gaS (gaS (gaS (gaS (gaS (gaS (gaS (gaS (gaS (ga0)))))))))))))))))))))))))))) (fun K hK => ?_) AllReadyH.nil
            go_simp
            (go_at_call 16; (with_reducible refine (HSA.out _ _ _ HR9.out H5.out.h4.h3).mono ?_); rintro e w12 ⟨rfl, hb12⟩; have H5 := Aside0.mk (H5.out.below hb12); clear hb12)
            go_wp2_with fail
            refine hK.out _ _ H5.out.cells (fun hHeld => ?_)
            clear hK K
            (try simp only [Act.put, List.setIfInBounds_toArray, List.set_cons_zero, List.set_cons_succ])
            refine wpAnyH_take (i := 28) (oi := _) (v := ?v28u3) (gaS (gaS (gaS (gaS (gaS (gaS (gaS (gaS (gaS (gaS (gaS (gaS (gaS (gaS (gaS (gaS (gaS (gaS (gaS (gaS (gaS (gaS (gaS (gaS (gaS (gaS (gaS (gaS (ga0))))))))))))))))))))))))))))) (by kernel_rfl) (by kernel_rfl) (by kernel_rfl) (fun _ _ _ h => h) (Or.inl ⟨by rfl, ?hy28u3⟩) (by assumption) ?rest28u3
            case hy28u3 => (intro w hSw; (try dsimp only at hSw); go_simp; try with_reducible rfl)
            (try simp only [Act.put, List.setIfInBounds_toArray, List.set_cons_zero, List.set_cons_succ])
            refine wpAnyH_take (i := 29) (oi := _) (v := ?v29u3) (gaS (gaS (gaS (gaS (gaS (gaS (gaS (gaS (gaS (gaS (gaS (gaS (gaS (gaS (gaS (gaS (gaS (gaS (gaS (gaS (gaS (gaS (gaS (gaS (gaS (gaS (gaS (gaS (gaS (ga0)))))))))))))))))))))))))))))) (by kernel_rfl) (by kernel_rfl) (by kernel_rfl) (fun _ _ _ h => h) (Or.inl ⟨by rfl, ?hy29u3⟩) (by assumption) ?rest29u3
            case hy29u3 => (intro w hSw; (try dsimp only at hSw); go_simp; try with_reducible rfl)
            (try simp only [Act.put, List.setIfInBounds_toArray, List.set_cons_zero, List.set_cons_succ])
            refine wpAnyH_done (by kernel_rfl) ?_ _
            go_wp2
            go_ret
            exact ⟨rfl, H5.out.h4.h3.st.b⟩
          · obtain ⟨p1, p2⟩ := putM_no (by rw [hput]; exact he)
            rw [hput] at p1 p2
            dsimp only at p1 p2
            replace p1 := p1.symm
            replace p2 := p2.symm
            subst p1
            subst p2
            have he1 : (e' != 0) = true := bne_iff_ne.2 he
            have HT2 := Aside0.mk (fun (W : World) (va2 : Value) {p7 : Nat} {A7 : Option Addr} {c7 : Nat} (h : T3 w W w1.heap.size va2 4096 s rl (q + 1) p7 s A7 c7 rl w.heap.size f t x (sv A m c) k1 k2) => text_s h.st (by omega))
            clear hput he hcut hfi hm5 hg0
            by_cases hc0 : ec = 0
            · subst hc0
              go_upto_region 17 with (first | (go_at_call 12; (with_reducible refine (HFL.out _ HS.out.b).mono ?_); rintro e w3 ⟨rfl, hb3⟩; have HS := Aside0.mk (HS.out.below hb3); have HA := Aside0.mk (HA.out.below hb3); clear hb3; clear x0 x1 x2 x3 x4 x5 xl; obtain ⟨x0, x1, x2, x3, x4, x5⟩ := HA.out.cells; have xl := HA.out.lt) | (go_at_call 20; (with_reducible refine (HTE.out _ HS.out).mono ?_); rintro e w4 ⟨A7, c7, rfl, hr8, hb4⟩; have hs8 := HS.out.b.size; have H3 := Aside0.mk (⟨(HS.out.below hb4).below (below_alloc (Below.refl _ _) _), Tx.new hr8 hs8, (HA.out.below hb4).below (below_alloc (Below.refl _ _) _)⟩ : T3 w (w4.alloc (.cells #[.string s, sv A7 rl c7] 24)) w1.heap.size va 4096 s rl q w4.heap.size s A7 c7 rl w.heap.size f t x (sv A m c) k1 k2); clear hr8 hb4 hs8 HS HA; clear x0 x1 x2 x3 x4 x5 xl; obtain ⟨x0, x1, x2, x3, x4, x5⟩ := H3.out.a.cells; have xl := H3.out.a.lt) | (go_at_call 21; (with_reducible refine (HCU.out _ H3.out.st).mono ?_); rintro e w5 ⟨A8, c8, rfl, hr8, hb5⟩; have hs8 := H3.out.st.b.size; have H4 := Aside0.mk (⟨(H3.out.below hb5).below (below_alloc (Below.refl _ _) _), Tx.new hr8 hs8⟩ : T4 w (w5.alloc (.cells #[.string sc, sv A8 lc c8] 24)) w1.heap.size va 4096 s rl q w4.heap.size s A7 c7 rl w.heap.size f t x (sv A m c) k1 k2 w5.heap.size sc A8 c8 lc); clear hr8 hb5 hs8 H3; clear x0 x1 x2 x3 x4 x5 xl; obtain ⟨x0, x1, x2, x3, x4, x5⟩ := H4.out.h3.a.cells; have xl := H4.out.h3.a.lt) | (go_at_call 19; (with_reducible refine (HPL.out _ H4.out.h3.st).mono ?_); rintro e w6 ⟨rfl, va', hs6, hk6⟩; have H4 := Aside0.mk (H4.out.kt hk6 hs6); clear hs6 hk6; clear x0 x1 x2 x3 x4 x5 xl; obtain ⟨x0, x1, x2, x3, x4, x5⟩ := H4.out.h3.a.cells; have xl := H4.out.h3.a.lt))
              have H3 := Aside0.mk H4.out.h3
              clear H4 HTE HCU HPL
              refine wp_region_held_drew (S := fun w' => w'.cell? ⟨w4.heap.size, 0, none⟩ = some (.string s) ∧ w'.cell? ⟨w4.heap.size, 1, none⟩ = some (sv A7 rl c7)) (by kernel_rfl) ?_ (fun hHeld => ?_)
              · exact H3.out.c7
              refine wpAnyH_take (i := 0) (oi := _) (v := ?v0u4) (ga0) (by kernel_rfl) (by kernel_rfl) (by kernel_rfl) (fun _ _ _ h => h) (Or.inl ⟨by rfl, ?hy0u4⟩) (by assumption) ?rest0u4
              case hy0u4 => (intro w hSw; (try dsimp only at hSw); go_simp; try with_reducible rfl)
              (try simp only [Act.put, List.setIfInBounds_toArray, List.set_cons_zero, List.set_cons_succ])
              refine wpAnyH_take (i := 2) (oi := _) (v := ?v2u4) (gaS (gaS (ga0))) (by kernel_rfl) (by kernel_rfl) (by kernel_rfl) (fun _ _ _ h => h) (Or.inl ⟨by rfl, ?hy2u4⟩) (by assumption) ?rest2u4
              case hy2u4 => (intro w hSw; (try dsimp only at hSw); go_simp; try with_reducible rfl)
              (try simp only [Act.put, List.setIfInBounds_toArray, List.set_cons_zero, List.set_cons_succ])
              refine wpAnyH_ready (rs := [1]) (by kernel_rfl) (by simp) ?_
              refine AllReadyH.cons (o := _) (gaS (ga0)) (fun K hK => ?_) AllReadyH.nil
              go_simp
              (go_at_call 20; (with_reducible refine (HT2.out _ _ (H3.out.below ?sb)).mono ?_); (case sb => exact (by repeat (first | (with_reducible first | exact Below.refl _ _ | apply pw_below_drewN | apply below_alloc | apply below_drew) | exact Below.refl _ _))); rintro e w9 ⟨A9, c9, rfl, hr9, hb9⟩; have HR9 := Aside0.mk (Kd.R_lower hr9 (H3.out.st.b.size)); have H3 := Aside0.mk (H3.out.below (below_step (by repeat (first | (with_reducible first | exact Below.refl _ _ | apply pw_below_drewN | apply below_alloc | apply below_drew) | exact Below.refl _ _)) hb9)); clear hr9 hb9)
              go_wp2_with fail
              refine hK.out _ _ H3.out.c7 (fun hHeld => ?_)
              clear hK K
              (try simp only [Act.put, List.setIfInBounds_toArray, List.set_cons_zero, List.set_cons_succ])
              refine wpAnyH_ready (rs := [3]) (by kernel_rfl) (by simp) ?_
              refine AllReadyH.cons (o := _) (gaS (gaS (gaS (ga0)))) (fun K hK => ?_) AllReadyH.nil
              go_simp
              (go_at_call 16; (with_reducible refine (HSA.out _ _ _ HR9.out H3.out).mono ?_); rintro e w10 ⟨rfl, hb10⟩; have H3 := Aside0.mk (H3.out.below hb10); clear hb10)
              go_wp2_with fail
              refine hK.out _ _ H3.out.c7 (fun hHeld => ?_)
              clear hK K
              (try simp only [Act.put, List.setIfInBounds_toArray, List.set_cons_zero, List.set_cons_succ])
              refine wpAnyH_take (i := 4) (oi := _) (v := ?v4u4) (gaS (gaS (gaS (gaS (ga0))))) (by kernel_rfl) (by kernel_rfl) (by kernel_rfl) (fun _ _ _ h => h) (Or.inl ⟨by rfl, ?hy4u4⟩) (by assumption) ?rest4u4
              case hy4u4 => (intro w hSw; (try dsimp only at hSw); go_simp; try with_reducible rfl)
              (try simp only [Act.put, List.setIfInBounds_toArray, List.set_cons_zero, List.set_cons_succ])
              refine wpAnyH_done (by kernel_rfl) ?_ _
              go_wp2
              go_ret
              exact ⟨rfl, H3.out.st.b⟩
            · have hc1 : (ec != 0) = true := bne_iff_ne.2 hc0
              clear hc0
              go_upto_region 17 with (first | (go_at_call 12; (with_reducible refine (HFL.out _ HS.out.b).mono ?_); rintro e w3 ⟨rfl, hb3⟩; have HS := Aside0.mk (HS.out.below hb3); have HA := Aside0.mk (HA.out.below hb3); clear hb3; clear x0 x1 x2 x3 x4 x5 xl; obtain ⟨x0, x1, x2, x3, x4, x5⟩ := HA.out.cells; have xl := HA.out.lt) | (go_at_call 20; (with_reducible refine (HTE.out _ HS.out).mono ?_); rintro e w4 ⟨A7, c7, rfl, hr8, hb4⟩; have hs8 := HS.out.b.size; have H3 := Aside0.mk (⟨(HS.out.below hb4).below (below_alloc (Below.refl _ _) _), Tx.new hr8 hs8, (HA.out.below hb4).below (below_alloc (Below.refl _ _) _)⟩ : T3 w (w4.alloc (.cells #[.string s, sv A7 rl c7] 24)) w1.heap.size va 4096 s rl q w4.heap.size s A7 c7 rl w.heap.size f t x (sv A m c) k1 k2); clear hr8 hb4 hs8 HS HA; clear x0 x1 x2 x3 x4 x5 xl; obtain ⟨x0, x1, x2, x3, x4, x5⟩ := H3.out.a.cells; have xl := H3.out.a.lt) | (go_at_call 21; (with_reducible refine (HCU.out _ H3.out.st).mono ?_); rintro e w5 ⟨A8, c8, rfl, hr8, hb5⟩; have hs8 := H3.out.st.b.size; have H4 := Aside0.mk (⟨(H3.out.below hb5).below (below_alloc (Below.refl _ _) _), Tx.new hr8 hs8⟩ : T4 w (w5.alloc (.cells #[.string sc, sv A8 lc c8] 24)) w1.heap.size va 4096 s rl q w4.heap.size s A7 c7 rl w.heap.size f t x (sv A m c) k1 k2 w5.heap.size sc A8 c8 lc); clear hr8 hb5 hs8 H3; clear x0 x1 x2 x3 x4 x5 xl; obtain ⟨x0, x1, x2, x3, x4, x5⟩ := H4.out.h3.a.cells; have xl := H4.out.h3.a.lt) | (go_at_call 19; (with_reducible refine (HPL.out _ H4.out.h3.st).mono ?_); rintro e w6 ⟨rfl, va', hs6, hk6⟩; have H4 := Aside0.mk (H4.out.kt hk6 hs6); clear hs6 hk6; clear x0 x1 x2 x3 x4 x5 xl; obtain ⟨x0, x1, x2, x3, x4, x5⟩ := H4.out.h3.a.cells; have xl := H4.out.h3.a.lt))
              have H3 := Aside0.mk H4.out.h3
              clear H4 HTE HCU HPL
              refine wp_region_held_drew (S := fun w' => w'.cell? ⟨w4.heap.size, 0, none⟩ = some (.string s) ∧ w'.cell? ⟨w4.heap.size, 1, none⟩ = some (sv A7 rl c7)) (by kernel_rfl) ?_ (fun hHeld => ?_)
              · exact H3.out.c7
              refine wpAnyH_take (i := 0) (oi := _) (v := ?v0u5) (ga0) (by kernel_rfl) (by kernel_rfl) (by kernel_rfl) (fun _ _ _ h => h) (Or.inl ⟨by rfl, ?hy0u5⟩) (by assumption) ?rest0u5
              case hy0u5 => (intro w hSw; (try dsimp only at hSw); go_simp; try with_reducible rfl)
              (try simp only [Act.put, List.setIfInBounds_toArray, List.set_cons_zero, List.set_cons_succ])
              refine wpAnyH_take (i := 2) (oi := _) (v := ?v2u5) (gaS (gaS (ga0))) (by kernel_rfl) (by kernel_rfl) (by kernel_rfl) (fun _ _ _ h => h) (Or.inl ⟨by rfl, ?hy2u5⟩) (by assumption) ?rest2u5
              case hy2u5 => (intro w hSw; (try dsimp only at hSw); go_simp; try with_reducible rfl)
              (try simp only [Act.put, List.setIfInBounds_toArray, List.set_cons_zero, List.set_cons_succ])
              refine wpAnyH_ready (rs := [1]) (by kernel_rfl) (by simp) ?_
              refine AllReadyH.cons (o := _) (gaS (ga0)) (fun K hK => ?_) AllReadyH.nil
              go_simp
              (go_at_call 20; (with_reducible refine (HT2.out _ _ (H3.out.below ?sb)).mono ?_); (case sb => exact (by repeat (first | (with_reducible first | exact Below.refl _ _ | apply pw_below_drewN | apply below_alloc | apply below_drew) | exact Below.refl _ _))); rintro e w9 ⟨A9, c9, rfl, hr9, hb9⟩; have HR9 := Aside0.mk (Kd.R_lower hr9 (H3.out.st.b.size)); have H3 := Aside0.mk (H3.out.below (below_step (by repeat (first | (with_reducible first | exact Below.refl _ _ | apply pw_below_drewN | apply below_alloc | apply below_drew) | exact Below.refl _ _)) hb9)); clear hr9 hb9)
              go_wp2_with fail
              refine hK.out _ _ H3.out.c7 (fun hHeld => ?_)
              clear hK K
              (try simp only [Act.put, List.setIfInBounds_toArray, List.set_cons_zero, List.set_cons_succ])
              refine wpAnyH_ready (rs := [3]) (by kernel_rfl) (by simp) ?_
              refine AllReadyH.cons (o := _) (gaS (gaS (gaS (ga0)))) (fun K hK => ?_) AllReadyH.nil
              go_simp
              (go_at_call 16; (with_reducible refine (HSA.out _ _ _ HR9.out H3.out).mono ?_); rintro e w10 ⟨rfl, hb10⟩; have H3 := Aside0.mk (H3.out.below hb10); clear hb10)
              go_wp2_with fail
              refine hK.out _ _ H3.out.c7 (fun hHeld => ?_)
              clear hK K
              (try simp only [Act.put, List.setIfInBounds_toArray, List.set_cons_zero, List.set_cons_succ])
              refine wpAnyH_take (i := 4) (oi := _) (v := ?v4u5) (gaS (gaS (gaS (gaS (ga0))))) (by kernel_rfl) (by kernel_rfl) (by kernel_rfl) (fun _ _ _ h => h) (Or.inl ⟨by rfl, ?hy4u5⟩) (by assumption) ?rest4u5
              case hy4u5 => (intro w hSw; (try dsimp only at hSw); go_simp; try with_reducible rfl)
              (try simp only [Act.put, List.setIfInBounds_toArray, List.set_cons_zero, List.set_cons_succ])
              refine wpAnyH_done (by kernel_rfl) ?_ _
              go_wp2
              go_ret
              exact ⟨rfl, H3.out.st.b⟩
      · have hx' : (q : Int) < (l.length : Int) := by omega
        have hx2' : (50 : Int) ≤ (q : Int) := by omega
        have HFL := Aside0.mk (fun (W : World) (hb : Below w.heap.size w W) => fits_c x m W A c (Kd.C_below HM.out.1 hb) HM.out.2)
        obtain ⟨x0, x1, x2, x3, x4, x5⟩ := HA.out.cells; have xl := HA.out.lt
        cases hfi : fitB x m
        · rw [hfi] at HFL
          go_wp2_with (first | (go_at_call 12; (with_reducible refine (HFL.out _ HS.out.b).mono ?_); rintro e w3 ⟨rfl, hb3⟩; have HS := Aside0.mk (HS.out.below hb3); have HA := Aside0.mk (HA.out.below hb3); clear hb3; clear x0 x1 x2 x3 x4 x5 xl; obtain ⟨x0, x1, x2, x3, x4, x5⟩ := HA.out.cells; have xl := HA.out.lt))
          go_ret
          exact ⟨rfl, HS.out.b⟩
        · rw [hfi] at HFL
          have hm5 := fit_len hfi
          have hg0 := HS.out.good
          have hs4 := goodT_sz hg0
          have hrl := good_len (goodT_good hg0).1
          obtain ⟨sc, lc, ec, hcut⟩ : ∃ sc lc ec, cutT s rl f t = (sc, lc, ec) := ⟨_, _, _, rfl⟩
          obtain ⟨s', rl', e', hput⟩ : ∃ s' rl' e', putM s rl 4096 f t x m = (s', rl', e') := ⟨_, _, _, rfl⟩
          have HTE := Aside0.mk (fun (W : World) (h : ST5 w W w1.heap.size va 4096 s rl q) => text_s h (by omega))
          have HCU := Aside0.mk (fun (W : World) (h : ST5 w W w1.heap.size va 4096 s rl q) => cut_k h (by omega) f t hcut)
          have HPL := Aside0.mk (fun (W : World) (h : ST5 w W w1.heap.size va 4096 s rl q) => put_k h (by omega) (by decide) x m A c (Kd.C_below HM.out.1 h.b) HM.out.2 (by omega) f t hput)
          have HSA := Aside0.mk (fun (W : World) (A9 : Option Addr) (c9 : Nat) {p7 : Nat} {A7 : Option Addr} {c7 : Nat} {va2 : Value} {s2 : ByteArray} {rl2 : List Rn} {q2 : Nat} (hr : RR W w.heap.size (sv A9 rl c9) rl) (h : T3 w W w1.heap.size va2 4096 s2 rl2 q2 p7 s A7 c7 rl w.heap.size f t x (sv A m c) k1 k2) => same_c s rl (by omega) W A9 A7 c9 c7 (Kd.R_reads' hr).2.2 (Kd.R_reads' hr).2.1 (Kd.R_reads' h.t7.r).2.2 (Kd.R_reads' h.t7.r).2.1)
          by_cases he : e' = 0
          · subst he
            obtain ⟨e0, f0, f4, x4, m4, l4, hc2, hp2⟩ := back_plain hput hcut hg0
            subst e0
            have HC2 := Aside0.mk (fun (W : World) (va2 : Value) (h : ST5 w W w1.heap.size va2 4096 s' rl' (q + 1)) => cut_k h (by omega) f (f + (x.size : Int)) hc2)
            have HT3 := Aside0.mk (fun (W : World) (va2 : Value) (h : ST5 w W w1.heap.size va2 4096 s rl (q + 1 + 1)) => text_s h (by omega))
            have HP2 := Aside0.mk hp2
            have x4' : (x.size : Int) ≤ 4096 := by omega
            clear hput hcut hfi hm5 hg0 hc2 hp2
            go_upto_region 19 with (first | (go_at_call 12; (with_reducible refine (HFL.out _ HS.out.b).mono ?_); rintro e w3 ⟨rfl, hb3⟩; have HS := Aside0.mk (HS.out.below hb3); have HA := Aside0.mk (HA.out.below hb3); clear hb3; clear x0 x1 x2 x3 x4 x5 xl; obtain ⟨x0, x1, x2, x3, x4, x5⟩ := HA.out.cells; have xl := HA.out.lt) | (go_at_call 20; (with_reducible refine (HTE.out _ HS.out).mono ?_); rintro e w4 ⟨A7, c7, rfl, hr8, hb4⟩; have hs8 := HS.out.b.size; have H3 := Aside0.mk (⟨(HS.out.below hb4).below (below_alloc (Below.refl _ _) _), Tx.new hr8 hs8, (HA.out.below hb4).below (below_alloc (Below.refl _ _) _)⟩ : T3 w (w4.alloc (.cells #[.string s, sv A7 rl c7] 24)) w1.heap.size va 4096 s rl q w4.heap.size s A7 c7 rl w.heap.size f t x (sv A m c) k1 k2); clear hr8 hb4 hs8 HS HA; clear x0 x1 x2 x3 x4 x5 xl; obtain ⟨x0, x1, x2, x3, x4, x5⟩ := H3.out.a.cells; have xl := H3.out.a.lt) | (go_at_call 21; (with_reducible refine (HCU.out _ H3.out.st).mono ?_); rintro e w5 ⟨A8, c8, rfl, hr8, hb5⟩; have hs8 := H3.out.st.b.size; have H4 := Aside0.mk (⟨(H3.out.below hb5).below (below_alloc (Below.refl _ _) _), Tx.new hr8 hs8⟩ : T4 w (w5.alloc (.cells #[.string sc, sv A8 lc c8] 24)) w1.heap.size va 4096 s rl q w4.heap.size s A7 c7 rl w.heap.size f t x (sv A m c) k1 k2 w5.heap.size sc A8 c8 lc); clear hr8 hb5 hs8 H3; clear x0 x1 x2 x3 x4 x5 xl; obtain ⟨x0, x1, x2, x3, x4, x5⟩ := H4.out.h3.a.cells; have xl := H4.out.h3.a.lt) | (go_at_call 19; (with_reducible refine (HPL.out _ H4.out.h3.st).mono ?_); rintro e w6 ⟨rfl, va', hs6, hk6⟩; have H4 := Aside0.mk (H4.out.kt hk6 hs6); clear hs6 hk6; clear x0 x1 x2 x3 x4 x5 xl; obtain ⟨x0, x1, x2, x3, x4, x5⟩ := H4.out.h3.a.cells; have xl := H4.out.h3.a.lt) | (go_at_call 21; (with_reducible refine (HC2.out _ _ H4.out.h3.st).mono ?_); rintro e w7 ⟨A9, c9, rfl, hr9, hb7⟩; have hs9 := H4.out.h3.st.b.size; have H5 := Aside0.mk (⟨(H4.out.below hb7).below (below_alloc (Below.refl _ _) _), Tx.new hr9 hs9⟩ : T5 w (w7.alloc (.cells #[.string x, sv A9 m c9] 24)) w1.heap.size va' 4096 s' rl' (q + 1) w4.heap.size s A7 c7 rl w.heap.size f t x (sv A m c) k1 k2 w5.heap.size sc A8 c8 lc w7.heap.size x A9 c9 m); clear hr9 hb7 hs9 H4; clear x0 x1 x2 x3 x4 x5 xl))
            have HS1 := Aside0.mk (fun (W : World) (h : T5 w W w1.heap.size va' 4096 s' rl' (q + 1) w4.heap.size s A7 c7 rl w.heap.size f t x (sv A m c) k1 k2 w5.heap.size sc A8 c8 lc w7.heap.size x A9 c9 m) => same_c x m (by omega) W A9 A c9 c (Kd.R_reads' h.t9.r).2.2 (Kd.R_reads' h.t9.r).2.1 (Kd.C_below HM.out.1 h.h4.h3.st.b) HM.out.2)
            have HPB := Aside0.mk (fun (W : World) (h : T5 w W w1.heap.size va' 4096 s' rl' (q + 1) w4.heap.size s A7 c7 rl w.heap.size f t x (sv A m c) k1 k2 w5.heap.size sc A8 c8 lc w7.heap.size x A9 c9 m) => put_k h.h4.h3.st (by omega) (by decide) sc lc A8 c8 (Kd.R_reads' h.h4.t8.r).2.2 (Kd.R_reads' h.h4.t8.r).2.1 (by omega) f (f + (x.size : Int)) HP2.out)
            have hw1 : IntKind.i64.wrap (f + (x.size : Int)) = f + (x.size : Int) := by rw [wrap_ok _ (by omega)]
            clear HTE HCU HPL HC2 HFL
            generalize World.alloc w7 _ = w8 at *
            refine wp_region_held_drew (S := fun w' => (w'.cell? ⟨w4.heap.size, 0, none⟩ = some (.string s) ∧ w'.cell? ⟨w4.heap.size, 1, none⟩ = some (sv A7 rl c7)) ∧ (w'.cell? ⟨w5.heap.size, 0, none⟩ = some (.string sc) ∧ w'.cell? ⟨w5.heap.size, 1, none⟩ = some (sv A8 lc c8)) ∧ (w'.cell? ⟨w7.heap.size, 0, none⟩ = some (.string x) ∧ w'.cell? ⟨w7.heap.size, 1, none⟩ = some (sv A9 m c9)) ∧ w'.cell? ⟨w.heap.size, 0, none⟩ = some (.int .i64 f) ∧ w'.cell? ⟨w.heap.size, 2, none⟩ = some (.string x) ∧ w'.cell? ⟨w.heap.size, 3, none⟩ = some (sv A m c)) (by kernel_rfl) ?_ (fun hHeld => ?_)
            · exact H5.out.cells
            refine wpAnyH_take (i := 0) (oi := _) (v := ?v0u6) (ga0) (by kernel_rfl) (by kernel_rfl) (by kernel_rfl) (fun _ _ _ h => h) (Or.inl ⟨by rfl, ?hy0u6⟩) (by assumption) ?rest0u6
            case hy0u6 => (intro w hSw; (try dsimp only at hSw); go_simp; try with_reducible rfl)
            (try simp only [Act.put, List.setIfInBounds_toArray, List.set_cons_zero, List.set_cons_succ])
            refine wpAnyH_take (i := 1) (oi := _) (v := ?v1u6) (gaS (ga0)) (by kernel_rfl) (by kernel_rfl) (by kernel_rfl) (fun _ _ _ h => h) (Or.inl ⟨by rfl, ?hy1u6⟩) (by assumption) ?rest1u6
            case hy1u6 => (intro w hSw; (try dsimp only at hSw); go_simp; try with_reducible rfl)
            (try simp only [Act.put, List.setIfInBounds_toArray, List.set_cons_zero, List.set_cons_succ])
            refine wpAnyH_take (i := 2) (oi := _) (v := ?v2u6) (gaS (gaS (ga0))) (by kernel_rfl) (by kernel_rfl) (by kernel_rfl) (fun _ _ _ h => h) (Or.inl ⟨by rfl, ?hy2u6⟩) (by assumption) ?rest2u6
            case hy2u6 => (intro w hSw; (try dsimp only at hSw); go_simp; try with_reducible rfl)
            (try simp only [Act.put, List.setIfInBounds_toArray, List.set_cons_zero, List.set_cons_succ])
            refine wpAnyH_take (i := 3) (oi := _) (v := ?v3u6) (gaS (gaS (gaS (ga0)))) (by kernel_rfl) (by kernel_rfl) (by kernel_rfl) (fun _ _ _ h => h) (Or.inl ⟨by rfl, ?hy3u6⟩) (by assumption) ?rest3u6
            case hy3u6 => (intro w hSw; (try dsimp only at hSw); go_simp; try with_reducible rfl)
            (try simp only [Act.put, List.setIfInBounds_toArray, List.set_cons_zero, List.set_cons_succ])
            refine wpAnyH_take (i := 4) (oi := _) (v := ?v4u6) (gaS (gaS (gaS (gaS (ga0))))) (by kernel_rfl) (by kernel_rfl) (by kernel_rfl) (fun _ _ _ h => h) (Or.inl ⟨by rfl, ?hy4u6⟩) (by assumption) ?rest4u6
            case hy4u6 => (intro w hSw; (try dsimp only at hSw); go_simp; try with_reducible rfl)
            (try simp only [Act.put, List.setIfInBounds_toArray, List.set_cons_zero, List.set_cons_succ])
            refine wpAnyH_take (i := 5) (oi := _) (v := ?v5u6) (gaS (gaS (gaS (gaS (gaS (ga0)))))) (by kernel_rfl) (by kernel_rfl) (by kernel_rfl) (fun _ _ _ h => h) (Or.inl ⟨by rfl, ?hy5u6⟩) (by assumption) ?rest5u6
            case hy5u6 => (intro w hSw; (try dsimp only at hSw); go_simp; try with_reducible rfl)
            (try simp only [Act.put, List.setIfInBounds_toArray, List.set_cons_zero, List.set_cons_succ])
            refine wpAnyH_ready (rs := [6]) (by kernel_rfl) (by simp) ?_
            refine AllReadyH.cons (o := _) (gaS (gaS (gaS (gaS (gaS (gaS (ga0))))))) (fun K hK => ?_) AllReadyH.nil
            go_simp
            (go_at_call 16; (with_reducible refine (HS1.out _ (H5.out.below ?sb)).mono ?_); (case sb => exact (by repeat (first | (with_reducible first | exact Below.refl _ _ | apply pw_below_drewN | apply below_alloc | apply below_drew) | exact Below.refl _ _))); rintro e w9 ⟨rfl, hb9⟩; have H5 := Aside0.mk (H5.out.below (below_step (by repeat (first | (with_reducible first | exact Below.refl _ _ | apply pw_below_drewN | apply below_alloc | apply below_drew) | exact Below.refl _ _)) hb9)); clear hb9)
            go_wp2_with fail
            refine hK.out _ _ H5.out.cells (fun hHeld => ?_)
            clear hK K
            (try simp only [Act.put, List.setIfInBounds_toArray, List.set_cons_zero, List.set_cons_succ])
            refine wpAnyH_take (i := 7) (oi := _) (v := ?v7u6) (gaS (gaS (gaS (gaS (gaS (gaS (gaS (ga0)))))))) (by kernel_rfl) (by kernel_rfl) (by kernel_rfl) (fun _ _ _ h => h) (Or.inl ⟨by rfl, ?hy7u6⟩) (by assumption) ?rest7u6
            case hy7u6 => (intro w hSw; (try dsimp only at hSw); go_simp; try with_reducible rfl)
            (try simp only [Act.put, List.setIfInBounds_toArray, List.set_cons_zero, List.set_cons_succ])
            refine wpAnyH_take (i := 8) (oi := _) (v := ?v8u6) (gaS (gaS (gaS (gaS (gaS (gaS (gaS (gaS (ga0))))))))) (by kernel_rfl) (by kernel_rfl) (by kernel_rfl) (fun _ _ _ h => h) (Or.inl ⟨by rfl, ?hy8u6⟩) (by assumption) ?rest8u6
            case hy8u6 => (intro w hSw; (try dsimp only at hSw); go_simp; try with_reducible rfl)
            (try simp only [Act.put, List.setIfInBounds_toArray, List.set_cons_zero, List.set_cons_succ])
            refine wpAnyH_take (i := 9) (oi := _) (v := ?v9u6) (gaS (gaS (gaS (gaS (gaS (gaS (gaS (gaS (gaS (ga0)))))))))) (by kernel_rfl) (by kernel_rfl) (by kernel_rfl) (fun _ _ _ h => h) (Or.inl ⟨by rfl, ?hy9u6⟩) (by assumption) ?rest9u6
            case hy9u6 => (intro w hSw; (try dsimp only at hSw); go_simp; try with_reducible rfl)
            (try simp only [Act.put, List.setIfInBounds_toArray, List.set_cons_zero, List.set_cons_succ])
            refine wpAnyH_take (i := 10) (oi := _) (v := ?v10u6) (gaS (gaS (gaS (gaS (gaS (gaS (gaS (gaS (gaS (gaS (ga0))))))))))) (by kernel_rfl) (by kernel_rfl) (by kernel_rfl) (fun _ _ _ h => h) (Or.inl ⟨by rfl, ?hy10u6⟩) (by assumption) ?rest10u6
            case hy10u6 => (intro w hSw; (try dsimp only at hSw); go_simp; try with_reducible rfl)
            (try simp only [Act.put, List.setIfInBounds_toArray, List.set_cons_zero, List.set_cons_succ])
            refine wpAnyH_take (i := 11) (oi := _) (v := ?v11u6) (gaS (gaS (gaS (gaS (gaS (gaS (gaS (gaS (gaS (gaS (gaS (ga0)))))))))))) (by kernel_rfl) (by kernel_rfl) (by kernel_rfl) (fun _ _ _ h => h) (Or.inl ⟨by rfl, ?hy11u6⟩) (by assumption) ?rest11u6
            case hy11u6 => (intro w hSw; (try dsimp only at hSw); go_simp; try with_reducible rfl)
            (try simp only [Act.put, List.setIfInBounds_toArray, List.set_cons_zero, List.set_cons_succ])
            refine wpAnyH_take (i := 12) (oi := _) (v := ?v12u6) (gaS (gaS (gaS (gaS (gaS (gaS (gaS (gaS (gaS (gaS (gaS (gaS (ga0))))))))))))) (by kernel_rfl) (by kernel_rfl) (by kernel_rfl) (fun _ _ _ h => h) (Or.inl ⟨by rfl, ?hy12u6⟩) (by assumption) ?rest12u6
            case hy12u6 => (intro w hSw; (try dsimp only at hSw); go_simp; try with_reducible rfl)
            (try simp only [Act.put, List.setIfInBounds_toArray, List.set_cons_zero, List.set_cons_succ])
            refine wpAnyH_take (i := 13) (oi := _) (v := ?v13u6) (gaS (gaS (gaS (gaS (gaS (gaS (gaS (gaS (gaS (gaS (gaS (gaS (gaS (ga0)))))))))))))) (by kernel_rfl) (by kernel_rfl) (by kernel_rfl) (fun _ _ _ h => h) (Or.inl ⟨by rfl, ?hy13u6⟩) (by assumption) ?rest13u6
            case hy13u6 => (intro w hSw; (try dsimp only at hSw); go_simp; try with_reducible rfl)
            (try simp only [Act.put, List.setIfInBounds_toArray, List.set_cons_zero, List.set_cons_succ])
            refine wpAnyH_take (i := 14) (oi := _) (v := ?v14u6) (gaS (gaS (gaS (gaS (gaS (gaS (gaS (gaS (gaS (gaS (gaS (gaS (gaS (gaS (ga0))))))))))))))) (by kernel_rfl) (by kernel_rfl) (by kernel_rfl) (fun _ _ _ h => h) (Or.inl ⟨by rfl, ?hy14u6⟩) (by assumption) ?rest14u6
            case hy14u6 => (intro w hSw; (try dsimp only at hSw); go_simp; try with_reducible rfl)
            (try simp only [Act.put, List.setIfInBounds_toArray, List.set_cons_zero, List.set_cons_succ])
            refine wpAnyH_take (i := 15) (oi := _) (v := ?v15u6) (gaS (gaS (gaS (gaS (gaS (gaS (gaS (gaS (gaS (gaS (gaS (gaS (gaS (gaS (gaS (ga0)))))))))))))))) (by kernel_rfl) (by kernel_rfl) (by kernel_rfl) (fun _ _ _ h => h) (Or.inl ⟨by rfl, ?hy15u6⟩) (by assumption) ?rest15u6
            case hy15u6 => (intro w hSw; (try dsimp only at hSw); go_simp; try with_reducible rfl)
            (try simp only [Act.put, List.setIfInBounds_toArray, List.set_cons_zero, List.set_cons_succ])
            refine wpAnyH_take (i := 16) (oi := _) (v := ?v16u6) (gaS (gaS (gaS (gaS (gaS (gaS (gaS (gaS (gaS (gaS (gaS (gaS (gaS (gaS (gaS (gaS (ga0))))))))))))))))) (by kernel_rfl) (by kernel_rfl) (by kernel_rfl) (fun _ _ _ h => h) (Or.inl ⟨by rfl, ?hy16u6⟩) (by assumption) ?rest16u6
            case hy16u6 => (intro w hSw; (try dsimp only at hSw); go_simp; try with_reducible rfl)
            (try simp only [Act.put, List.setIfInBounds_toArray, List.set_cons_zero, List.set_cons_succ])
            refine wpAnyH_take (i := 17) (oi := _) (v := ?v17u6) (gaS (gaS (gaS (gaS (gaS (gaS (gaS (gaS (gaS (gaS (gaS (gaS (gaS (gaS (gaS (gaS (gaS (ga0)))))))))))))))))) (by kernel_rfl) (by kernel_rfl) (by kernel_rfl) (fun _ _ _ h => h) (Or.inl ⟨by rfl, ?hy17u6⟩) (by assumption) ?rest17u6
            case hy17u6 => (intro w hSw; (try dsimp only at hSw); go_simp; try with_reducible rfl)
            (try simp only [Act.put, List.setIfInBounds_toArray, List.set_cons_zero, List.set_cons_succ])
            refine wpAnyH_take (i := 18) (oi := _) (v := ?v18u6) (gaS (gaS (gaS (gaS (gaS (gaS (gaS (gaS (gaS (gaS (gaS (gaS (gaS (gaS (gaS (gaS (gaS (gaS (ga0))))))))))))))))))) (by kernel_rfl) (by kernel_rfl) (by kernel_rfl) (fun _ _ _ h => h) (Or.inl ⟨by rfl, ?hy18u6⟩) (by assumption) ?rest18u6
            case hy18u6 => (intro w hSw; (try dsimp only at hSw); go_simp; try with_reducible rfl)
            (try simp only [Act.put, List.setIfInBounds_toArray, List.set_cons_zero, List.set_cons_succ])
            refine wpAnyH_take (i := 19) (oi := _) (v := ?v19u6) (gaS (gaS (gaS (gaS (gaS (gaS (gaS (gaS (gaS (gaS (gaS (gaS (gaS (gaS (gaS (gaS (gaS (gaS (gaS (ga0)))))))))))))))))))) (by kernel_rfl) (by kernel_rfl) (by kernel_rfl) (fun _ _ _ h => h) (Or.inl ⟨by rfl, ?hy19u6⟩) (by assumption) ?rest19u6
            case hy19u6 => (intro w hSw; (try dsimp only at hSw); go_simp; try with_reducible rfl)
            (try simp only [Act.put, List.setIfInBounds_toArray, List.set_cons_zero, List.set_cons_succ])
            refine wpAnyH_ready (rs := [20]) (by kernel_rfl) (by simp) ?_
            refine AllReadyH.cons (o := _) (gaS (gaS (gaS (gaS (gaS (gaS (gaS (gaS (gaS (gaS (gaS (gaS (gaS (gaS (gaS (gaS (gaS (gaS (gaS (gaS (ga0))))))))))))))))))))) (fun K hK => ?_) AllReadyH.nil
            go_simp
            (go_at_call 19; (with_reducible refine (HPB.out _ H5.out).mono ?_); rintro e w10 ⟨rfl, va2, hs10, hk10⟩; have H5 := Aside0.mk (H5.out.kt hk10 hs10); clear hs10 hk10)
            go_wp2_with fail
            refine hK.out _ _ H5.out.cells (fun hHeld => ?_)
            clear hK K
            (try simp only [Act.put, List.setIfInBounds_toArray, List.set_cons_zero, List.set_cons_succ])
            refine wpAnyH_take (i := 21) (oi := _) (v := ?v21u6) (gaS (gaS (gaS (gaS (gaS (gaS (gaS (gaS (gaS (gaS (gaS (gaS (gaS (gaS (gaS (gaS (gaS (gaS (gaS (gaS (gaS (ga0)))))))))))))))))))))) (by kernel_rfl) (by kernel_rfl) (by kernel_rfl) (fun _ _ _ h => h) (Or.inl ⟨by rfl, ?hy21u6⟩) (by assumption) ?rest21u6
            case hy21u6 => (intro w hSw; (try dsimp only at hSw); go_simp; try with_reducible rfl)
            (try simp only [Act.put, List.setIfInBounds_toArray, List.set_cons_zero, List.set_cons_succ])
            refine wpAnyH_take (i := 22) (oi := _) (v := ?v22u6) (gaS (gaS (gaS (gaS (gaS (gaS (gaS (gaS (gaS (gaS (gaS (gaS (gaS (gaS (gaS (gaS (gaS (gaS (gaS (gaS (gaS (gaS (ga0))))))))))))))))))))))) (by kernel_rfl) (by kernel_rfl) (by kernel_rfl) (fun _ _ _ h => h) (Or.inl ⟨by rfl, ?hy22u6⟩) (by assumption) ?rest22u6
            case hy22u6 => (intro w hSw; (try dsimp only at hSw); go_simp; try with_reducible rfl)
            (try simp only [Act.put, List.setIfInBounds_toArray, List.set_cons_zero, List.set_cons_succ])
            refine wpAnyH_take (i := 23) (oi := _) (v := ?v23u6) (gaS (gaS (gaS (gaS (gaS (gaS (gaS (gaS (gaS (gaS (gaS (gaS (gaS (gaS (gaS (gaS (gaS (gaS (gaS (gaS (gaS (gaS (gaS (ga0)))))))))))))))))))))))) (by kernel_rfl) (by kernel_rfl) (by kernel_rfl) (fun _ _ _ h => h) (Or.inl ⟨by rfl, ?hy23u6⟩) (by assumption) ?rest23u6
            case hy23u6 => (intro w hSw; (try dsimp only at hSw); go_simp; try with_reducible rfl)
            (try simp only [Act.put, List.setIfInBounds_toArray, List.set_cons_zero, List.set_cons_succ])
            refine wpAnyH_take (i := 24) (oi := _) (v := ?v24u6) (gaS (gaS (gaS (gaS (gaS (gaS (gaS (gaS (gaS (gaS (gaS (gaS (gaS (gaS (gaS (gaS (gaS (gaS (gaS (gaS (gaS (gaS (gaS (gaS (ga0))))))))))))))))))))))))) (by kernel_rfl) (by kernel_rfl) (by kernel_rfl) (fun _ _ _ h => h) (Or.inl ⟨by rfl, ?hy24u6⟩) (by assumption) ?rest24u6
            case hy24u6 => (intro w hSw; (try dsimp only at hSw); go_simp; try with_reducible rfl)
            (try simp only [Act.put, List.setIfInBounds_toArray, List.set_cons_zero, List.set_cons_succ])
            refine wpAnyH_take (i := 26) (oi := _) (v := ?v26u6) (gaS (gaS (gaS (gaS (gaS (gaS (gaS (gaS (gaS (gaS (gaS (gaS (gaS (gaS (gaS (gaS (gaS (gaS (gaS (gaS (gaS (gaS (gaS (gaS (gaS (gaS (ga0))))))))))))))))))))))))))) (by kernel_rfl) (by kernel_rfl) (by kernel_rfl) (fun _ _ _ h => h) (Or.inl ⟨by rfl, ?hy26u6⟩) (by assumption) ?rest26u6
            case hy26u6 => (intro w hSw; (try dsimp only at hSw); go_simp; try with_reducible rfl)
            (try simp only [Act.put, List.setIfInBounds_toArray, List.set_cons_zero, List.set_cons_succ])
            refine wpAnyH_ready (rs := [25]) (by kernel_rfl) (by simp) ?_
            refine AllReadyH.cons (o := _) (gaS (gaS (gaS (gaS (gaS (gaS (gaS (gaS (gaS (gaS (gaS (gaS (gaS (gaS (gaS (gaS (gaS (gaS (gaS (gaS (gaS (gaS (gaS (gaS (gaS (ga0)))))))))))))))))))))))))) (fun K hK => ?_) AllReadyH.nil
            go_simp
            (go_at_call 20; (with_reducible refine (HT3.out _ _ H5.out.h4.h3.st).mono ?_); rintro e w11 ⟨Ae, ce, rfl, hr11, hb11⟩; have HR9 := Aside0.mk (Kd.R_lower hr11 (H5.out.h4.h3.st.b.size)); have H5 := Aside0.mk (H5.out.below hb11); clear hr11 hb11)
            go_wp2_with fail
            refine hK.out _ _ H5.out.cells (fun hHeld => ?_)
            clear hK K
            (try simp only [Act.put, List.setIfInBounds_toArray, List.set_cons_zero, List.set_cons_succ])
            refine wpAnyH_ready (rs := [27]) (by kernel_rfl) (by simp) ?_
            refine AllReadyH.cons (o := _) (gaS (gaS (gaS (gaS (gaS (gaS (gaS (gaS (gaS (gaS (gaS (gaS (gaS (gaS (gaS (gaS (gaS (gaS (gaS (gaS (gaS (gaS (gaS (gaS (gaS (gaS (gaS (ga0)))))))))))))))))))))))))))) (fun K hK => ?_) AllReadyH.nil
            go_simp
            (go_at_call 16; (with_reducible refine (HSA.out _ _ _ HR9.out H5.out.h4.h3).mono ?_); rintro e w12 ⟨rfl, hb12⟩; have H5 := Aside0.mk (H5.out.below hb12); clear hb12)
            go_wp2_with fail
            refine hK.out _ _ H5.out.cells (fun hHeld => ?_)
            clear hK K
            (try simp only [Act.put, List.setIfInBounds_toArray, List.set_cons_zero, List.set_cons_succ])
            refine wpAnyH_take (i := 28) (oi := _) (v := ?v28u6) (gaS (gaS (gaS (gaS (gaS (gaS (gaS (gaS (gaS (gaS (gaS (gaS (gaS (gaS (gaS (gaS (gaS (gaS (gaS (gaS (gaS (gaS (gaS (gaS (gaS (gaS (gaS (gaS (ga0))))))))))))))))))))))))))))) (by kernel_rfl) (by kernel_rfl) (by kernel_rfl) (fun _ _ _ h => h) (Or.inl ⟨by rfl, ?hy28u6⟩) (by assumption) ?rest28u6
            case hy28u6 => (intro w hSw; (try dsimp only at hSw); go_simp; try with_reducible rfl)
            (try simp only [Act.put, List.setIfInBounds_toArray, List.set_cons_zero, List.set_cons_succ])
            refine wpAnyH_take (i := 29) (oi := _) (v := ?v29u6) (gaS (gaS (gaS (gaS (gaS (gaS (gaS (gaS (gaS (gaS (gaS (gaS (gaS (gaS (gaS (gaS (gaS (gaS (gaS (gaS (gaS (gaS (gaS (gaS (gaS (gaS (gaS (gaS (gaS (ga0)))))))))))))))))))))))))))))) (by kernel_rfl) (by kernel_rfl) (by kernel_rfl) (fun _ _ _ h => h) (Or.inl ⟨by rfl, ?hy29u6⟩) (by assumption) ?rest29u6
            case hy29u6 => (intro w hSw; (try dsimp only at hSw); go_simp; try with_reducible rfl)
            (try simp only [Act.put, List.setIfInBounds_toArray, List.set_cons_zero, List.set_cons_succ])
            refine wpAnyH_done (by kernel_rfl) ?_ _
            go_wp2
            go_ret
            exact ⟨rfl, H5.out.h4.h3.st.b⟩
          · obtain ⟨p1, p2⟩ := putM_no (by rw [hput]; exact he)
            rw [hput] at p1 p2
            dsimp only at p1 p2
            replace p1 := p1.symm
            replace p2 := p2.symm
            subst p1
            subst p2
            have he1 : (e' != 0) = true := bne_iff_ne.2 he
            have HT2 := Aside0.mk (fun (W : World) (va2 : Value) {p7 : Nat} {A7 : Option Addr} {c7 : Nat} (h : T3 w W w1.heap.size va2 4096 s rl (q + 1) p7 s A7 c7 rl w.heap.size f t x (sv A m c) k1 k2) => text_s h.st (by omega))
            clear hput he hcut hfi hm5 hg0
            by_cases hc0 : ec = 0
            · subst hc0
              go_upto_region 17 with (first | (go_at_call 12; (with_reducible refine (HFL.out _ HS.out.b).mono ?_); rintro e w3 ⟨rfl, hb3⟩; have HS := Aside0.mk (HS.out.below hb3); have HA := Aside0.mk (HA.out.below hb3); clear hb3; clear x0 x1 x2 x3 x4 x5 xl; obtain ⟨x0, x1, x2, x3, x4, x5⟩ := HA.out.cells; have xl := HA.out.lt) | (go_at_call 20; (with_reducible refine (HTE.out _ HS.out).mono ?_); rintro e w4 ⟨A7, c7, rfl, hr8, hb4⟩; have hs8 := HS.out.b.size; have H3 := Aside0.mk (⟨(HS.out.below hb4).below (below_alloc (Below.refl _ _) _), Tx.new hr8 hs8, (HA.out.below hb4).below (below_alloc (Below.refl _ _) _)⟩ : T3 w (w4.alloc (.cells #[.string s, sv A7 rl c7] 24)) w1.heap.size va 4096 s rl q w4.heap.size s A7 c7 rl w.heap.size f t x (sv A m c) k1 k2); clear hr8 hb4 hs8 HS HA; clear x0 x1 x2 x3 x4 x5 xl; obtain ⟨x0, x1, x2, x3, x4, x5⟩ := H3.out.a.cells; have xl := H3.out.a.lt) | (go_at_call 21; (with_reducible refine (HCU.out _ H3.out.st).mono ?_); rintro e w5 ⟨A8, c8, rfl, hr8, hb5⟩; have hs8 := H3.out.st.b.size; have H4 := Aside0.mk (⟨(H3.out.below hb5).below (below_alloc (Below.refl _ _) _), Tx.new hr8 hs8⟩ : T4 w (w5.alloc (.cells #[.string sc, sv A8 lc c8] 24)) w1.heap.size va 4096 s rl q w4.heap.size s A7 c7 rl w.heap.size f t x (sv A m c) k1 k2 w5.heap.size sc A8 c8 lc); clear hr8 hb5 hs8 H3; clear x0 x1 x2 x3 x4 x5 xl; obtain ⟨x0, x1, x2, x3, x4, x5⟩ := H4.out.h3.a.cells; have xl := H4.out.h3.a.lt) | (go_at_call 19; (with_reducible refine (HPL.out _ H4.out.h3.st).mono ?_); rintro e w6 ⟨rfl, va', hs6, hk6⟩; have H4 := Aside0.mk (H4.out.kt hk6 hs6); clear hs6 hk6; clear x0 x1 x2 x3 x4 x5 xl; obtain ⟨x0, x1, x2, x3, x4, x5⟩ := H4.out.h3.a.cells; have xl := H4.out.h3.a.lt))
              have H3 := Aside0.mk H4.out.h3
              clear H4 HTE HCU HPL
              refine wp_region_held_drew (S := fun w' => w'.cell? ⟨w4.heap.size, 0, none⟩ = some (.string s) ∧ w'.cell? ⟨w4.heap.size, 1, none⟩ = some (sv A7 rl c7)) (by kernel_rfl) ?_ (fun hHeld => ?_)
              · exact H3.out.c7
              refine wpAnyH_take (i := 0) (oi := _) (v := ?v0u7) (ga0) (by kernel_rfl) (by kernel_rfl) (by kernel_rfl) (fun _ _ _ h => h) (Or.inl ⟨by rfl, ?hy0u7⟩) (by assumption) ?rest0u7
              case hy0u7 => (intro w hSw; (try dsimp only at hSw); go_simp; try with_reducible rfl)
              (try simp only [Act.put, List.setIfInBounds_toArray, List.set_cons_zero, List.set_cons_succ])
              refine wpAnyH_take (i := 2) (oi := _) (v := ?v2u7) (gaS (gaS (ga0))) (by kernel_rfl) (by kernel_rfl) (by kernel_rfl) (fun _ _ _ h => h) (Or.inl ⟨by rfl, ?hy2u7⟩) (by assumption) ?rest2u7
              case hy2u7 => (intro w hSw; (try dsimp only at hSw); go_simp; try with_reducible rfl)
              (try simp only [Act.put, List.setIfInBounds_toArray, List.set_cons_zero, List.set_cons_succ])
              refine wpAnyH_ready (rs := [1]) (by kernel_rfl) (by simp) ?_
              refine AllReadyH.cons (o := _) (gaS (ga0)) (fun K hK => ?_) AllReadyH.nil
              go_simp
              (go_at_call 20; (with_reducible refine (HT2.out _ _ (H3.out.below ?sb)).mono ?_); (case sb => exact (by repeat (first | (with_reducible first | exact Below.refl _ _ | apply pw_below_drewN | apply below_alloc | apply below_drew) | exact Below.refl _ _))); rintro e w9 ⟨A9, c9, rfl, hr9, hb9⟩; have HR9 := Aside0.mk (Kd.R_lower hr9 (H3.out.st.b.size)); have H3 := Aside0.mk (H3.out.below (below_step (by repeat (first | (with_reducible first | exact Below.refl _ _ | apply pw_below_drewN | apply below_alloc | apply below_drew) | exact Below.refl _ _)) hb9)); clear hr9 hb9)
              go_wp2_with fail
              refine hK.out _ _ H3.out.c7 (fun hHeld => ?_)
              clear hK K
              (try simp only [Act.put, List.setIfInBounds_toArray, List.set_cons_zero, List.set_cons_succ])
              refine wpAnyH_ready (rs := [3]) (by kernel_rfl) (by simp) ?_
              refine AllReadyH.cons (o := _) (gaS (gaS (gaS (ga0)))) (fun K hK => ?_) AllReadyH.nil
              go_simp
              (go_at_call 16; (with_reducible refine (HSA.out _ _ _ HR9.out H3.out).mono ?_); rintro e w10 ⟨rfl, hb10⟩; have H3 := Aside0.mk (H3.out.below hb10); clear hb10)
              go_wp2_with fail
              refine hK.out _ _ H3.out.c7 (fun hHeld => ?_)
              clear hK K
              (try simp only [Act.put, List.setIfInBounds_toArray, List.set_cons_zero, List.set_cons_succ])
              refine wpAnyH_take (i := 4) (oi := _) (v := ?v4u7) (gaS (gaS (gaS (gaS (ga0))))) (by kernel_rfl) (by kernel_rfl) (by kernel_rfl) (fun _ _ _ h => h) (Or.inl ⟨by rfl, ?hy4u7⟩) (by assumption) ?rest4u7
              case hy4u7 => (intro w hSw; (try dsimp only at hSw); go_simp; try with_reducible rfl)
              (try simp only [Act.put, List.setIfInBounds_toArray, List.set_cons_zero, List.set_cons_succ])
              refine wpAnyH_done (by kernel_rfl) ?_ _
              go_wp2
              go_ret
              exact ⟨rfl, H3.out.st.b⟩
            · have hc1 : (ec != 0) = true := bne_iff_ne.2 hc0
              clear hc0
              go_upto_region 17 with (first | (go_at_call 12; (with_reducible refine (HFL.out _ HS.out.b).mono ?_); rintro e w3 ⟨rfl, hb3⟩; have HS := Aside0.mk (HS.out.below hb3); have HA := Aside0.mk (HA.out.below hb3); clear hb3; clear x0 x1 x2 x3 x4 x5 xl; obtain ⟨x0, x1, x2, x3, x4, x5⟩ := HA.out.cells; have xl := HA.out.lt) | (go_at_call 20; (with_reducible refine (HTE.out _ HS.out).mono ?_); rintro e w4 ⟨A7, c7, rfl, hr8, hb4⟩; have hs8 := HS.out.b.size; have H3 := Aside0.mk (⟨(HS.out.below hb4).below (below_alloc (Below.refl _ _) _), Tx.new hr8 hs8, (HA.out.below hb4).below (below_alloc (Below.refl _ _) _)⟩ : T3 w (w4.alloc (.cells #[.string s, sv A7 rl c7] 24)) w1.heap.size va 4096 s rl q w4.heap.size s A7 c7 rl w.heap.size f t x (sv A m c) k1 k2); clear hr8 hb4 hs8 HS HA; clear x0 x1 x2 x3 x4 x5 xl; obtain ⟨x0, x1, x2, x3, x4, x5⟩ := H3.out.a.cells; have xl := H3.out.a.lt) | (go_at_call 21; (with_reducible refine (HCU.out _ H3.out.st).mono ?_); rintro e w5 ⟨A8, c8, rfl, hr8, hb5⟩; have hs8 := H3.out.st.b.size; have H4 := Aside0.mk (⟨(H3.out.below hb5).below (below_alloc (Below.refl _ _) _), Tx.new hr8 hs8⟩ : T4 w (w5.alloc (.cells #[.string sc, sv A8 lc c8] 24)) w1.heap.size va 4096 s rl q w4.heap.size s A7 c7 rl w.heap.size f t x (sv A m c) k1 k2 w5.heap.size sc A8 c8 lc); clear hr8 hb5 hs8 H3; clear x0 x1 x2 x3 x4 x5 xl; obtain ⟨x0, x1, x2, x3, x4, x5⟩ := H4.out.h3.a.cells; have xl := H4.out.h3.a.lt) | (go_at_call 19; (with_reducible refine (HPL.out _ H4.out.h3.st).mono ?_); rintro e w6 ⟨rfl, va', hs6, hk6⟩; have H4 := Aside0.mk (H4.out.kt hk6 hs6); clear hs6 hk6; clear x0 x1 x2 x3 x4 x5 xl; obtain ⟨x0, x1, x2, x3, x4, x5⟩ := H4.out.h3.a.cells; have xl := H4.out.h3.a.lt))
              have H3 := Aside0.mk H4.out.h3
              clear H4 HTE HCU HPL
              refine wp_region_held_drew (S := fun w' => w'.cell? ⟨w4.heap.size, 0, none⟩ = some (.string s) ∧ w'.cell? ⟨w4.heap.size, 1, none⟩ = some (sv A7 rl c7)) (by kernel_rfl) ?_ (fun hHeld => ?_)
              · exact H3.out.c7
              refine wpAnyH_take (i := 0) (oi := _) (v := ?v0u8) (ga0) (by kernel_rfl) (by kernel_rfl) (by kernel_rfl) (fun _ _ _ h => h) (Or.inl ⟨by rfl, ?hy0u8⟩) (by assumption) ?rest0u8
              case hy0u8 => (intro w hSw; (try dsimp only at hSw); go_simp; try with_reducible rfl)
              (try simp only [Act.put, List.setIfInBounds_toArray, List.set_cons_zero, List.set_cons_succ])
              refine wpAnyH_take (i := 2) (oi := _) (v := ?v2u8) (gaS (gaS (ga0))) (by kernel_rfl) (by kernel_rfl) (by kernel_rfl) (fun _ _ _ h => h) (Or.inl ⟨by rfl, ?hy2u8⟩) (by assumption) ?rest2u8
              case hy2u8 => (intro w hSw; (try dsimp only at hSw); go_simp; try with_reducible rfl)
              (try simp only [Act.put, List.setIfInBounds_toArray, List.set_cons_zero, List.set_cons_succ])
              refine wpAnyH_ready (rs := [1]) (by kernel_rfl) (by simp) ?_
              refine AllReadyH.cons (o := _) (gaS (ga0)) (fun K hK => ?_) AllReadyH.nil
              go_simp
              (go_at_call 20; (with_reducible refine (HT2.out _ _ (H3.out.below ?sb)).mono ?_); (case sb => exact (by repeat (first | (with_reducible first | exact Below.refl _ _ | apply pw_below_drewN | apply below_alloc | apply below_drew) | exact Below.refl _ _))); rintro e w9 ⟨A9, c9, rfl, hr9, hb9⟩; have HR9 := Aside0.mk (Kd.R_lower hr9 (H3.out.st.b.size)); have H3 := Aside0.mk (H3.out.below (below_step (by repeat (first | (with_reducible first | exact Below.refl _ _ | apply pw_below_drewN | apply below_alloc | apply below_drew) | exact Below.refl _ _)) hb9)); clear hr9 hb9)
              go_wp2_with fail
              refine hK.out _ _ H3.out.c7 (fun hHeld => ?_)
              clear hK K
              (try simp only [Act.put, List.setIfInBounds_toArray, List.set_cons_zero, List.set_cons_succ])
              refine wpAnyH_ready (rs := [3]) (by kernel_rfl) (by simp) ?_
              refine AllReadyH.cons (o := _) (gaS (gaS (gaS (ga0)))) (fun K hK => ?_) AllReadyH.nil
              go_simp
              (go_at_call 16; (with_reducible refine (HSA.out _ _ _ HR9.out H3.out).mono ?_); rintro e w10 ⟨rfl, hb10⟩; have H3 := Aside0.mk (H3.out.below hb10); clear hb10)
              go_wp2_with fail
              refine hK.out _ _ H3.out.c7 (fun hHeld => ?_)
              clear hK K
              (try simp only [Act.put, List.setIfInBounds_toArray, List.set_cons_zero, List.set_cons_succ])
              refine wpAnyH_take (i := 4) (oi := _) (v := ?v4u8) (gaS (gaS (gaS (gaS (ga0))))) (by kernel_rfl) (by kernel_rfl) (by kernel_rfl) (fun _ _ _ h => h) (Or.inl ⟨by rfl, ?hy4u8⟩) (by assumption) ?rest4u8
              case hy4u8 => (intro w hSw; (try dsimp only at hSw); go_simp; try with_reducible rfl)
              (try simp only [Act.put, List.setIfInBounds_toArray, List.set_cons_zero, List.set_cons_succ])
              refine wpAnyH_done (by kernel_rfl) ?_ _
              go_wp2
              go_ret
              exact ⟨rfl, H3.out.st.b⟩
def bureaulaw05_PieceBack.f (l0 : List XPK.S48) (a1_0 : Int) (a1_1 : Int) (a1_2 : ByteArray) (l1_3 : List Rn) (a1_4 : Bool) (a1_5 : Bool) : Option Bool := if ∀ y, y ∈ l0 → y.f2.f1.length ≤ maxLen then some true else none
theorem bureaulaw05_PieceBack.calls (A0 : Option Addr) (c0 : Nat) (l0 : List XPK.S48) (a1_0 : Int) (a1_1 : Int) (a1_2 : ByteArray) (A1_3 : Option Addr) (c1_3 : Nat) (l1_3 : List Rn) (a1_4 : Bool) (a1_5 : Bool) (r : Bool) (w : World) (hr0 : Kd.C XPK.k48 w A0 l0.length l0) (hc0 : l0.length ≤ c0) (hr1_3 : Kd.C k29 w A1_3 l1_3.length l1_3) (hc1_3 : l1_3.length ≤ c1_3) (h : bureaulaw05_PieceBack.f l0 a1_0 a1_1 a1_2 l1_3 a1_4 a1_5 = some r) :
    Calls Try.prog 4 #[.slice A0 l0.length c0, .agg #[.int .i64 a1_0, .int .i64 a1_1, .string a1_2, .slice A1_3 l1_3.length c1_3, .bool a1_4, .bool a1_5]] w fun e w' => e = .returned (.bool r) ∧ Below w.heap.size w w' := by
  unfold bureaulaw05_PieceBack.f at h
  by_cases hc : ∀ y, y ∈ l0 → y.f2.f1.length ≤ maxLen
  · rw [if_pos hc] at h
    cases h
    exact Back_w A0 c0 l0 a1_0 a1_1 a1_2 A1_3 c1_3 l1_3 a1_4 a1_5 w hr0 hc0 hc hr1_3 hc1_3
  · rw [if_neg hc] at h
    cases h

end Go.Proofs.Ytgaggoglbkcomaa.Ext
