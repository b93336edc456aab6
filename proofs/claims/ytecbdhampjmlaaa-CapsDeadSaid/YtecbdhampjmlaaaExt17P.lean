/- caps: CapsDead, by its walk. -/
import Derived.Test.YtecbdhampjmlaaaExt17O
import Derived.Test.YtecbdhampjmlaaaXCapsDeadx0
import Derived.Test.YtecbdhampjmlaaaWMore
import Derived.WalkKit
import Derived.WalkMore
import Derived.Below
import Derived.KernelRfl
import Derived.LoopTactic
import Derived.Deep.RegionWith
import Derived.Deep.RegionHeld3
import Derived.IntWalk
import Derived.Deep.DeepCutAuto
import Derived.Deep.CutBlock
import Derived.BigQuiet
import Derived.Laws.RangeString
import Derived.Laws.RangeAny
import Derived.Laws.Rows
import Derived.Laws.Runes
import Derived.Lib.OthersKept
import Derived.OpenShut
set_option linter.unusedVariables false
set_option linter.unusedSimpArgs false
namespace Go.Proofs.Ytecbdhampjmlaaa.Ext
open Go.RowKit Go.Lib Go.Proofs.YtecbdhampjmlaaaW.PrintWords Go.Proofs.YtecbdhampjmlaaaW.PrintMore Go.Proofs.Ytecbdhampjmlaaa.XCapsDead

abbrev Ap (v : Value) : Nat → Prop := fun k => True ∧ some k ≠ v.ownBlock
abbrev R28 (w : World) (base : Nat) (ok : Nat → Prop) (v : Value) (xs : List S28) : Prop := Kd.R k28 28 w base ok v xs
theorem below_more {b B : Nat} {w0 w w' : World} (h : Below b w0 w) (hG : w.grownBy w' (some B)) (hB : b ≤ B) (hb : b ≤ w.heap.size) : Below b w0 w' :=
  ⟨hG.os.trans h.os, hG.tape.trans h.tape, hG.output.trans h.output, Nat.le_trans h.size hG.size, fun k hk => (hG.block k (by omega) (fun e => by injection e with e; omega)).trans (h.block k hk)⟩
/-- The law's state: the table, the tokens that were given, and those that are gone. -/
structure DS (w0 w : World) (R B : Nat) (l : List Sl) (g : Int) (gv dv : Value) (gs ds : List S28) : Prop where
  t : TRow w R B l g
  hb : Below w0.heap.size w0 w
  sz : w0.heap.size ≤ B
  gr : R28 w w0.heap.size (Ap dv) gv gs
  dr : R28 w w0.heap.size (Ap gv) dv ds
theorem DS.below {w0 w w' : World} {R B : Nat} {l : List Sl} {g : Int} {gv dv : Value} {gs ds : List S28} (h : DS w0 w R B l g gv dv gs ds) (hb : Below w.heap.size w w') : DS w0 w' R B l g gv dv gs ds :=
  ⟨h.t.below hb, below_step h.hb hb, h.sz, Kd.R_below h.gr hb, Kd.R_below h.dr hb⟩
theorem DS.alloc {w0 w : World} {R B : Nat} {l : List Sl} {g : Int} {gv dv : Value} {gs ds : List S28} (h : DS w0 w R B l g gv dv gs ds) (o : Obj) : DS w0 (w.alloc o) R B l g gv dv gs ds :=
  h.below (below_alloc (Below.refl _ _) _)
theorem DS.only {w0 w w' : World} {R B : Nat} {l l' : List Sl} {g : Int} {gv dv : Value} {gs ds : List S28} (h : DS w0 w R B l g gv dv gs ds) (ht : TRow w' R B l' g) (hG : w.grownBy w' (some B)) : DS w0 w' R B l' g gv dv gs ds :=
  ⟨ht, below_more h.hb hG h.sz h.hb.size, h.sz, keep_row2 h.gr h.t.b (by decide) hG, keep_row2 h.dr h.t.b (by decide) hG⟩
theorem TRow.grown {w w' : World} {R B : Nat} {l : List Sl} {g : Int} {base : Nat} {ok : Nat → Prop} {v : Value} {xs : List S28} (h : TRow w R B l g) (hv : R28 w base ok v xs) (hG : w.grownBy w' v.ownBlock) : TRow w' R B l g :=
  h.kept (hG.block R h.ltR (Kd.R_ne hv h.t (by decide))) (hG.block B h.ltB (Kd.R_ne hv h.b (by decide)))
theorem DS.addG {w0 w w' : World} {R B : Nat} {l : List Sl} {g : Int} {gv dv v1 : Value} {gs gs' ds : List S28} (h : DS w0 w R B l g gv dv gs ds) (ho : R28 w' w0.heap.size (Ap dv) v1 gs') (hb : Below w0.heap.size w0 w') (hg : w.grownBy w' gv.ownBlock) (hat : v1.ownBlock = gv.ownBlock ∨ ∃ b, v1.ownBlock = some b ∧ w.heap.size ≤ b) : DS w0 w' R B l g v1 dv gs' ds :=
  ⟨h.t.grown h.gr hg, hb, h.sz, ho, Kd.R_after (ok := fun _ => True) h.dr hg hat⟩
theorem DS.addD {w0 w w' : World} {R B : Nat} {l : List Sl} {g : Int} {gv dv v1 : Value} {gs ds ds' : List S28} (h : DS w0 w R B l g gv dv gs ds) (ho : R28 w' w0.heap.size (Ap gv) v1 ds') (hb : Below w0.heap.size w0 w') (hg : w.grownBy w' dv.ownBlock) (hat : v1.ownBlock = dv.ownBlock ∨ ∃ b, v1.ownBlock = some b ∧ w.heap.size ≤ b) : DS w0 w' R B l g gv v1 gs ds' :=
  ⟨h.t.grown h.dr hg, hb, h.sz, Kd.R_after (ok := fun _ => True) h.gr hg hat, ho⟩
theorem has_r {w : World} {base : Nat} {ok : Nat → Prop} {v : Value} {xs : List S28} (h : R28 w base ok v xs) (hl : xs.length ≤ 100000) (a b : Int) : Calls Try.prog 11 #[v, .agg #[.int .i64 a, .int .i64 b]] w fun e w' => e = .returned (.bool (hasB xs a b)) ∧ Below w.heap.size w w' := by
  obtain ⟨A, c, e, hc, hr⟩ := Kd.R_reads h
  subst e
  exact has_w A c xs a b w hr hc hl
theorem fresh28 {w : World} {base : Nat} {ok : Nat → Prop} {v : Value} {xs : List S28} (h : R28 w base ok v xs) : ∀ k, w.heap.size ≤ k → Ap v k := fun k hk => ⟨trivial, Kd.fresh' (Kd.R_lt h) k hk⟩
theorem apart28 {w : World} {base : Nat} {ok : Nat → Prop} {v u : Value} {xs : List S28} (h : R28 w base ok v xs) (hu : ∀ k, u.ownBlock = some k → k < base) : R28 w base (Ap u) v xs :=
  Kd.R_mono (Kd.R_bound h) (fun k hk => ⟨trivial, fun e => by have := hu k e.symm; omega⟩)
def mxO (x y : Int) : Int := if x < y then y else x
def mnO (x y : Int) : Int := if y < x then y else x
theorem mxO_int (k k' : IntKind) (x y : Int) : Builtin.max2 (.int k x) (.int k' y) = pure (.int k (mxO x y)) := max2_int k k' x y
theorem mnO_int (k k' : IntKind) (x y : Int) : Builtin.min2 (.int k x) (.int k' y) = pure (.int k (mnO x y)) := min2_int k k' x y
theorem mn_in5 (a : Int) : 1 ≤ mnO (mxO a 1) 5 ∧ mnO (mxO a 1) 5 ≤ 65535 := by unfold mnO mxO; split <;> split <;> omega
attribute [local go_sem] mxO_int mnO_int max_two min_two
def acOf (x : S32) : Ac := ⟨x.f0, x.f1.f0, x.f1.f1, x.f2, x.f3, x.f4, x.f5, x.f6⟩
theorem cell_only {a b : World} {c : Nat} (hg : Below c a b) {ad : Addr} {v : Value} (h : a.cell? ad = some v) (hlt : ad.block < c) : b.cell? ad = some v := (hg.cell hlt).trans h
theorem add_blk (a : Addr) (n : Nat) : (a.add n).block = a.block := by unfold Addr.add; split <;> rfl
theorem lv_lay {w : World} {T : Nat} {a b c d e f g : Value} {t : TypeId} (h : w.heap[T]? = some (.cells #[a, b, c, d, e, f, g] t (0, 0))) : w.cell? ⟨T, 0, none⟩ = some a ∧ w.cell? ⟨T, 1, none⟩ = some b ∧ w.cell? ⟨T, 2, none⟩ = some c ∧ w.cell? ⟨T, 3, none⟩ = some d ∧ w.cell? ⟨T, 4, none⟩ = some e ∧ w.cell? ⟨T, 5, none⟩ = some f ∧ w.cell? ⟨T, 6, none⟩ = some g :=
  ⟨by rw [cell_of_row w T _ _ _ _ h]; rfl, by rw [cell_of_row w T _ _ _ _ h]; rfl, by rw [cell_of_row w T _ _ _ _ h]; rfl, by rw [cell_of_row w T _ _ _ _ h]; rfl, by rw [cell_of_row w T _ _ _ _ h]; rfl, by rw [cell_of_row w T _ _ _ _ h]; rfl, by rw [cell_of_row w T _ _ _ _ h]; rfl⟩
set_option maxRecDepth 100000 in
set_option maxHeartbeats 16000000 in
theorem Dead_w (a : Int) (A1 : Option Addr) (c1 : Nat) (l1 : List S32) (A2 : Option Addr) (c2 : Nat) (l2 : List S28) (w : World) (hr1 : Kd.C k32 w A1 l1.length l1) (hc1 : l1.length ≤ c1) (hr2 : Kd.C k28 w A2 l2.length l2) (hc2 : l2.length ≤ c2) (hlm : l1.length ≤ maxLen) (hlm2 : l2.length ≤ maxLen) (hk : ∀ x, x ∈ l1 → 0 ≤ x.f0 ∧ x.f0 ≤ 255) :
    Calls Try.prog 3 #[.int .i64 a, .slice A1 l1.length c1, .slice A2 l2.length c2] w fun e w' => e = .returned (.bool true) ∧ Below w.heap.size w w' := by
  have hlm2 : l1.length ≤ 9223372036854775807 := hlm
  have HAL := Aside0.mk (alive_w w)
  have HN := Aside0.mk (fun (G : Int) (w1 : World) (h2 : 1 ≤ G ∧ G ≤ 65535) => New_w 4 G w1 (by decide) h2)
  have HK := Aside0.mk hk
  have HR1 := Aside0.mk hr1
  have HR2 := Aside0.mk hr2
  clear hk hr1 hr2 hlm
  have hgg := mn_in5 a
  go_enter Try.func3, Try.ntmps3
  go_wp2_with (first
    | (go_at_call 8; (with_reducible refine HAL.out.mono ?_); rintro e w1 ⟨rfl, hb1⟩; have HB1 := Aside0.mk hb1; clear hb1)
    | (go_at_call 9; (with_reducible refine (HN.out _ _ ?gg).mono ?_); (case gg => exact hgg); rintro e w2 ⟨R, B, hR, hB, rfl, hT2, hb2⟩; have HT2 := Aside0.mk hT2; have HB2 := Aside0.mk hb2; have ltR := hT2.ltR; have ltB := hT2.ltB; clear hT2 hb2))
  have HS0 : Aside0 (DS w w2 R B (List.replicate (4 : Int).toNat sl0) (mnO (mxO a 1) 5) (.slice none 0 0) (.slice none 0 0) [] []) := ⟨⟨HT2.out, below_step HB1.out HB2.out, Nat.le_trans HB1.out.size hB, Kd.R_nil _ _ _ _ _, Kd.R_nil _ _ _ _ _⟩⟩
  have HJ0 := Aside0.mk (Jd.start (4 : Int).toNat)
  generalize mnO (mxO a 1) 5 = g at *
  clear HB1 HB2 HT2
  go_loopw [8, 9, 10] (fun gv0 dv0 ii wr => ∃ (gv dv : Value) (k : Nat) (l : List Sl) (gs ds : List S28), gv = gv0 ∧ dv = dv0 ∧ ii = .int .i64 k ∧ k ≤ l1.length ∧ gs.length ≤ k ∧ ds.length ≤ 60 * k ∧ Aside0 (Jd l gs ds) ∧ Aside0 (DS w wr R B l g gv dv gs ds)) (fun _ _ ii _ => l1.length - (intOf ii).toNat)
  case atStart => exact ⟨_, _, 0, _, [], [], rfl, rfl, rfl, Nat.zero_le _, Nat.le_refl _, Nat.zero_le _, HJ0, HS0⟩
  case round =>
    obtain ⟨gv, dv, k, l, gs, ds, rfl, rfl, rfl, hk, hgs, hds, HJ, HS⟩ := hrel
    by_cases hkl : k < l1.length
    · by_cases hk60 : k < 60
      · obtain ⟨ad, eA, hx0, hx1, hx2, hx3, hx4, hx5, hx6, hx7⟩ := at_T32 HR1.out (k : Int) (by omega) (by omega)
        cases eA
        rw [Int.toNat_natCast] at hx0 hx1 hx2 hx3 hx4 hx5 hx6 hx7
        have hlt : (ad.add (k * 8)).block < w.heap.size := by rw [add_blk]; exact Kd.C_lt HR1.out (by omega) (by decide)
        have hm : rd_T32 l1 (k : Int) ∈ l1 := by
          unfold rd_T32
          rw [Int.toNat_natCast, List.getD_eq_getElem?_getD, List.getElem?_eq_getElem hkl]
          exact List.getElem_mem hkl
        have hkk := HK.out _ hm
        generalize rd_T32 l1 (k : Int) = x at hx0 hx1 hx2 hx3 hx4 hx5 hx6 hx7 hkk
        have hx0 := cell_only HS.out.hb hx0 hlt
        have hx1 := cell_only HS.out.hb hx1 hlt
        have hx2 := cell_only HS.out.hb hx2 hlt
        have hx3 := cell_only HS.out.hb hx3 hlt
        have hx4 := cell_only HS.out.hb hx4 hlt
        have hx5 := cell_only HS.out.hb hx5 hlt
        have hx6 := cell_only HS.out.hb hx6 hlt
        have hx7 := cell_only HS.out.hb hx7 hlt
        have HD := Aside0.mk (fun (w1 : World) (h : TRow w1 R B l g) => does_w R B l g (acOf x) w1 h hkk)
        have HJ3 := Aside0.mk (HJ.out.does g (acOf x))
        unfold acOf at HD HJ3
        generalize doesZ g l _ = z at HD HJ3
        obtain ⟨l3, tk, tg, tb⟩ := z
        clear hm hlt
        go_upto_if 53 with (first
          | (go_at_call 10; (with_reducible refine (HD.out _ HS.out.t).mono ?_); rintro e w3 ⟨rfl, hT3, hG3⟩; have HS3 := Aside0.mk (HS.out.only hT3 hG3); clear hT3 hG3))
        clear hx0 hx1 hx2 hx3 hx4 hx5 hx6 hx7
        go_cut [8] (fun gv0 wc => ∃ gv' gs', gv' = gv0 ∧ gs'.length ≤ k + 1 ∧ Aside0 (Jd l3 gs' ds) ∧ Aside0 (DS w wc R B l3 g gv' dv gs' ds))
        case first =>
          obtain ⟨hl3, hjt, hjf⟩ := HJ3.out
          cases tb
          · have HJ4 := Aside0.mk (hjf rfl)
            clear hjt hjf
            go_wp2
            go_meet
            case rel => exact ⟨_, gs, rfl, by omega, HJ4, ⟨HS3.out.alloc _⟩⟩
          · obtain ⟨hno, hj4⟩ := hjt rfl
            have HJ4 := Aside0.mk hj4
            have HNO := Aside0.mk hno
            clear hjt hjf hj4 hno
            have HHS := Aside0.mk (has_r (HS3.out.alloc (.cells #[.int .i64 tk, .int .i64 tg] 28)).gr (by omega) tk tg)
            rw [HNO.out] at HHS
            go_wp2_with (first
              | (go_at_call 11; (with_reducible refine HHS.out.mono ?_); rintro e w4 ⟨rfl, hb4⟩; have hx4 := (hb4.block w3.heap.size (by simp)).trans (heap_alloc_new _ _); have hl34 : w3.heap.size < w4.heap.size := (Array.getElem?_eq_some_iff.1 hx4).1; obtain ⟨t0, t1, -, -⟩ := tok_lay hx4; have HS4 := Aside0.mk ((HS3.out.alloc _).below hb4); clear hx4 hb4)
              | ((with_reducible refine gate_builtin (b := .append) (xs := #[.tmp 57, .tmp 59]) rfl ?_); at_builtin; refine Kd.R_append k28 (w0 := w) w.heap.size rfl (.tmp 57) (.tmp 59) 23 28 (.agg #[(.int .i64 0), (.int .i64 0)]) 16 rfl Try.underlying23 (by kernel_rfl) rfl (by decide) (by omega) gv gs (⟨tk, tg⟩ : S28) [.int .i64 tk, .int .i64 tg] (Ap dv) (fun _ => False) rfl ?aX ?aP (fun _ hk => hk.elim) ?aF ?aO ?aB ?aS ?aL ?_; (case aX => simp [Act.eval]); (case aP => exact k28_mkM _ _ _ (⟨tk, tg⟩ : S28)); (case aB => exact HS4.out.hb); (case aF => exact fresh28 HS4.out.dr); (case aO => exact HS4.out.gr); (case aS => exact HS4.out.hb.size); (case aL => omega); intro v1 w5 ho hb hg hat; have HS5 := Aside0.mk (HS4.out.addG ho hb hg hat); clear ho hb hg hat))
            go_meet
            case rel => exact ⟨_, gs ++ [⟨tk, tg⟩], rfl, by simp; omega, HJ4, HS5⟩
        case rest =>
          obtain ⟨gv', gs', rfl, hgs', HJ4, HS4⟩ := hcut
          have hl3 := HJ3.out.1
          clear HJ3 HS3 HD HJ
          have HLV := Aside0.mk (fun (w1 : World) (h : TRow w1 R B l3 g) => live_r R B l3 g w1 h)
          have HNW := Aside0.mk HJ4.out.now
          have hx64 : (liveZ l3).length ≤ 64 := by have := liveZ_le l3; have := HS4.out.t.n; omega
          generalize hxs : liveZ l3 = xs at HLV HNW hx64
          have HXS := Aside0.mk hxs
          clear hxs
          go_wp2_with (go_at_call 12; (with_reducible refine (HLV.out _ HS4.out.t).mono ?_); rintro e w5 ⟨A5, c5, rfl, hR5, hb5⟩; have HS5 := Aside0.mk (HS4.out.below hb5); have HR5 := Aside0.mk hR5; clear hR5 hb5)
          go_loopw [13, 64] (fun nv0 ii wr => ∃ (wr6 : World) (nv : Value) (q : Nat), wr6 = wr ∧ nv = nv0 ∧ ii = .int .i64 q ∧ q ≤ xs.length ∧ Aside0 (R28 wr6 w5.heap.size (fun _ => True) nv ((xs.take q).map tokL)) ∧ Aside0 (Below w5.heap.size w5 wr6)) (fun _ ii _ => xs.length - (intOf ii).toNat)
          case atStart => exact ⟨_, _, 0, rfl, rfl, rfl, Nat.zero_le _, ⟨Kd.R_nil _ _ _ _ _⟩, ⟨Below.refl _ _⟩⟩
          case round =>
            obtain ⟨wr6, nv, q, rfl, rfl, rfl, hq, HN6, HB6⟩ := hrel
            by_cases hql : q < xs.length
            · obtain ⟨ad6, eA, hx0, hx1, hx2, hx3, hx4, hx5, hx6⟩ := (HR5.out.below HB6.out).cells q hql
              cases eA
              have hnw := HNW.out _ (List.getElem_mem hql)
              have htk : (xs.take (q + 1)).map tokL = (xs.take q).map tokL ++ [⟨xs[q].ks, xs[q].kg⟩] := by
                rw [List.take_add_one, List.getElem?_eq_getElem hql, List.map_append]
                rfl
              generalize xs[q] = x6 at hx0 hx1 hx2 hx3 hx4 hx5 hx6 hnw htk
              obtain ⟨ks, kg, ⟨ob, ri, ow, us, ug⟩⟩ := x6
              simp only at hx0 hx1 hx2 hx3 hx4 hx5 hx6 hnw htk
              have HTK := Aside0.mk htk
              have HHG := Aside0.mk (fun (w1 : World) (h : R28 w1 w.heap.size (Ap dv) gv' gs') => has_r h (by omega) ks kg)
              have HHD := Aside0.mk (fun (w1 : World) (h : R28 w1 w.heap.size (Ap gv') dv ds) => has_r h (by omega) ks kg)
              rw [hnw.1] at HHG
              rw [hnw.2] at HHD
              clear htk hnw
              go_wp2_with (first | ((with_reducible refine gate_builtin (b := .append) (xs := #[.tmp 68, .tmp 71]) rfl ?_); at_builtin; refine Kd.R_append k28 (w0 := w5) w5.heap.size rfl (.tmp 68) (.tmp 71) 23 28 (.agg #[(.int .i64 0), (.int .i64 0)]) 16 rfl Try.underlying23 (by kernel_rfl) rfl (by decide) (by omega) nv ((xs.take q).map tokL) (⟨ks, kg⟩ : S28) [.int .i64 ks, .int .i64 kg] (fun _ => True) (fun _ => False) rfl ?aX ?aP (fun _ hk => hk.elim) ?aF ?aO ?aB ?aS ?aL ?_; (case aX => simp [Act.eval]); (case aP => exact k28_mkM _ _ _ (⟨ks, kg⟩ : S28)); (case aB => exact below_alloc HB6.out _); (case aF => exact fun _ _ => trivial); (case aO => exact Kd.R_alloc HN6.out _); (case aS => exact below_size (below_alloc HB6.out _)); (case aL => simp; omega); intro v1 w7 ho hb hg hat; have hbx := (hg.block wr6.heap.size (by simp) (Kd.fresh' (Kd.R_lt HN6.out) _ (Nat.le_refl _))).trans (heap_alloc_new wr6 (.cells #[.int .i64 ks, .int .i64 kg, .int .i64 ob, .int .i64 ri, .int .i64 ow, .int .i64 us, .int .i64 ug] 39)); have HBX := Aside0.mk hbx; have hl7 : wr6.heap.size < w7.heap.size := (Array.getElem?_eq_some_iff.1 hbx).1; obtain ⟨y0, y1, y2, y3, y4, y5, y6⟩ := lv_lay hbx; have HB7 := Aside0.mk hb; have HS7 := Aside0.mk (HS5.out.below hb); have HN7 := Aside0.mk ho; clear ho hb hg hat hbx) | (go_at_call 11; (with_reducible refine (HHG.out _ HS7.out.gr).mono ?_); rintro e w8 ⟨rfl, hb8⟩; have hbx := (hb8.block _ hl7).trans HBX.out; have HBX8 := Aside0.mk hbx; have hl8 : wr6.heap.size < w8.heap.size := (Array.getElem?_eq_some_iff.1 hbx).1; clear y0 y1 y2 y3 y4 y5 y6; obtain ⟨y0, y1, y2, y3, y4, y5, y6⟩ := lv_lay hbx; have HB8 := Aside0.mk (below_step HB7.out hb8); have HS8 := Aside0.mk (HS7.out.below hb8); have HN8 := Aside0.mk (Kd.R_below HN7.out hb8); clear hb8 hbx) | (go_at_call 11; (with_reducible refine (HHD.out _ HS8.out.dr).mono ?_); rintro e w9 ⟨rfl, hb9⟩; have HB9 := Aside0.mk (below_step HB8.out hb9); have HN9 := Aside0.mk (Kd.R_below HN8.out hb9); clear hb9))
              exact ⟨⟨_, v1, q + 1, rfl, rfl, by go_num, by omega, ⟨by rw [HTK.out]; exact HN9.out⟩, HB9⟩, by simp [intOf]; omega⟩
            · have hqg : xs.length ≤ q := by omega
              have HN7 : Aside0 (R28 wr6 w5.heap.size (fun _ => True) nv (xs.map tokL)) := ⟨by have := HN6.out; rwa [List.take_of_length_le hqg] at this⟩
              have HS6 := Aside0.mk (HS5.out.below HB6.out)
              have hdlt : ∀ k, dv.ownBlock = some k → k < w5.heap.size := Kd.R_lt HS5.out.dr
              have HNA := Aside0.mk (apart28 HN7.out hdlt)
              clear hdlt HN7 HR5 HNW HLV
              obtain ⟨Ag, cg, eg⟩ := Kd.R_slice HS6.out.gr
              subst eg
              go_wp2
              go_loopw [9, 87] (fun dv0 ii wr => ∃ (wr3 : World) (dv1 : Value) (ds1 : List S28) (q : Nat), wr3 = wr ∧ dv1 = dv0 ∧ ii = .int .i64 q ∧ q ≤ gs'.length ∧ ds1.length ≤ ds.length + q ∧ Aside0 (Jd l3 gs' ds1) ∧ Aside0 (DS w wr3 R B l3 g (.slice Ag gs'.length cg) dv1 gs' ds1) ∧ Aside0 (R28 wr3 w5.heap.size (Ap dv1) nv (xs.map tokL))) (fun _ ii _ => gs'.length - (intOf ii).toNat)
              case atStart => exact ⟨_, _, ds, 0, rfl, rfl, rfl, Nat.zero_le _, Nat.le_refl _, HJ4, HS6, HNA⟩
              case round =>
                obtain ⟨wr3, dv1, ds1, q3, rfl, rfl, rfl, hq3, hds1, HJ5, HS3, HN3⟩ := hrel
                by_cases hql3 : q3 < gs'.length
                · obtain ⟨ad7, eA, hz0, hz1⟩ := tk_get rfl (Kd.R_reads' HS3.out.gr).2.2 q3 hql3
                  cases eA
                  have HM := Aside0.mk (List.getElem_mem hql3)
                  generalize gs'[q3] = z at hz0 hz1 HM
                  obtain ⟨z0, z1⟩ := z
                  simp only at hz0 hz1
                  have HHN := Aside0.mk (fun (w1 : World) (h : R28 w1 w5.heap.size (Ap dv1) nv (xs.map tokL)) => has_r h (by rw [List.length_map]; omega) z0 z1)
                  have HHD := Aside0.mk (fun (w1 : World) (ok : Nat → Prop) (h : R28 w1 w.heap.size ok dv1 ds1) => has_r h (by omega) z0 z1)
                  cases hb1 : hasB (xs.map tokL) z0 z1
                  · have HJ6 := Aside0.mk (fun hh => HJ5.out.gone HM.out hh)
                    rw [HXS.out] at HJ6
                    have HJ7 := Aside0.mk (HJ6.out hb1)
                    clear HJ6
                    rw [hb1] at HHN
                    clear hb1
                    cases hb2 : hasB ds1 z0 z1
                    · rw [hb2] at HHD
                      clear hb2
                      go_wp2_with (first | (go_at_call 11; (with_reducible refine (HHN.out _ (Kd.R_alloc HN3.out _)).mono ?_); rintro e w8 ⟨rfl, hb8⟩; have hbx := (hb8.block wr3.heap.size (by simp)).trans (heap_alloc_new _ _); have HBX8 := Aside0.mk hbx; have hl8 : wr3.heap.size < w8.heap.size := (Array.getElem?_eq_some_iff.1 hbx).1; obtain ⟨t0, t1, -, -⟩ := tok_lay hbx; have HS8 := Aside0.mk ((HS3.out.alloc _).below hb8); have HN8 := Aside0.mk (Kd.R_below (Kd.R_alloc HN3.out _) hb8); clear hb8 hbx) | (go_at_call 11; (with_reducible refine (HHD.out _ _ HS8.out.dr).mono ?_); rintro e w9 ⟨rfl, hb9⟩; have hbx := (hb9.block _ hl8).trans HBX8.out; clear t0 t1; obtain ⟨t0, t1, -, -⟩ := tok_lay hbx; have hl9 : wr3.heap.size < w9.heap.size := (Array.getElem?_eq_some_iff.1 hbx).1; have HS9 := Aside0.mk (HS8.out.below hb9); have HN9 := Aside0.mk (Kd.R_below HN8.out hb9); clear hb9 hbx) | ((with_reducible refine gate_builtin (b := .append) (xs := #[.tmp 101, .tmp 103]) rfl ?_); at_builtin; refine Kd.R_append k28 (w0 := w) w.heap.size rfl (.tmp 101) (.tmp 103) 23 28 (.agg #[(.int .i64 0), (.int .i64 0)]) 16 rfl Try.underlying23 (by kernel_rfl) rfl (by decide) (by omega) dv1 ds1 (⟨z0, z1⟩ : S28) [.int .i64 z0, .int .i64 z1] (Ap (.slice (some ad7) gs'.length cg)) (fun _ => False) rfl ?aX ?aP (fun _ hk => hk.elim) ?aF ?aO ?aB ?aS ?aL ?_; (case aX => simp [Act.eval]); (case aP => exact k28_mkM _ _ _ (⟨z0, z1⟩ : S28)); (case aB => exact HS9.out.hb); (case aF => exact fresh28 HS9.out.gr); (case aO => exact HS9.out.dr); (case aS => exact HS9.out.hb.size); (case aL => omega); intro v1 w10 ho hb hg hat; have HS10 := Aside0.mk (HS9.out.addD ho hb hg hat); have HN10 := Aside0.mk (Kd.R_after (ok := fun _ => True) HN9.out hg hat); clear ho hb hg hat))
                      exact ⟨⟨_, v1, ds1 ++ [⟨z0, z1⟩], q3 + 1, rfl, rfl, by go_num, by omega, by simp; omega, HJ7, HS10, HN10⟩, by simp [intOf]; omega⟩
                    · rw [hb2] at HHD
                      clear hb2
                      go_wp2_with (first | (go_at_call 11; (with_reducible refine (HHN.out _ (Kd.R_alloc HN3.out _)).mono ?_); rintro e w8 ⟨rfl, hb8⟩; have hbx := (hb8.block wr3.heap.size (by simp)).trans (heap_alloc_new _ _); have HBX8 := Aside0.mk hbx; have hl8 : wr3.heap.size < w8.heap.size := (Array.getElem?_eq_some_iff.1 hbx).1; obtain ⟨t0, t1, -, -⟩ := tok_lay hbx; have HS8 := Aside0.mk ((HS3.out.alloc _).below hb8); have HN8 := Aside0.mk (Kd.R_below (Kd.R_alloc HN3.out _) hb8); clear hb8 hbx) | (go_at_call 11; (with_reducible refine (HHD.out _ _ HS8.out.dr).mono ?_); rintro e w9 ⟨rfl, hb9⟩; have hbx := (hb9.block _ hl8).trans HBX8.out; clear t0 t1; obtain ⟨t0, t1, -, -⟩ := tok_lay hbx; have hl9 : wr3.heap.size < w9.heap.size := (Array.getElem?_eq_some_iff.1 hbx).1; have HS9 := Aside0.mk (HS8.out.below hb9); have HN9 := Aside0.mk (Kd.R_below HN8.out hb9); clear hb9 hbx))
                      exact ⟨⟨_, dv1, ds1, q3 + 1, rfl, rfl, by go_num, by omega, by omega, HJ5, HS9, HN9⟩, by simp [intOf]; omega⟩
                  · rw [hb1] at HHN
                    clear hb1
                    go_wp2_with (first | (go_at_call 11; (with_reducible refine (HHN.out _ (Kd.R_alloc HN3.out _)).mono ?_); rintro e w8 ⟨rfl, hb8⟩; have hbx := (hb8.block wr3.heap.size (by simp)).trans (heap_alloc_new _ _); have HBX8 := Aside0.mk hbx; have hl8 : wr3.heap.size < w8.heap.size := (Array.getElem?_eq_some_iff.1 hbx).1; obtain ⟨t0, t1, -, -⟩ := tok_lay hbx; have HS8 := Aside0.mk ((HS3.out.alloc _).below hb8); have HN8 := Aside0.mk (Kd.R_below (Kd.R_alloc HN3.out _) hb8); clear hb8 hbx))
                    exact ⟨⟨_, dv1, ds1, q3 + 1, rfl, rfl, by go_num, by omega, by omega, HJ5, HS8, HN8⟩, by simp [intOf]; omega⟩
                · have hqg3 : gs'.length ≤ q3 := by omega
                  obtain ⟨i028, hi028, _⟩ := Option.map_eq_some_iff.1 (show (Try.prog.info? 28).map (fun i => (i.zero, i.size, i.bytes)) = some (some (.agg #[(.int .i64 0), (.int .i64 0)]), 2, 16) by kernel_rfl)
                  have hmn : 0 ≤ mnO (l2.length : Int) 20 ∧ mnO (l2.length : Int) 20 ≤ (l2.length : Int) ∧ mnO (l2.length : Int) 20 ≤ 20 := by unfold mnO; split <;> omega
                  have hcut := cut_to (P := Try.prog) 23 28 .i64 Try.underlying23 hi028 A2 l2.length c2 (mnO (l2.length : Int) 20) hmn.1 hmn.2.1 hc2
                  obtain ⟨m, hm⟩ : ∃ m : Nat, m = (mnO (l2.length : Int) 20).toNat := ⟨_, rfl⟩
                  have hm20 : m ≤ 20 := by omega
                  have hmt : (l2.take m).length = m := by rw [List.length_take]; omega
                  have hrm := Kd.C_take (m := m) HR2.out (by omega)
                  rw [hmt] at hrm
                  have HRM := Aside0.mk hrm
                  rw [← hm] at hcut
                  clear hi028 hm hmn hrm hmt
                  obtain ⟨Ad, cd, ed⟩ := Kd.R_slice HS3.out.dr
                  subst ed
                  have HS3d := Aside0.mk (HS3.out.below (below_drew (Below.refl _ _)))
                  go_upto_region 30 with (fail)
                  go_cut [113, 114, 115] from 106 to 115 (fun jv0 ln st wc => ∃ (w8 : World) (Aj : Option Addr) (cj : Nat) (js : List S28), w8 = wc ∧ jv0 = .slice Aj js.length cj ∧ ln = .int .i64 js.length ∧ st = .int .i64 0 ∧ js.length ≤ 100000 ∧ Aside0 (Below wr3.heap.size wr3 w8) ∧ Aside0 (R28 w8 wr3.heap.size (fun _ => True) (.slice Aj js.length cj) js))
                  case first =>
                    go_region_held3 (fun _ => True) (exact trivial) (first | (refine Kd.R_append_rows_step k28 (w0 := wr3) wr3.heap.size (by rfl) (.const (.slice none 0 0)) (.tmp 106) 23 28 (.agg #[(.int .i64 0), (.int .i64 0)]) 16 rfl Try.underlying23 (by kernel_rfl) rfl (by decide) (by omega) (.slice none 0 0) ([] : List S28) ds1 Ad ds1.length cd (fun _ => True) (fun _ => False) rfl rfl ?aO ?aR (fun _ _ h => h) (fun _ h => h.elim) ?aF ?aB ?aS ?aL ?_; (case aO => exact Kd.R_nil _ _ _ _ _); (case aR => exact (Kd.R_reads' HS3d.out.dr).2.2); (case aF => exact fun _ _ => trivial); (case aB => exact below_drew (Below.refl _ _)); (case aS => exact Nat.le_refl _); (case aL => simp; omega); intro v107 w7 ho hb hg hat; have HC7 := Aside0.mk hb; have HJ107 := Aside0.mk ho; have HS7 := Aside0.mk (HS3.out.below hb); clear ho hb hg hat) | (refine Kd.R_append_rows_step k28 (w0 := wr3) wr3.heap.size (by rfl) (.tmp 107) (.tmp 112) 23 28 (.agg #[(.int .i64 0), (.int .i64 0)]) 16 rfl Try.underlying23 (by kernel_rfl) rfl (by decide) (by omega) v107 ([] ++ ds1) (l2.take m) A2 m c2 (fun _ => True) (fun _ => False) rfl rfl ?aO ?aR (fun _ _ h => h) (fun _ h => h.elim) ?aF ?aB ?aS ?aL ?_; (case aO => exact HJ107.out); (case aR => exact Kd.C_below HRM.out HS7.out.hb); (case aF => exact fun _ _ => trivial); (case aB => exact HC7.out); (case aS => exact HC7.out.size); (case aL => simp; omega); intro v113 w8 ho hb hg hat; have hjl : (([] ++ ds1) ++ l2.take m).length ≤ 100000 := (by simp only [List.nil_append, List.length_append, List.length_take]; omega); generalize (([] ++ ds1) ++ l2.take m) = js at ho hjl; obtain ⟨Aj, cj, ej⟩ := Kd.R_slice ho; subst ej; have HC8 := Aside0.mk hb; have HJ8 := Aside0.mk ho; clear ho hb hg hat))
                    all_goals (go_wp2; go_meet; exact ⟨_, Aj, cj, js, rfl, rfl, rfl, rfl, hjl, HC8, HJ8⟩)
                  case rest =>
                    obtain ⟨w8, Aj, cj, js, rfl, rfl, rfl, rfl, hjl, HC8, HJ8⟩ := hcut
                    have HS8 := Aside0.mk (HS3.out.below HC8.out)
                    have HN8 := Aside0.mk (Kd.R_mono (Kd.R_below HN3.out HC8.out) (ok' := fun _ => True) (fun _ _ => trivial))
                    clear hcut HS3d HS3 HN3 HNA HS6
                    go_wp2
                    go_loopw [115] (fun ii wr => ∃ (wr4 : World) (q : Nat), wr4 = wr ∧ ii = .int .i64 q ∧ q ≤ js.length ∧ Aside0 (DS w wr4 R B l3 g (.slice Ag gs'.length cg) (.slice Ad ds1.length cd) gs' ds1) ∧ Aside0 (R28 wr4 w5.heap.size (fun _ => True) nv (xs.map tokL)) ∧ Aside0 (R28 wr4 wr3.heap.size (fun _ => True) (.slice Aj js.length cj) js)) (fun ii _ => js.length - (intOf ii).toNat)
                    case atStart => exact ⟨_, 0, rfl, rfl, Nat.zero_le _, HS8, HN8, HJ8⟩
                    case round =>
                      have hjl := hjl
                      obtain ⟨wr4, q4, rfl, rfl, hq4, HS9, HN9, HJ9⟩ := hrel
                      by_cases hql4 : q4 < js.length
                      · obtain ⟨ad8, eA, hz0, hz1⟩ := tk_get rfl (Kd.R_reads' HJ9.out).2.2 q4 hql4
                        cases eA
                        generalize js[q4] = z at hz0 hz1
                        obtain ⟨z0, z1⟩ := z
                        simp only at hz0 hz1
                        have HHN := Aside0.mk (fun (w1 : World) (h : R28 w1 w5.heap.size (fun _ => True) nv (xs.map tokL)) => has_r h (by rw [List.length_map]; omega) z0 z1)
                        cases hb1 : hasB (xs.map tokL) z0 z1
                        · have hbn : hasB ((liveZ l3).map tokL) z0 z1 = false := by rw [HXS.out]; exact hb1
                          have hnf := now_find hbn
                          have hlk := now_look hbn
                          have hrv := now_revoke hbn
                          rw [hb1] at HHN
                          have HLK := Aside0.mk (fun (who : Int) (w1 : World) (h : TRow w1 R B l3 g) => Look_w R B l3 g z0 z1 who 0 w1 h)
                          have HRV := Aside0.mk (fun (w1 : World) (h : TRow w1 R B l3 g) => Revoke_w R B l3 g z0 z1 w1 h)
                          simp only [hlk] at HLK
                          simp only [hrv] at HRV
                          clear hb1 hbn hlk hrv
                          generalize findE l3 z0 z1 = er at *
                          rcases hnf with rfl | rfl
                          · go_wp2_with (first | (go_at_call 11; (with_reducible refine (HHN.out _ (Kd.R_alloc HN9.out _)).mono ?_); rintro e wh ⟨rfl, hbh⟩; have hbx := (hbh.block wr4.heap.size (by simp)).trans (heap_alloc_new _ _); have HBXh := Aside0.mk hbx; have hlh : wr4.heap.size < wh.heap.size := (Array.getElem?_eq_some_iff.1 hbx).1; obtain ⟨t0, t1, -, -⟩ := tok_lay hbx; have HSh := Aside0.mk ((HS9.out.alloc _).below hbh); have HNh := Aside0.mk (Kd.R_below (Kd.R_alloc HN9.out _) hbh); have HJh := Aside0.mk (Kd.R_below (Kd.R_alloc HJ9.out _) hbh); clear hbh hbx))
                            clear t0 t1
                            go_loopw [122] (fun ii wr => ∃ (wr5 : World) (p : Nat), wr5 = wr ∧ ii = .int .i64 p ∧ p ≤ 4 ∧ Aside0 (Below wh.heap.size wh wr5)) (fun ii _ => 4 - (intOf ii).toNat)
                            case atStart => exact ⟨_, 0, rfl, rfl, by omega, ⟨Below.refl _ _⟩⟩
                            case round =>
                              obtain ⟨wr5, p, rfl, rfl, hp4, HB10⟩ := hrel
                              have hbx := (HB10.out.block _ hlh).trans HBXh.out
                              obtain ⟨t0, t1, -, -⟩ := tok_lay hbx
                              clear hbx
                              by_cases hp : p < 4
                              · go_wp2_with (first | (go_at_call 13; (with_reducible refine (HLK.out _ _ (HSh.out.below HB10.out).t).mono ?_); rintro e wl ⟨rfl, hbl⟩; have HBl := Aside0.mk (below_step HB10.out hbl); clear hbl))
                                exact ⟨⟨_, p + 1, rfl, by go_num, by omega, ⟨below_alloc HBl.out _⟩⟩, by simp [intOf]; omega⟩
                              · have hpg : 4 ≤ p := by omega
                                go_wp2_with (first | (go_at_call 14; (with_reducible refine (HRV.out _ (HSh.out.below HB10.out).t).mono ?_); rintro e wv ⟨rfl, hTv, hGv⟩; have HSv := Aside0.mk ((HSh.out.below HB10.out).only hTv hGv); have HNv := Aside0.mk (keep_row2 (Kd.R_below HNh.out HB10.out) (HSh.out.below HB10.out).t.b (by decide) hGv); have HJv := Aside0.mk (keep_row2 (Kd.R_below HJh.out HB10.out) (HSh.out.below HB10.out).t.b (by decide) hGv); clear hTv hGv))
                                exact ⟨⟨_, q4 + 1, rfl, by go_num, by omega, HSv, HNv, HJv⟩, by simp [intOf]; omega⟩
                          · go_wp2_with (first | (go_at_call 11; (with_reducible refine (HHN.out _ (Kd.R_alloc HN9.out _)).mono ?_); rintro e wh ⟨rfl, hbh⟩; have hbx := (hbh.block wr4.heap.size (by simp)).trans (heap_alloc_new _ _); have HBXh := Aside0.mk hbx; have hlh : wr4.heap.size < wh.heap.size := (Array.getElem?_eq_some_iff.1 hbx).1; obtain ⟨t0, t1, -, -⟩ := tok_lay hbx; have HSh := Aside0.mk ((HS9.out.alloc _).below hbh); have HNh := Aside0.mk (Kd.R_below (Kd.R_alloc HN9.out _) hbh); have HJh := Aside0.mk (Kd.R_below (Kd.R_alloc HJ9.out _) hbh); clear hbh hbx))
                            clear t0 t1
                            go_loopw [122] (fun ii wr => ∃ (wr5 : World) (p : Nat), wr5 = wr ∧ ii = .int .i64 p ∧ p ≤ 4 ∧ Aside0 (Below wh.heap.size wh wr5)) (fun ii _ => 4 - (intOf ii).toNat)
                            case atStart => exact ⟨_, 0, rfl, rfl, by omega, ⟨Below.refl _ _⟩⟩
                            case round =>
                              obtain ⟨wr5, p, rfl, rfl, hp4, HB10⟩ := hrel
                              have hbx := (HB10.out.block _ hlh).trans HBXh.out
                              obtain ⟨t0, t1, -, -⟩ := tok_lay hbx
                              clear hbx
                              by_cases hp : p < 4
                              · go_wp2_with (first | (go_at_call 13; (with_reducible refine (HLK.out _ _ (HSh.out.below HB10.out).t).mono ?_); rintro e wl ⟨rfl, hbl⟩; have HBl := Aside0.mk (below_step HB10.out hbl); clear hbl))
                                exact ⟨⟨_, p + 1, rfl, by go_num, by omega, ⟨below_alloc HBl.out _⟩⟩, by simp [intOf]; omega⟩
                              · have hpg : 4 ≤ p := by omega
                                go_wp2_with (first | (go_at_call 14; (with_reducible refine (HRV.out _ (HSh.out.below HB10.out).t).mono ?_); rintro e wv ⟨rfl, hTv, hGv⟩; have HSv := Aside0.mk ((HSh.out.below HB10.out).only hTv hGv); have HNv := Aside0.mk (keep_row2 (Kd.R_below HNh.out HB10.out) (HSh.out.below HB10.out).t.b (by decide) hGv); have HJv := Aside0.mk (keep_row2 (Kd.R_below HJh.out HB10.out) (HSh.out.below HB10.out).t.b (by decide) hGv); clear hTv hGv))
                                exact ⟨⟨_, q4 + 1, rfl, by go_num, by omega, HSv, HNv, HJv⟩, by simp [intOf]; omega⟩
                        · rw [hb1] at HHN
                          clear hb1
                          go_wp2_with (first | (go_at_call 11; (with_reducible refine (HHN.out _ (Kd.R_alloc HN9.out _)).mono ?_); rintro e wh ⟨rfl, hbh⟩; have hbx := (hbh.block wr4.heap.size (by simp)).trans (heap_alloc_new _ _); have HBXh := Aside0.mk hbx; have hlh : wr4.heap.size < wh.heap.size := (Array.getElem?_eq_some_iff.1 hbx).1; obtain ⟨t0, t1, -, -⟩ := tok_lay hbx; have HSh := Aside0.mk ((HS9.out.alloc _).below hbh); have HNh := Aside0.mk (Kd.R_below (Kd.R_alloc HN9.out _) hbh); have HJh := Aside0.mk (Kd.R_below (Kd.R_alloc HJ9.out _) hbh); clear hbh hbx))
                          exact ⟨⟨_, q4 + 1, rfl, by go_num, by omega, HSh, HNh, HJh⟩, by simp [intOf]; omega⟩
                      · have hqg4 : js.length ≤ q4 := by omega
                        go_wp2
                        exact ⟨⟨_, _, k + 1, l3, gs', ds1, rfl, rfl, by go_num, by omega, by omega, by omega, HJ5, HS9⟩, by simp [intOf]; omega⟩
      · have hkg : 60 ≤ k := by omega
        go_wp2
        go_ret
        exact ⟨rfl, HS.out.hb⟩
    · have hkg : l1.length ≤ k := by omega
      go_wp2
      go_ret
      exact ⟨rfl, HS.out.hb⟩
/-! The contract of CapsDead, in the print's form. -/
def bureaulaw17_CapsDead.f (a0 : Int) (l1 : List S32) (l2 : List S28) : Option Bool := if (Lit.int .i64 a0).wf = true ∧ l1.length ≤ maxLen ∧ l2.length ≤ maxLen ∧ l1.all (fun x => decide (0 ≤ x.f0 ∧ x.f0 ≤ 255)) = true then some true else none
theorem bureaulaw17_CapsDead.calls (a0 : Int) (A1 : Option Addr) (c1 : Nat) (l1 : List S32) (A2 : Option Addr) (c2 : Nat) (l2 : List S28) (r : Bool) (w : World) (hr1 : Kd.C k32 w A1 l1.length l1) (hc1 : l1.length ≤ c1) (hr2 : Kd.C k28 w A2 l2.length l2) (hc2 : l2.length ≤ c2) (h : bureaulaw17_CapsDead.f a0 l1 l2 = some r) :
    Calls Try.prog 3 #[.int .i64 a0, .slice A1 l1.length c1, .slice A2 l2.length c2] w fun e w' => e = .returned (.bool r) ∧ Below w.heap.size w w' := by
  unfold bureaulaw17_CapsDead.f at h
  split at h
  · rename_i hc
    cases h
    exact Dead_w a0 A1 c1 l1 A2 c2 l2 w hr1 hc1 hr2 hc2 hc.2.1 hc.2.2.1 (fun x hx => of_decide_eq_true (List.all_eq_true.1 hc.2.2.2 x hx))
  · cases h

end Go.Proofs.Ytecbdhampjmlaaa.Ext
