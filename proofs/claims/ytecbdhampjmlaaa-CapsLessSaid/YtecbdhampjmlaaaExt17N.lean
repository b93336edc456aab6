/- caps: CapsLess, by its walk. -/
import Derived.Test.YtecbdhampjmlaaaExt17M
import Derived.Test.YtecbdhampjmlaaaXCapsActsx7
import Derived.Test.YtecbdhampjmlaaaXCapsLessx0
import Derived.Test.YtecbdhampjmlaaaWMore
import Derived.WalkKit
import Derived.WalkMore
import Derived.Below
import Derived.KernelRfl
import Derived.LoopTactic
import Derived.Deep.RegionWith
import Derived.Deep.RegionHeld3
import Derived.IntWalk
import Derived.Deep.DeepCutAuto
import Derived.Deep.CutBlock
import Derived.BigQuiet
import Derived.Laws.RangeString
import Derived.Laws.RangeAny
import Derived.Laws.Rows
import Derived.Laws.Runes
import Derived.Lib.OthersKept
import Derived.OpenShut
set_option linter.unusedVariables false
set_option linter.unusedSimpArgs false
namespace Go.Proofs.Ytecbdhampjmlaaa.Ext
open Go.RowKit Go.Lib Go.Proofs.YtecbdhampjmlaaaW.PrintWords Go.Proofs.YtecbdhampjmlaaaW.PrintMore Go.Proofs.Ytecbdhampjmlaaa.XCapsActs Go.Proofs.Ytecbdhampjmlaaa.XCapsLess

theorem keep_row2 {α : Type} {d : Kd α} {e base B : Nat} {ok : Nat → Prop} {w w' : World} {v : Value} {xs : List α} {cs : Array Value} {t : TypeId} (h : d.R e w base ok v xs) (hB : w.heap[B]? = some (.cells cs t (0, 0))) (ht : ∀ q, q ∈ e :: d.E → q ≠ t) (hG : w.grownBy w' (some B)) : d.R e w' base ok v xs :=
  Kd.R_mono (Kd.R_step (Kd.R_bound h) (fun k hk hlt => hG.block k hlt (fun eq => by
    injection eq with eq
    subst eq
    obtain ⟨q, hq, cells, hc⟩ := hk.2.2.2
    rw [hB] at hc
    injection hc with hc
    injection hc with _ hc2
    exact ht q hq hc2.symm))) (fun _ hk => hk.1)
theorem cell_only {a b : World} {B : Nat} (hg : a.grownBy b (some B)) {ad : Addr} {v : Value} (hB : a.heap.size ≤ B) (h : a.cell? ad = some v) (hlt : ad.block < a.heap.size) : b.cell? ad = some v :=
  (hg.cell_far ad hlt (fun e => by injection e; omega)).trans h
theorem add_blk (a : Addr) (n : Nat) : (a.add n).block = a.block := by unfold Addr.add; split <;> rfl
theorem lv_cells {w : World} {A : Option Addr} {n : Nat} {xs : List Lv} (hn : n = xs.length) (h : Kd.C k39 w A n (xs.map s39)) (q : Nat) (hq : q < xs.length) : ∃ ad, A = some ad ∧ w.cell? (ad.add (q * 7)) = some (.int .i64 xs[q].ks) ∧ w.cell? ⟨(ad.add (q * 7)).block, (ad.add (q * 7)).off + 1, none⟩ = some (.int .i64 xs[q].kg) ∧ w.cell? ⟨(ad.add (q * 7)).block, (ad.add (q * 7)).off + 2, none⟩ = some (.int .i64 xs[q].cap.obj) ∧ w.cell? ⟨(ad.add (q * 7)).block, (ad.add (q * 7)).off + 3, none⟩ = some (.int .i64 xs[q].cap.rights) ∧ w.cell? ⟨(ad.add (q * 7)).block, (ad.add (q * 7)).off + 4, none⟩ = some (.int .i64 xs[q].cap.owner) ∧ w.cell? ⟨(ad.add (q * 7)).block, (ad.add (q * 7)).off + 5, none⟩ = some (.int .i64 xs[q].cap.us) ∧ w.cell? ⟨(ad.add (q * 7)).block, (ad.add (q * 7)).off + 6, none⟩ = some (.int .i64 xs[q].cap.ug) := by
  subst hn
  obtain ⟨ad, eA, hx0, hx1, hx2, hx3, hx4, hx5, hx6⟩ := at_T39 h (q : Int) (by omega) (by omega)
  have erd : rd_T39 (xs.map s39) (q : Int) = s39 xs[q] := by
    unfold rd_T39
    rw [Int.toNat_natCast, List.getD_eq_getElem?_getD, List.getElem?_map, List.getElem?_eq_getElem hq]
    rfl
  rw [erd, Int.toNat_natCast] at hx0 hx1 hx2 hx3 hx4 hx5 hx6
  exact ⟨ad, eA, hx0, hx1, hx2, hx3, hx4, hx5, hx6⟩
theorem okB_no (x y : Lv) (h : ¬ (y.ks = x.cap.us ∧ y.kg = x.cap.ug ∧ y.cap.obj = x.cap.obj ∧ Go.bits .andNot .i64 x.cap.rights y.cap.rights = 0)) : okB x y = false := by
  cases e : okB x y
  · rfl
  · unfold okB at e
    simp only [Bool.and_eq_true, beq_iff_eq] at e
    exact absurd ⟨e.1.1.1.1, e.1.1.1.2, e.1.1.2, e.1.2⟩ h
theorem okB_yes (x y : Lv) (h : y.ks = x.cap.us ∧ y.kg = x.cap.ug ∧ y.cap.obj = x.cap.obj ∧ Go.bits .andNot .i64 x.cap.rights y.cap.rights = 0) : okB x y = (Go.bits .and .i64 y.cap.rights 8 != 0) := by
  unfold okB
  rw [beq_iff_eq.2 h.1, beq_iff_eq.2 h.2.1, beq_iff_eq.2 h.2.2.1, beq_iff_eq.2 h.2.2.2]
  rfl
theorem okB_yes0 (x y : Lv) (h : y.ks = x.cap.us ∧ y.kg = x.cap.ug ∧ y.cap.obj = x.cap.obj ∧ Go.bits .andNot .i64 x.cap.rights y.cap.rights = 0) (h5 : Go.bits .and .i64 y.cap.rights 8 = 0) : okB x y = false := by
  rw [okB_yes x y h, h5]
  rfl
theorem any_take3 (xs : List Lv) (f : Lv → Bool) (q : Nat) (hq : q < xs.length) : (xs.take (q + 1)).any f = ((xs.take q).any f || f xs[q]) := by
  rw [List.take_add_one, List.any_append, List.getElem?_eq_getElem hq]
  simp
theorem lv_lay {w : World} {T : Nat} {a b c d e f g : Value} {t : TypeId} (h : w.heap[T]? = some (.cells #[a, b, c, d, e, f, g] t (0, 0))) : w.cell? ⟨T, 0, none⟩ = some a ∧ w.cell? ⟨T, 1, none⟩ = some b ∧ w.cell? ⟨T, 2, none⟩ = some c ∧ w.cell? ⟨T, 3, none⟩ = some d ∧ w.cell? ⟨T, 4, none⟩ = some e ∧ w.cell? ⟨T, 5, none⟩ = some f ∧ w.cell? ⟨T, 6, none⟩ = some g :=
  ⟨by rw [cell_of_row w T _ _ _ _ h]; rfl, by rw [cell_of_row w T _ _ _ _ h]; rfl, by rw [cell_of_row w T _ _ _ _ h]; rfl, by rw [cell_of_row w T _ _ _ _ h]; rfl, by rw [cell_of_row w T _ _ _ _ h]; rfl, by rw [cell_of_row w T _ _ _ _ h]; rfl, by rw [cell_of_row w T _ _ _ _ h]; rfl⟩
def acOf (x : S32) : Ac := ⟨x.f0, x.f1.f0, x.f1.f1, x.f2, x.f3, x.f4, x.f5, x.f6⟩
def mxO (x y : Int) : Int := if x < y then y else x
def mnO (x y : Int) : Int := if y < x then y else x
theorem mxO_int (k k' : IntKind) (x y : Int) : Builtin.max2 (.int k x) (.int k' y) = pure (.int k (mxO x y)) := max2_int k k' x y
theorem mnO_int (k k' : IntKind) (x y : Int) : Builtin.min2 (.int k x) (.int k' y) = pure (.int k (mnO x y)) := min2_int k k' x y
theorem mn_in (a : Int) : 1 ≤ mnO (mxO a 1) 64 ∧ mnO (mxO a 1) 64 ≤ 64 := by unfold mnO mxO; split <;> split <;> omega
attribute [local go_sem] mxO_int mnO_int max_two min_two
set_option maxRecDepth 100000 in
set_option maxHeartbeats 16000000 in
theorem Less_w (a : Int) (A1 : Option Addr) (c1 : Nat) (l1 : List S32) (w : World) (hr1 : Kd.C k32 w A1 l1.length l1) (hc1 : l1.length ≤ c1) (hlm : l1.length ≤ maxLen) (hk : ∀ x, x ∈ l1 → 0 ≤ x.f0 ∧ x.f0 ≤ 255) (ha : (Lit.int .i64 a).wf = true) :
    Calls Try.prog 4 #[.int .i64 a, .slice A1 l1.length c1] w fun e w' => e = .returned (.bool true) ∧ Below w.heap.size w w' := by
  have hlm2 : l1.length ≤ 9223372036854775807 := hlm
  have HAL := Aside0.mk (alive_w w)
  have HN := Aside0.mk (fun (S G : Int) (w1 : World) (h1 : 1 ≤ S ∧ S ≤ 64) (h2 : 1 ≤ G ∧ G ≤ 65535) => New_w S G w1 h1 h2)
  have HK := Aside0.mk hk
  have HR1 := Aside0.mk hr1
  clear hk hr1 hlm
  go_enter Try.func4, Try.ntmps4
  go_wp2_with (first
    | (go_at_call 8; (with_reducible refine HAL.out.mono ?_); rintro e w1 ⟨rfl, hb1⟩; have HB1 := Aside0.mk hb1; clear hb1)
    | (go_at_call 9; (with_reducible refine (HN.out _ _ _ (by exact mn_in a) (by omega)).mono ?_); rintro e w2 ⟨R, B, hR, hB, rfl, hT2, hb2⟩; have HT2 := Aside0.mk hT2; have HB2 := Aside0.mk hb2; have ltR := hT2.ltR; have ltB := hT2.ltB; clear hT2 hb2))
  have hW : Aside0 (w.grownBy w2 (some B)) := ⟨only_of_below (below_step HB1.out HB2.out) _⟩
  have hwB : Aside0 (w.heap.size ≤ B) := ⟨Nat.le_trans HB1.out.size hB⟩
  generalize (mnO (mxO a 1) 64).toNat = sn at *
  have HS0 := Aside0.mk (Lss.start sn)
  go_loopw [6] (fun ii wr => ∃ (k : Nat) (l2 : List Sl), ii = .int .i64 k ∧ k ≤ l1.length ∧ Aside0 (Lss l2) ∧ Aside0 (TRow wr R B l2 99) ∧ Aside0 (w.grownBy wr (some B))) (fun ii _ => l1.length - (intOf ii).toNat)
  case atStart => exact ⟨0, List.replicate sn sl0, rfl, Nat.zero_le _, HS0, HT2, hW⟩
  case round =>
    obtain ⟨k, l2, rfl, hk, HLS, HT, HW⟩ := hrel
    by_cases hkl : k < l1.length
    · by_cases hk60 : k < 60
      · obtain ⟨ad, eA, hx0, hx1, hx2, hx3, hx4, hx5, hx6, hx7⟩ := at_T32 HR1.out (k : Int) (by omega) (by omega)
        cases eA
        rw [Int.toNat_natCast] at hx0 hx1 hx2 hx3 hx4 hx5 hx6 hx7
        have hlt : (ad.add (k * 8)).block < w.heap.size := by rw [add_blk]; exact Kd.C_lt HR1.out (by omega) (by decide)
        have hm : rd_T32 l1 (k : Int) ∈ l1 := by
          unfold rd_T32
          rw [Int.toNat_natCast, List.getD_eq_getElem?_getD, List.getElem?_eq_getElem hkl]
          exact List.getElem_mem hkl
        have hkk := HK.out _ hm
        generalize rd_T32 l1 (k : Int) = x at hx0 hx1 hx2 hx3 hx4 hx5 hx6 hx7 hkk
        have hx0 := cell_only HW.out hwB.out hx0 hlt
        have hx1 := cell_only HW.out hwB.out hx1 hlt
        have hx2 := cell_only HW.out hwB.out hx2 hlt
        have hx3 := cell_only HW.out hwB.out hx3 hlt
        have hx4 := cell_only HW.out hwB.out hx4 hlt
        have hx5 := cell_only HW.out hwB.out hx5 hlt
        have hx6 := cell_only HW.out hwB.out hx6 hlt
        have hx7 := cell_only HW.out hwB.out hx7 hlt
        have HD := Aside0.mk (fun (w1 : World) (h : TRow w1 R B l2 99) => does_w R B l2 99 (acOf x) w1 h hkk)
        have HLS3 := Aside0.mk (HLS.out.does 99 (acOf x))
        unfold acOf at HD HLS3
        generalize doesZ 99 l2 _ = z at HD HLS3
        obtain ⟨l3, tk, tg, tb⟩ := z
        have HLV := Aside0.mk (fun (w1 : World) (h : TRow w1 R B l3 99) => Live_w R B l3 99 w1 h)
        have HXR := Aside0.mk HLS3.out.live.1
        have HXU := Aside0.mk HLS3.out.live.2
        have HX : Aside0 ((liveZ l3).Pairwise (fun a b => a.ks < b.ks)) := ⟨liveFrom_pair l3 0⟩
        simp only at HXR HXU HX
        clear hm hlt
        go_wp2_with (first
          | (go_at_call 10; (with_reducible refine (HD.out _ HT.out).mono ?_); rintro e w3 ⟨rfl, hT3, hG3⟩; have HT3 := Aside0.mk hT3; have HG3 := Aside0.mk (only_trans HW.out hG3); clear hT3 hG3)
          | (go_at_call 12; (with_reducible refine (HLV.out _ HT3.out).mono ?_); rintro e w5 ⟨v, rfl, hR5, hb5⟩; have HT5 := Aside0.mk (HT3.out.below hb5); have HW5 := Aside0.mk (only_trans HG3.out (only_of_below hb5 _)); obtain ⟨A5, c5, e5⟩ := Kd.R_slice hR5; subst e5; have HR5 := Aside0.mk (Kd.R_mono hR5 (ok' := fun _ => True) (fun _ _ => trivial)); clear hR5 hb5))
        have hlm : ((liveZ l3).map s39).length = (liveZ l3).length := List.length_map _
        try rw [hlm] at HR5
        have hxn : (liveZ l3).length ≤ l3.length := by rw [show (liveZ l3).length = lives l3 from liveFrom_len l3 0]; exact lives_len l3
        have hnn := HT5.out.n
        have hx64 : (liveZ l3).length ≤ 64 := by omega
        clear hxn hnn hlm hx0 hx1 hx2 hx3 hx4 hx5 hx6 hx7
        generalize liveZ l3 = xs at *
        go_loopw [41] (fun ii wr => ∃ (q : Nat), ii = .int .i64 q ∧ q ≤ xs.length ∧ Aside0 (Below w5.heap.size w5 wr)) (fun ii _ => xs.length - (intOf ii).toNat)
        case atStart => exact ⟨0, rfl, Nat.zero_le _, ⟨Below.refl _ _⟩⟩
        case round =>
          obtain ⟨q, rfl, hqq, HB6⟩ := hrel
          by_cases hql : q < xs.length
          · skip
            have hRk := keep_row2 HR5.out HT5.out.b (by decide) (only_of_below HB6.out B)
            have hC := (Kd.R_reads' hRk).2.2
            rw [List.length_map] at hC
            obtain ⟨ad, eA, hx0, hx1, hx2, hx3, hx4, hx5, hx6⟩ := lv_cells rfl hC q hql
            have hrr := HXR.out _ (List.getElem_mem hql)
            have hup := HXU.out _ (List.getElem_mem hql)
            cases eA
            generalize hxe : xs[q] = x at hx0 hx1 hx2 hx3 hx4 hx5 hx6 hrr hup
            obtain ⟨ks, kg, ⟨ob, ri, ow, us, ug⟩⟩ := x
            simp only at hx0 hx1 hx2 hx3 hx4 hx5 hx6 hrr hup
            have cr1 : decide (ri < 1) = false := decide_eq_false (by omega)
            have cr2 : decide (15 < ri) = false := decide_eq_false (by omega)
            have HUP := Aside0.mk hup
            have HXE := Aside0.mk hxe
            have HRK := Aside0.mk hRk
            clear hRk hup hxe hrr
            by_cases hq0 : 0 < q
            · have cq : decide (0 < q) = true := decide_eq_true (by omega)
              obtain ⟨p, hp, hp2⟩ : ∃ p, p + 1 ≤ q ∧ q - 1 ≤ p := ⟨q - 1, by omega, by omega⟩
              obtain ⟨ad2, eA2, hy0, -, -, -, -, -, -⟩ := lv_cells rfl hC p (by omega)
              cases eA2
              have hpw := List.pairwise_iff_getElem.1 HX.out p q (by omega) hql (by omega)
              rw [HXE.out] at hpw
              simp only at hpw
              have cpw : decide (ks ≤ xs[p].ks) = false := decide_eq_false (by omega)
              have hsub : IntKind.i64.wrap ((q : Int) - 1) = (p : Int) := by rw [show IntKind.i64.wrap ((q : Int) - 1) = wrap64 ((q : Int) - 1) from by unfold wrap64; exact IntKind.wrap_i64 _, IntWalk.wrap64_in _ ⟨by omega, by omega⟩]; omega
              generalize xs[p].ks = pk at hy0 cpw
              have hya : ∀ o, (wr.alloc o).cell? (ad.add (p * 7)) = some (.int .i64 pk) := fun o => (World.cell?_alloc_some wr _ o (by rw [hy0]; rfl)).trans hy0
              have hpx : p < xs.length := by omega
              clear hpw hC hq0
              go_wp2
              go_quiet (fail)
              by_cases hu : us = 0
              · by_cases hg : ug = 0
                · go_wp2
                  exact ⟨⟨q + 1, by go_num, by omega, ⟨(by repeat (first | (with_reducible first | exact HB6.out | apply pw_below_drewN | apply below_alloc | apply below_drew) | exact HB6.out))⟩⟩, by simp [intOf]; omega⟩
                · subst hu
                  have HANY := Aside0.mk (HUP.out (fun h => hg h.2))
                  go_wp2
                  have hXl0 : wr.heap.size < (wr.alloc (.cells #[.int .i64 ks, .int .i64 kg, .int .i64 ob, .int .i64 ri, .int .i64 ow, .int .i64 0, .int .i64 ug] 39)).heap.size := by simp
                  have HX7 : Aside0 ((wr.alloc (.cells #[.int .i64 ks, .int .i64 kg, .int .i64 ob, .int .i64 ri, .int .i64 ow, .int .i64 0, .int .i64 ug] 39)).heap[wr.heap.size]? = some (.cells #[.int .i64 ks, .int .i64 kg, .int .i64 ob, .int .i64 ri, .int .i64 ow, .int .i64 0, .int .i64 ug] 39 (0, 0))) := ⟨heap_alloc_new _ _⟩
                  have HB7 := Aside0.mk (below_alloc HB6.out (.cells #[.int .i64 ks, .int .i64 kg, .int .i64 ob, .int .i64 ri, .int .i64 ow, .int .i64 0, .int .i64 ug] 39))
                  go_loopw [10, 80] (fun oo ii w8 => ∃ (q2 : Nat), ii = .int .i64 q2 ∧ q2 ≤ xs.length ∧ oo = .bool ((xs.take q2).any (okB ⟨ks, kg, ⟨ob, ri, ow, 0, ug⟩⟩)) ∧ Aside0 (Below w5.heap.size w5 w8) ∧ Aside0 (w8.heap[wr.heap.size]? = some (.cells #[.int .i64 ks, .int .i64 kg, .int .i64 ob, .int .i64 ri, .int .i64 ow, .int .i64 0, .int .i64 ug] 39 (0, 0)))) (fun _ ii _ => xs.length - (intOf ii).toNat)
                  case atStart => exact ⟨0, rfl, Nat.zero_le _, rfl, ⟨(by repeat (first | (with_reducible first | exact HB6.out | apply pw_below_drewN | apply below_alloc | apply below_drew) | exact HB6.out))⟩, ⟨by have h := HX7.out; exact h⟩⟩
                  case round =>
                    obtain ⟨q2, rfl, hq2, rfl, HB8, HX8⟩ := hrel
                    by_cases hq2l : q2 < xs.length
                    · have hRk8 := keep_row2 HR5.out HT5.out.b (by decide) (only_of_below HB8.out B)
                      have hC8 := (Kd.R_reads' hRk8).2.2
                      rw [List.length_map] at hC8
                      obtain ⟨ad3, eA3, hz0, hz1, hz2, hz3, hz4, hz5, hz6⟩ := lv_cells rfl hC8 q2 hq2l
                      cases eA3
                      have hXl := (Array.getElem?_eq_some_iff.1 HX8.out).1
                      obtain ⟨xz0, xz1, xz2, xz3, xz4, xz5, xz6⟩ := lv_lay HX8.out
                      clear hRk8 hC8
                      generalize hye : xs[q2] = y at hz0 hz1 hz2 hz3 hz4 hz5 hz6
                      have HYE := Aside0.mk hye
                      clear hye
                      obtain ⟨ys, yg, ⟨yo, yr, yw, yus, yug⟩⟩ := y
                      simp only at hz0 hz1 hz2 hz3 hz4 hz5 hz6
                      cases hbb : (xs.take q2).any (okB ⟨ks, kg, ⟨ob, ri, ow, 0, ug⟩⟩)
                      · by_cases e1 : ys = 0
                        · by_cases e2 : yg = ug
                          · by_cases e3 : yo = ob
                            · by_cases e4 : Go.bits .andNot .i64 ri yr = 0
                              · by_cases e5 : Go.bits .and .i64 yr 8 = 0
                                · go_wp2
                                  exact ⟨⟨q2 + 1, by go_num, by omega, by rw [any_take3 xs _ q2 hq2l, HYE.out, hbb, Bool.false_or]; rw [okB_yes0 ⟨ks, kg, ⟨ob, ri, ow, 0, ug⟩⟩ ⟨ys, yg, ⟨yo, yr, yw, yus, yug⟩⟩ ⟨e1, e2, e3, e4⟩ e5], ⟨below_alloc HB8.out _⟩, ⟨by rw [Below.heap_alloc _ _ _ hXl]; exact HX8.out⟩⟩, by simp [intOf]; omega⟩
                                · go_wp2
                                  exact ⟨⟨q2 + 1, by go_num, by omega, by rw [any_take3 xs _ q2 hq2l, HYE.out, hbb, Bool.false_or]; rw [okB_yes ⟨ks, kg, ⟨ob, ri, ow, 0, ug⟩⟩ ⟨ys, yg, ⟨yo, yr, yw, yus, yug⟩⟩ ⟨e1, e2, e3, e4⟩], ⟨below_alloc HB8.out _⟩, ⟨by rw [Below.heap_alloc _ _ _ hXl]; exact HX8.out⟩⟩, by simp [intOf]; omega⟩
                              · go_wp2
                                exact ⟨⟨q2 + 1, by go_num, by omega, by rw [any_take3 xs _ q2 hq2l, HYE.out, hbb, Bool.false_or]; rw [okB_no ⟨ks, kg, ⟨ob, ri, ow, 0, ug⟩⟩ ⟨ys, yg, ⟨yo, yr, yw, yus, yug⟩⟩ (fun h => e4 h.2.2.2)], ⟨below_alloc HB8.out _⟩, ⟨by rw [Below.heap_alloc _ _ _ hXl]; exact HX8.out⟩⟩, by simp [intOf]; omega⟩
                            · go_wp2
                              exact ⟨⟨q2 + 1, by go_num, by omega, by rw [any_take3 xs _ q2 hq2l, HYE.out, hbb, Bool.false_or]; rw [okB_no ⟨ks, kg, ⟨ob, ri, ow, 0, ug⟩⟩ ⟨ys, yg, ⟨yo, yr, yw, yus, yug⟩⟩ (fun h => e3 h.2.2.1)], ⟨below_alloc HB8.out _⟩, ⟨by rw [Below.heap_alloc _ _ _ hXl]; exact HX8.out⟩⟩, by simp [intOf]; omega⟩
                          · go_wp2
                            exact ⟨⟨q2 + 1, by go_num, by omega, by rw [any_take3 xs _ q2 hq2l, HYE.out, hbb, Bool.false_or]; rw [okB_no ⟨ks, kg, ⟨ob, ri, ow, 0, ug⟩⟩ ⟨ys, yg, ⟨yo, yr, yw, yus, yug⟩⟩ (fun h => e2 h.2.1)], ⟨below_alloc HB8.out _⟩, ⟨by rw [Below.heap_alloc _ _ _ hXl]; exact HX8.out⟩⟩, by simp [intOf]; omega⟩
                        · go_wp2
                          exact ⟨⟨q2 + 1, by go_num, by omega, by rw [any_take3 xs _ q2 hq2l, HYE.out, hbb, Bool.false_or]; rw [okB_no ⟨ks, kg, ⟨ob, ri, ow, 0, ug⟩⟩ ⟨ys, yg, ⟨yo, yr, yw, yus, yug⟩⟩ (fun h => e1 h.1)], ⟨below_alloc HB8.out _⟩, ⟨by rw [Below.heap_alloc _ _ _ hXl]; exact HX8.out⟩⟩, by simp [intOf]; omega⟩
                      · go_wp2
                        exact ⟨⟨q2 + 1, by go_num, by omega, by rw [any_take3 xs _ q2 hq2l, hbb, Bool.true_or], ⟨below_alloc HB8.out _⟩, ⟨by rw [Below.heap_alloc _ _ _ hXl]; exact HX8.out⟩⟩, by simp [intOf]; omega⟩
                    · have hall : (xs.take q2).any (okB ⟨ks, kg, ⟨ob, ri, ow, 0, ug⟩⟩) = true := by
                        rw [List.take_of_length_le (by omega)]
                        exact HANY.out
                      rw [hall]
                      have hgq : xs.length ≤ q2 := by omega
                      go_wp2
                      exact ⟨⟨q + 1, by go_num, by omega, HB8⟩, by simp [intOf]; omega⟩
              · have HANY := Aside0.mk (HUP.out (fun h => hu h.1))
                go_wp2
                have hXl0 : wr.heap.size < (wr.alloc (.cells #[.int .i64 ks, .int .i64 kg, .int .i64 ob, .int .i64 ri, .int .i64 ow, .int .i64 us, .int .i64 ug] 39)).heap.size := by simp
                have HX7 : Aside0 ((wr.alloc (.cells #[.int .i64 ks, .int .i64 kg, .int .i64 ob, .int .i64 ri, .int .i64 ow, .int .i64 us, .int .i64 ug] 39)).heap[wr.heap.size]? = some (.cells #[.int .i64 ks, .int .i64 kg, .int .i64 ob, .int .i64 ri, .int .i64 ow, .int .i64 us, .int .i64 ug] 39 (0, 0))) := ⟨heap_alloc_new _ _⟩
                have HB7 := Aside0.mk (below_alloc HB6.out (.cells #[.int .i64 ks, .int .i64 kg, .int .i64 ob, .int .i64 ri, .int .i64 ow, .int .i64 us, .int .i64 ug] 39))
                go_loopw [10, 80] (fun oo ii w8 => ∃ (q2 : Nat), ii = .int .i64 q2 ∧ q2 ≤ xs.length ∧ oo = .bool ((xs.take q2).any (okB ⟨ks, kg, ⟨ob, ri, ow, us, ug⟩⟩)) ∧ Aside0 (Below w5.heap.size w5 w8) ∧ Aside0 (w8.heap[wr.heap.size]? = some (.cells #[.int .i64 ks, .int .i64 kg, .int .i64 ob, .int .i64 ri, .int .i64 ow, .int .i64 us, .int .i64 ug] 39 (0, 0)))) (fun _ ii _ => xs.length - (intOf ii).toNat)
                case atStart => exact ⟨0, rfl, Nat.zero_le _, rfl, ⟨(by repeat (first | (with_reducible first | exact HB6.out | apply pw_below_drewN | apply below_alloc | apply below_drew) | exact HB6.out))⟩, ⟨by have h := HX7.out; exact h⟩⟩
                case round =>
                  obtain ⟨q2, rfl, hq2, rfl, HB8, HX8⟩ := hrel
                  by_cases hq2l : q2 < xs.length
                  · have hRk8 := keep_row2 HR5.out HT5.out.b (by decide) (only_of_below HB8.out B)
                    have hC8 := (Kd.R_reads' hRk8).2.2
                    rw [List.length_map] at hC8
                    obtain ⟨ad3, eA3, hz0, hz1, hz2, hz3, hz4, hz5, hz6⟩ := lv_cells rfl hC8 q2 hq2l
                    cases eA3
                    have hXl := (Array.getElem?_eq_some_iff.1 HX8.out).1
                    obtain ⟨xz0, xz1, xz2, xz3, xz4, xz5, xz6⟩ := lv_lay HX8.out
                    clear hRk8 hC8
                    generalize hye : xs[q2] = y at hz0 hz1 hz2 hz3 hz4 hz5 hz6
                    have HYE := Aside0.mk hye
                    clear hye
                    obtain ⟨ys, yg, ⟨yo, yr, yw, yus, yug⟩⟩ := y
                    simp only at hz0 hz1 hz2 hz3 hz4 hz5 hz6
                    cases hbb : (xs.take q2).any (okB ⟨ks, kg, ⟨ob, ri, ow, us, ug⟩⟩)
                    · by_cases e1 : ys = us
                      · by_cases e2 : yg = ug
                        · by_cases e3 : yo = ob
                          · by_cases e4 : Go.bits .andNot .i64 ri yr = 0
                            · by_cases e5 : Go.bits .and .i64 yr 8 = 0
                              · go_wp2
                                exact ⟨⟨q2 + 1, by go_num, by omega, by rw [any_take3 xs _ q2 hq2l, HYE.out, hbb, Bool.false_or]; rw [okB_yes0 ⟨ks, kg, ⟨ob, ri, ow, us, ug⟩⟩ ⟨ys, yg, ⟨yo, yr, yw, yus, yug⟩⟩ ⟨e1, e2, e3, e4⟩ e5], ⟨below_alloc HB8.out _⟩, ⟨by rw [Below.heap_alloc _ _ _ hXl]; exact HX8.out⟩⟩, by simp [intOf]; omega⟩
                              · go_wp2
                                exact ⟨⟨q2 + 1, by go_num, by omega, by rw [any_take3 xs _ q2 hq2l, HYE.out, hbb, Bool.false_or]; rw [okB_yes ⟨ks, kg, ⟨ob, ri, ow, us, ug⟩⟩ ⟨ys, yg, ⟨yo, yr, yw, yus, yug⟩⟩ ⟨e1, e2, e3, e4⟩], ⟨below_alloc HB8.out _⟩, ⟨by rw [Below.heap_alloc _ _ _ hXl]; exact HX8.out⟩⟩, by simp [intOf]; omega⟩
                            · go_wp2
                              exact ⟨⟨q2 + 1, by go_num, by omega, by rw [any_take3 xs _ q2 hq2l, HYE.out, hbb, Bool.false_or]; rw [okB_no ⟨ks, kg, ⟨ob, ri, ow, us, ug⟩⟩ ⟨ys, yg, ⟨yo, yr, yw, yus, yug⟩⟩ (fun h => e4 h.2.2.2)], ⟨below_alloc HB8.out _⟩, ⟨by rw [Below.heap_alloc _ _ _ hXl]; exact HX8.out⟩⟩, by simp [intOf]; omega⟩
                          · go_wp2
                            exact ⟨⟨q2 + 1, by go_num, by omega, by rw [any_take3 xs _ q2 hq2l, HYE.out, hbb, Bool.false_or]; rw [okB_no ⟨ks, kg, ⟨ob, ri, ow, us, ug⟩⟩ ⟨ys, yg, ⟨yo, yr, yw, yus, yug⟩⟩ (fun h => e3 h.2.2.1)], ⟨below_alloc HB8.out _⟩, ⟨by rw [Below.heap_alloc _ _ _ hXl]; exact HX8.out⟩⟩, by simp [intOf]; omega⟩
                        · go_wp2
                          exact ⟨⟨q2 + 1, by go_num, by omega, by rw [any_take3 xs _ q2 hq2l, HYE.out, hbb, Bool.false_or]; rw [okB_no ⟨ks, kg, ⟨ob, ri, ow, us, ug⟩⟩ ⟨ys, yg, ⟨yo, yr, yw, yus, yug⟩⟩ (fun h => e2 h.2.1)], ⟨below_alloc HB8.out _⟩, ⟨by rw [Below.heap_alloc _ _ _ hXl]; exact HX8.out⟩⟩, by simp [intOf]; omega⟩
                      · go_wp2
                        exact ⟨⟨q2 + 1, by go_num, by omega, by rw [any_take3 xs _ q2 hq2l, HYE.out, hbb, Bool.false_or]; rw [okB_no ⟨ks, kg, ⟨ob, ri, ow, us, ug⟩⟩ ⟨ys, yg, ⟨yo, yr, yw, yus, yug⟩⟩ (fun h => e1 h.1)], ⟨below_alloc HB8.out _⟩, ⟨by rw [Below.heap_alloc _ _ _ hXl]; exact HX8.out⟩⟩, by simp [intOf]; omega⟩
                    · go_wp2
                      exact ⟨⟨q2 + 1, by go_num, by omega, by rw [any_take3 xs _ q2 hq2l, hbb, Bool.true_or], ⟨below_alloc HB8.out _⟩, ⟨by rw [Below.heap_alloc _ _ _ hXl]; exact HX8.out⟩⟩, by simp [intOf]; omega⟩
                  · have hall : (xs.take q2).any (okB ⟨ks, kg, ⟨ob, ri, ow, us, ug⟩⟩) = true := by
                      rw [List.take_of_length_le (by omega)]
                      exact HANY.out
                    rw [hall]
                    have hgq : xs.length ≤ q2 := by omega
                    go_wp2
                    exact ⟨⟨q + 1, by go_num, by omega, HB8⟩, by simp [intOf]; omega⟩
            · have cq : decide (0 < q) = false := decide_eq_false (by omega)
              clear hC hq0
              go_wp2
              go_quiet (fail)
              by_cases hu : us = 0
              · by_cases hg : ug = 0
                · go_wp2
                  exact ⟨⟨q + 1, by go_num, by omega, ⟨(by repeat (first | (with_reducible first | exact HB6.out | apply pw_below_drewN | apply below_alloc | apply below_drew) | exact HB6.out))⟩⟩, by simp [intOf]; omega⟩
                · subst hu
                  have HANY := Aside0.mk (HUP.out (fun h => hg h.2))
                  go_wp2
                  have hXl0 : wr.heap.size < (wr.alloc (.cells #[.int .i64 ks, .int .i64 kg, .int .i64 ob, .int .i64 ri, .int .i64 ow, .int .i64 0, .int .i64 ug] 39)).heap.size := by simp
                  have HX7 : Aside0 ((wr.alloc (.cells #[.int .i64 ks, .int .i64 kg, .int .i64 ob, .int .i64 ri, .int .i64 ow, .int .i64 0, .int .i64 ug] 39)).heap[wr.heap.size]? = some (.cells #[.int .i64 ks, .int .i64 kg, .int .i64 ob, .int .i64 ri, .int .i64 ow, .int .i64 0, .int .i64 ug] 39 (0, 0))) := ⟨heap_alloc_new _ _⟩
                  have HB7 := Aside0.mk (below_alloc HB6.out (.cells #[.int .i64 ks, .int .i64 kg, .int .i64 ob, .int .i64 ri, .int .i64 ow, .int .i64 0, .int .i64 ug] 39))
                  go_loopw [10, 80] (fun oo ii w8 => ∃ (q2 : Nat), ii = .int .i64 q2 ∧ q2 ≤ xs.length ∧ oo = .bool ((xs.take q2).any (okB ⟨ks, kg, ⟨ob, ri, ow, 0, ug⟩⟩)) ∧ Aside0 (Below w5.heap.size w5 w8) ∧ Aside0 (w8.heap[wr.heap.size]? = some (.cells #[.int .i64 ks, .int .i64 kg, .int .i64 ob, .int .i64 ri, .int .i64 ow, .int .i64 0, .int .i64 ug] 39 (0, 0)))) (fun _ ii _ => xs.length - (intOf ii).toNat)
                  case atStart => exact ⟨0, rfl, Nat.zero_le _, rfl, ⟨(by repeat (first | (with_reducible first | exact HB6.out | apply pw_below_drewN | apply below_alloc | apply below_drew) | exact HB6.out))⟩, ⟨by have h := HX7.out; exact h⟩⟩
                  case round =>
                    obtain ⟨q2, rfl, hq2, rfl, HB8, HX8⟩ := hrel
                    by_cases hq2l : q2 < xs.length
                    · have hRk8 := keep_row2 HR5.out HT5.out.b (by decide) (only_of_below HB8.out B)
                      have hC8 := (Kd.R_reads' hRk8).2.2
                      rw [List.length_map] at hC8
                      obtain ⟨ad3, eA3, hz0, hz1, hz2, hz3, hz4, hz5, hz6⟩ := lv_cells rfl hC8 q2 hq2l
                      cases eA3
                      have hXl := (Array.getElem?_eq_some_iff.1 HX8.out).1
                      obtain ⟨xz0, xz1, xz2, xz3, xz4, xz5, xz6⟩ := lv_lay HX8.out
                      clear hRk8 hC8
                      generalize hye : xs[q2] = y at hz0 hz1 hz2 hz3 hz4 hz5 hz6
                      have HYE := Aside0.mk hye
                      clear hye
                      obtain ⟨ys, yg, ⟨yo, yr, yw, yus, yug⟩⟩ := y
                      simp only at hz0 hz1 hz2 hz3 hz4 hz5 hz6
                      cases hbb : (xs.take q2).any (okB ⟨ks, kg, ⟨ob, ri, ow, 0, ug⟩⟩)
                      · by_cases e1 : ys = 0
                        · by_cases e2 : yg = ug
                          · by_cases e3 : yo = ob
                            · by_cases e4 : Go.bits .andNot .i64 ri yr = 0
                              · by_cases e5 : Go.bits .and .i64 yr 8 = 0
                                · go_wp2
                                  exact ⟨⟨q2 + 1, by go_num, by omega, by rw [any_take3 xs _ q2 hq2l, HYE.out, hbb, Bool.false_or]; rw [okB_yes0 ⟨ks, kg, ⟨ob, ri, ow, 0, ug⟩⟩ ⟨ys, yg, ⟨yo, yr, yw, yus, yug⟩⟩ ⟨e1, e2, e3, e4⟩ e5], ⟨below_alloc HB8.out _⟩, ⟨by rw [Below.heap_alloc _ _ _ hXl]; exact HX8.out⟩⟩, by simp [intOf]; omega⟩
                                · go_wp2
                                  exact ⟨⟨q2 + 1, by go_num, by omega, by rw [any_take3 xs _ q2 hq2l, HYE.out, hbb, Bool.false_or]; rw [okB_yes ⟨ks, kg, ⟨ob, ri, ow, 0, ug⟩⟩ ⟨ys, yg, ⟨yo, yr, yw, yus, yug⟩⟩ ⟨e1, e2, e3, e4⟩], ⟨below_alloc HB8.out _⟩, ⟨by rw [Below.heap_alloc _ _ _ hXl]; exact HX8.out⟩⟩, by simp [intOf]; omega⟩
                              · go_wp2
                                exact ⟨⟨q2 + 1, by go_num, by omega, by rw [any_take3 xs _ q2 hq2l, HYE.out, hbb, Bool.false_or]; rw [okB_no ⟨ks, kg, ⟨ob, ri, ow, 0, ug⟩⟩ ⟨ys, yg, ⟨yo, yr, yw, yus, yug⟩⟩ (fun h => e4 h.2.2.2)], ⟨below_alloc HB8.out _⟩, ⟨by rw [Below.heap_alloc _ _ _ hXl]; exact HX8.out⟩⟩, by simp [intOf]; omega⟩
                            · go_wp2
                              exact ⟨⟨q2 + 1, by go_num, by omega, by rw [any_take3 xs _ q2 hq2l, HYE.out, hbb, Bool.false_or]; rw [okB_no ⟨ks, kg, ⟨ob, ri, ow, 0, ug⟩⟩ ⟨ys, yg, ⟨yo, yr, yw, yus, yug⟩⟩ (fun h => e3 h.2.2.1)], ⟨below_alloc HB8.out _⟩, ⟨by rw [Below.heap_alloc _ _ _ hXl]; exact HX8.out⟩⟩, by simp [intOf]; omega⟩
                          · go_wp2
                            exact ⟨⟨q2 + 1, by go_num, by omega, by rw [any_take3 xs _ q2 hq2l, HYE.out, hbb, Bool.false_or]; rw [okB_no ⟨ks, kg, ⟨ob, ri, ow, 0, ug⟩⟩ ⟨ys, yg, ⟨yo, yr, yw, yus, yug⟩⟩ (fun h => e2 h.2.1)], ⟨below_alloc HB8.out _⟩, ⟨by rw [Below.heap_alloc _ _ _ hXl]; exact HX8.out⟩⟩, by simp [intOf]; omega⟩
                        · go_wp2
                          exact ⟨⟨q2 + 1, by go_num, by omega, by rw [any_take3 xs _ q2 hq2l, HYE.out, hbb, Bool.false_or]; rw [okB_no ⟨ks, kg, ⟨ob, ri, ow, 0, ug⟩⟩ ⟨ys, yg, ⟨yo, yr, yw, yus, yug⟩⟩ (fun h => e1 h.1)], ⟨below_alloc HB8.out _⟩, ⟨by rw [Below.heap_alloc _ _ _ hXl]; exact HX8.out⟩⟩, by simp [intOf]; omega⟩
                      · go_wp2
                        exact ⟨⟨q2 + 1, by go_num, by omega, by rw [any_take3 xs _ q2 hq2l, hbb, Bool.true_or], ⟨below_alloc HB8.out _⟩, ⟨by rw [Below.heap_alloc _ _ _ hXl]; exact HX8.out⟩⟩, by simp [intOf]; omega⟩
                    · have hall : (xs.take q2).any (okB ⟨ks, kg, ⟨ob, ri, ow, 0, ug⟩⟩) = true := by
                        rw [List.take_of_length_le (by omega)]
                        exact HANY.out
                      rw [hall]
                      have hgq : xs.length ≤ q2 := by omega
                      go_wp2
                      exact ⟨⟨q + 1, by go_num, by omega, HB8⟩, by simp [intOf]; omega⟩
              · have HANY := Aside0.mk (HUP.out (fun h => hu h.1))
                go_wp2
                have hXl0 : wr.heap.size < (wr.alloc (.cells #[.int .i64 ks, .int .i64 kg, .int .i64 ob, .int .i64 ri, .int .i64 ow, .int .i64 us, .int .i64 ug] 39)).heap.size := by simp
                have HX7 : Aside0 ((wr.alloc (.cells #[.int .i64 ks, .int .i64 kg, .int .i64 ob, .int .i64 ri, .int .i64 ow, .int .i64 us, .int .i64 ug] 39)).heap[wr.heap.size]? = some (.cells #[.int .i64 ks, .int .i64 kg, .int .i64 ob, .int .i64 ri, .int .i64 ow, .int .i64 us, .int .i64 ug] 39 (0, 0))) := ⟨heap_alloc_new _ _⟩
                have HB7 := Aside0.mk (below_alloc HB6.out (.cells #[.int .i64 ks, .int .i64 kg, .int .i64 ob, .int .i64 ri, .int .i64 ow, .int .i64 us, .int .i64 ug] 39))
                go_loopw [10, 80] (fun oo ii w8 => ∃ (q2 : Nat), ii = .int .i64 q2 ∧ q2 ≤ xs.length ∧ oo = .bool ((xs.take q2).any (okB ⟨ks, kg, ⟨ob, ri, ow, us, ug⟩⟩)) ∧ Aside0 (Below w5.heap.size w5 w8) ∧ Aside0 (w8.heap[wr.heap.size]? = some (.cells #[.int .i64 ks, .int .i64 kg, .int .i64 ob, .int .i64 ri, .int .i64 ow, .int .i64 us, .int .i64 ug] 39 (0, 0)))) (fun _ ii _ => xs.length - (intOf ii).toNat)
                case atStart => exact ⟨0, rfl, Nat.zero_le _, rfl, ⟨(by repeat (first | (with_reducible first | exact HB6.out | apply pw_below_drewN | apply below_alloc | apply below_drew) | exact HB6.out))⟩, ⟨by have h := HX7.out; exact h⟩⟩
                case round =>
                  obtain ⟨q2, rfl, hq2, rfl, HB8, HX8⟩ := hrel
                  by_cases hq2l : q2 < xs.length
                  · have hRk8 := keep_row2 HR5.out HT5.out.b (by decide) (only_of_below HB8.out B)
                    have hC8 := (Kd.R_reads' hRk8).2.2
                    rw [List.length_map] at hC8
                    obtain ⟨ad3, eA3, hz0, hz1, hz2, hz3, hz4, hz5, hz6⟩ := lv_cells rfl hC8 q2 hq2l
                    cases eA3
                    have hXl := (Array.getElem?_eq_some_iff.1 HX8.out).1
                    obtain ⟨xz0, xz1, xz2, xz3, xz4, xz5, xz6⟩ := lv_lay HX8.out
                    clear hRk8 hC8
                    generalize hye : xs[q2] = y at hz0 hz1 hz2 hz3 hz4 hz5 hz6
                    have HYE := Aside0.mk hye
                    clear hye
                    obtain ⟨ys, yg, ⟨yo, yr, yw, yus, yug⟩⟩ := y
                    simp only at hz0 hz1 hz2 hz3 hz4 hz5 hz6
                    cases hbb : (xs.take q2).any (okB ⟨ks, kg, ⟨ob, ri, ow, us, ug⟩⟩)
                    · by_cases e1 : ys = us
                      · by_cases e2 : yg = ug
                        · by_cases e3 : yo = ob
                          · by_cases e4 : Go.bits .andNot .i64 ri yr = 0
                            · by_cases e5 : Go.bits .and .i64 yr 8 = 0
                              · go_wp2
                                exact ⟨⟨q2 + 1, by go_num, by omega, by rw [any_take3 xs _ q2 hq2l, HYE.out, hbb, Bool.false_or]; rw [okB_yes0 ⟨ks, kg, ⟨ob, ri, ow, us, ug⟩⟩ ⟨ys, yg, ⟨yo, yr, yw, yus, yug⟩⟩ ⟨e1, e2, e3, e4⟩ e5], ⟨below_alloc HB8.out _⟩, ⟨by rw [Below.heap_alloc _ _ _ hXl]; exact HX8.out⟩⟩, by simp [intOf]; omega⟩
                              · go_wp2
                                exact ⟨⟨q2 + 1, by go_num, by omega, by rw [any_take3 xs _ q2 hq2l, HYE.out, hbb, Bool.false_or]; rw [okB_yes ⟨ks, kg, ⟨ob, ri, ow, us, ug⟩⟩ ⟨ys, yg, ⟨yo, yr, yw, yus, yug⟩⟩ ⟨e1, e2, e3, e4⟩], ⟨below_alloc HB8.out _⟩, ⟨by rw [Below.heap_alloc _ _ _ hXl]; exact HX8.out⟩⟩, by simp [intOf]; omega⟩
                            · go_wp2
                              exact ⟨⟨q2 + 1, by go_num, by omega, by rw [any_take3 xs _ q2 hq2l, HYE.out, hbb, Bool.false_or]; rw [okB_no ⟨ks, kg, ⟨ob, ri, ow, us, ug⟩⟩ ⟨ys, yg, ⟨yo, yr, yw, yus, yug⟩⟩ (fun h => e4 h.2.2.2)], ⟨below_alloc HB8.out _⟩, ⟨by rw [Below.heap_alloc _ _ _ hXl]; exact HX8.out⟩⟩, by simp [intOf]; omega⟩
                          · go_wp2
                            exact ⟨⟨q2 + 1, by go_num, by omega, by rw [any_take3 xs _ q2 hq2l, HYE.out, hbb, Bool.false_or]; rw [okB_no ⟨ks, kg, ⟨ob, ri, ow, us, ug⟩⟩ ⟨ys, yg, ⟨yo, yr, yw, yus, yug⟩⟩ (fun h => e3 h.2.2.1)], ⟨below_alloc HB8.out _⟩, ⟨by rw [Below.heap_alloc _ _ _ hXl]; exact HX8.out⟩⟩, by simp [intOf]; omega⟩
                        · go_wp2
                          exact ⟨⟨q2 + 1, by go_num, by omega, by rw [any_take3 xs _ q2 hq2l, HYE.out, hbb, Bool.false_or]; rw [okB_no ⟨ks, kg, ⟨ob, ri, ow, us, ug⟩⟩ ⟨ys, yg, ⟨yo, yr, yw, yus, yug⟩⟩ (fun h => e2 h.2.1)], ⟨below_alloc HB8.out _⟩, ⟨by rw [Below.heap_alloc _ _ _ hXl]; exact HX8.out⟩⟩, by simp [intOf]; omega⟩
                      · go_wp2
                        exact ⟨⟨q2 + 1, by go_num, by omega, by rw [any_take3 xs _ q2 hq2l, HYE.out, hbb, Bool.false_or]; rw [okB_no ⟨ks, kg, ⟨ob, ri, ow, us, ug⟩⟩ ⟨ys, yg, ⟨yo, yr, yw, yus, yug⟩⟩ (fun h => e1 h.1)], ⟨below_alloc HB8.out _⟩, ⟨by rw [Below.heap_alloc _ _ _ hXl]; exact HX8.out⟩⟩, by simp [intOf]; omega⟩
                    · go_wp2
                      exact ⟨⟨q2 + 1, by go_num, by omega, by rw [any_take3 xs _ q2 hq2l, hbb, Bool.true_or], ⟨below_alloc HB8.out _⟩, ⟨by rw [Below.heap_alloc _ _ _ hXl]; exact HX8.out⟩⟩, by simp [intOf]; omega⟩
                  · have hall : (xs.take q2).any (okB ⟨ks, kg, ⟨ob, ri, ow, us, ug⟩⟩) = true := by
                      rw [List.take_of_length_le (by omega)]
                      exact HANY.out
                    rw [hall]
                    have hgq : xs.length ≤ q2 := by omega
                    go_wp2
                    exact ⟨⟨q + 1, by go_num, by omega, HB8⟩, by simp [intOf]; omega⟩
          · have hqg : xs.length ≤ q := by omega
            go_wp2
            exact ⟨⟨k + 1, l3, by go_num, by omega, HLS3, ⟨HT5.out.below HB6.out⟩, ⟨only_trans HW5.out (only_of_below HB6.out _)⟩⟩, by simp [intOf]; omega⟩
      · have hkg : 60 ≤ k := by omega
        go_wp2
        go_ret
        exact ⟨rfl, below_of_only HW.out hwB.out⟩
    · have hkg : l1.length ≤ k := by omega
      go_wp2
      go_ret
      exact ⟨rfl, below_of_only HW.out hwB.out⟩
/-! The contract of CapsLess, in the print's form. -/
def bureaulaw17_CapsLess.f (a0 : Int) (l1 : List S32) : Option Bool := if (Lit.int .i64 a0).wf = true ∧ l1.length ≤ maxLen ∧ l1.all (fun x => decide (0 ≤ x.f0 ∧ x.f0 ≤ 255)) = true then some true else none
theorem bureaulaw17_CapsLess.calls (a0 : Int) (A1 : Option Addr) (c1 : Nat) (l1 : List S32) (r : Bool) (w : World) (hr1 : Kd.C k32 w A1 l1.length l1) (hc1 : l1.length ≤ c1) (h : bureaulaw17_CapsLess.f a0 l1 = some r) :
    Calls Try.prog 4 #[.int .i64 a0, .slice A1 l1.length c1] w fun e w' => e = .returned (.bool r) ∧ Below w.heap.size w w' := by
  unfold bureaulaw17_CapsLess.f at h
  split at h
  · rename_i hc
    cases h
    exact Less_w a0 A1 c1 l1 w hr1 hc1 hc.2.1 (fun x hx => of_decide_eq_true (List.all_eq_true.1 hc.2.2 x hx)) hc.1
  · cases h

end Go.Proofs.Ytecbdhampjmlaaa.Ext
