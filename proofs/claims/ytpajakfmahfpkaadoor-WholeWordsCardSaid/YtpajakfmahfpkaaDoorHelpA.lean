/- Printed walks, cut out of a printed set. -/
import Derived.Test.YtpajakfmahfpkaaDoorProg
import Derived.Below
import Derived.Deep.Draws
import Derived.Deep.AppendLies
import Derived.Maps.AppendAt
import Derived.OwnWalk
import Derived.Laws.BytesArg
import Derived.Laws.MakeOwn
import Derived.Laws.OwnMore
import Derived.Deep.OwnRows
import Derived.Tactics
import Derived.Lib.ConvBytes
import Derived.Laws.Slices
import Derived.WalkKit
import Derived.KernelRfl
import Derived.RowKit3
import Derived.Deep.LoopGhost
import Derived.Deep.QuietTactic
import Derived.BigQuiet
import Derived.WideLaws
import Derived.Deep.DeepCutAuto
import Derived.Deep.CutBlock
import Derived.Deep.RegionHeld3
import Derived.Laws.Rows
import Derived.Lib.AppendStr
import Derived.ArgAppend
import Derived.Laws.IdiomCopy
import Derived.OrdersHeld
import Derived.Laws.BitsLemmas
import Derived.RowKit
import Derived.Test.YtpajakfmahfpkaaDoorExt06C
import Derived.Test.YtpajakfmahfpkaaDoorWWords
import Derived.Test.YtpajakfmahfpkaaDoorWLast
import Derived.Test.YtpajakfmahfpkaaDoorWTab
import Derived.Test.YtpajakfmahfpkaaDoorWFour
import Derived.Test.YtpajakfmahfpkaaDoorWQPut
import Derived.Test.YtpajakfmahfpkaaDoorWApart
import Derived.Test.YtpajakfmahfpkaaDoorWArr
import Derived.Test.YtpajakfmahfpkaaDoorWZeros
import Derived.Test.YtpajakfmahfpkaaDoorWFoot
import Derived.Test.YtpajakfmahfpkaaDoorWKept
import Derived.Test.YtpajakfmahfpkaaDoorWShare
import Derived.Test.YtpajakfmahfpkaaDoorWN
import Derived.Test.YtpajakfmahfpkaaDoorWFootNe
import Derived.Test.YtpajakfmahfpkaaDoorWAt
import Derived.Test.YtpajakfmahfpkaaDoorWEqStruct
import Derived.Test.YtpajakfmahfpkaaDoorWRepsOne
import Derived.Test.YtpajakfmahfpkaaDoorWInv
import Derived.Test.YtpajakfmahfpkaaDoorWInvWords
import Derived.Test.YtpajakfmahfpkaaDoorWGuard
import Derived.Test.YtpajakfmahfpkaaDoorWNEv
import Derived.Test.YtpajakfmahfpkaaDoorWMore
namespace Go.Proofs.YtpajakfmahfpkaaDoor.HelpA
open Go.RowKit Go.Proofs.YtpajakfmahfpkaaDoorW.PrintWords Go.Proofs.YtpajakfmahfpkaaDoorW.PrintLast Go.Proofs.YtpajakfmahfpkaaDoorW.PrintMore Go.Proofs.YtpajakfmahfpkaaDoor.Ext
attribute [local go_sem] max2_int min2_int max_two min_two max_three min_three max_four min_four   -- for this text's walks alone
set_option linter.unusedVariables false
set_option linter.unusedSimpArgs false



def errW : Option Int → Value
  | none => .nilIface
  | some c => .iface 0 (.int .i64 c)
theorem errW_none : errW none = .nilIface := rfl
theorem errW_some (c : Int) : errW (some c) = .iface 0 (.int .i64 c) := rfl

theorem info3 : (Tryd.prog.info? 3).map (fun i => (i.zero, i.size, i.bytes)) = some (some (.int .i64 0), 1, 8) := by kernel_rfl
theorem info5 : (Tryd.prog.info? 5).map (fun i => (i.zero, i.size, i.bytes)) = some (some (.int .u8 0), 1, 1) := by kernel_rfl
theorem info68 : (Tryd.prog.info? 68).map (fun i => (i.zero, i.size, i.bytes)) = some (some (.agg #[(.int .i64 0), (.int .i64 0), (.int .i64 0), (.bool false)]), 4, 32) := by kernel_rfl
-- the values' own types
/-! #### struct type 68 -/
structure S68 where
  f0 : Int
  f1 : Int
  f2 : Int
  f3 : Bool
def z68 : S68 := ⟨(0 : Int), (0 : Int), (0 : Int), false⟩
def k68 : Kd S68 := Kd.iso (Kd.pair (Kd.int .i64) (Kd.pair (Kd.int .i64) (Kd.pair (Kd.int .i64) Kd.bool))) (fun x : S68 => (x.f0, x.f1, x.f2, x.f3))
theorem k68_open {w : World} {x : S68} {cs : List Value} (h : k68.K w x cs) : cs = [.int .i64 x.f0, .int .i64 x.f1, .int .i64 x.f2, .bool x.f3] := by
  obtain ⟨_, _, rfl, rfl, ⟨_, _, rfl, rfl, ⟨_, _, rfl, rfl, rfl⟩⟩⟩ := h
  exact rfl
theorem k68_openM {w : World} {base : Nat} {ok : Nat → Prop} {x : S68} {cs : List Value} (h : k68.M w base ok x cs) : cs = [.int .i64 x.f0, .int .i64 x.f1, .int .i64 x.f2, .bool x.f3] := by
  obtain ⟨_, _, rfl, rfl, ⟨_, _, rfl, rfl, ⟨_, _, rfl, rfl, rfl⟩⟩⟩ := h
  exact rfl
theorem k68_mk (w : World) (x : S68)  : k68.K w x [.int .i64 x.f0, .int .i64 x.f1, .int .i64 x.f2, .bool x.f3] := ⟨[.int .i64 x.f0], [.int .i64 x.f1, .int .i64 x.f2, .bool x.f3], rfl, rfl, ⟨[.int .i64 x.f1], [.int .i64 x.f2, .bool x.f3], rfl, rfl, ⟨[.int .i64 x.f2], [.bool x.f3], rfl, rfl, rfl⟩⟩⟩
theorem k68_mkM (w : World) (base : Nat) (ok : Nat → Prop) (x : S68)  : k68.M w base ok x [.int .i64 x.f0, .int .i64 x.f1, .int .i64 x.f2, .bool x.f3] := ⟨[.int .i64 x.f0], [.int .i64 x.f1, .int .i64 x.f2, .bool x.f3], rfl, rfl, ⟨[.int .i64 x.f1], [.int .i64 x.f2, .bool x.f3], rfl, rfl, ⟨[.int .i64 x.f2], [.bool x.f3], rfl, rfl, rfl⟩⟩⟩
def rd_T68 (xs : List S68) (i : Int) : S68 := xs.getD i.toNat z68
theorem at_T68 {w : World} {A : Option Addr} {n : Nat} {xs : List S68} (h : Kd.C k68 w A n xs) (i : Int) (h0 : 0 ≤ i) (h1 : i < n) : ∃ ad , A = some ad ∧ w.cell? (ad.add (i.toNat * 4)) = some (.int .i64 (rd_T68 xs i).f0) ∧ w.cell? ⟨(ad.add (i.toNat * 4)).block, (ad.add (i.toNat * 4)).off + 1, none⟩ = some (.int .i64 (rd_T68 xs i).f1) ∧ w.cell? ⟨(ad.add (i.toNat * 4)).block, (ad.add (i.toNat * 4)).off + 2, none⟩ = some (.int .i64 (rd_T68 xs i).f2) ∧ w.cell? ⟨(ad.add (i.toNat * 4)).block, (ad.add (i.toNat * 4)).off + 3, none⟩ = some (.bool (rd_T68 xs i).f3) := by
  obtain ⟨ad, c, e, _, hK, hc0⟩ := Kd.C_get h z68 i h0 h1
  have hc : ∀ j u, c[j]? = some u → w.cell? (ad.add (i.toNat * 4 + j)) = some u := hc0
  obtain rfl := k68_open hK
  exact ⟨ad, e, hc 0 _ rfl, by rw [← add_field _ _ 1 (by omega)]; exact hc 1 _ rfl, by rw [← add_field _ _ 2 (by omega)]; exact hc 2 _ rfl, by rw [← add_field _ _ 3 (by omega)]; exact hc 3 _ rfl⟩


/-! ### utf8_RuneStart: function 64 -/
def utf8_RuneStart.f (a0 : Int) : Option (Bool) := some ((Go.bits .and .u8 a0 192) != 128)
set_option maxHeartbeats 8000000 in
set_option maxRecDepth 100000 in
theorem utf8_RuneStart.calls (a0 : Int) (r : Bool) (w : World) (h : utf8_RuneStart.f a0 = some r) (hTabs : Tabs w) :
    Calls Tryd.prog 64 #[.int .u8 a0] w fun e w' => e = .returned (.bool r) ∧ Drawn0 w w' := by
  have HTABS := Aside0.mk hTabs
  clear hTabs
  have H : (some ((Go.bits .and .u8 a0 192) != 128)) = some r := h
  clear h
  obtain rfl := Option.some.inj H
  go_enter Tryd.func64, Tryd.ntmps64
  go_wp2
  go_ret
  exact ⟨by first | rfl | (simp; done) | (simp [*]; done), by repeat (first | exact Drawn0.refl _ | apply Drawn0.step)⟩



/-! ### glyph_Align: function 30 -/
mutual
def glyph_Align.l0 : Nat → ByteArray → Int → Int → Option (Int)
  | 0, _, _, _ => none
  | k + 1, x0, x1, x5 => if x5 < 4 then (glyph_Align.j1 k x0 x1 x5 (decide (x5 ≤ x1))) else (glyph_Align.j1 k x0 x1 x5 false)
def glyph_Align.j1 : Nat → ByteArray → Int → Int → Bool → Option (Int)
  | 0, _, _, _, _ => none
  | k + 1, x0, x1, x5, x22 => if x22 = true then (if 0 ≤ (wrap64 (x1 - x5)) then (if (wrap64 (x1 - x5)) < (x0.size : Int) then ((utf8_RuneStart.f (bt x0 (wrap64 (x1 - x5)))).bind fun t101 => (if t101 = true then (if (wrap64 (x1 - x5)) ≤ (x0.size : Int) then ((utf8_DecodeRuneInString.f (x0.extract ((wrap64 (x1 - x5)) : Int).toNat x0.size)).bind fun bt102 => (if bt102.2 > x5 then (some (wrap64 (x1 - x5))) else (some x1))) else (none)) else (glyph_Align.l0 k x0 x1 (wrap64 (x5 + 1))))) else (none)) else (none)) else (some x1)
end
def glyph_Align.f (k : Nat) (a0 : ByteArray) (a1 : Int) : Option (Int) := if a1 < 0 then (some 0) else (if a1 ≥ (a0.size : Int) then (some (a0.size : Int)) else (glyph_Align.l0 k a0 a1 0))
theorem glyph_Align.mono_l : ∀ k, (∀ y0 y1 y2, LeO (glyph_Align.l0 k y0 y1 y2) (glyph_Align.l0 (k + 1) y0 y1 y2)) ∧ (∀ y0 y1 y2 y3, LeO (glyph_Align.j1 k y0 y1 y2 y3) (glyph_Align.j1 (k + 1) y0 y1 y2 y3))
  | 0 => ⟨fun _ _ _ r h => by simp [glyph_Align.l0] at h, fun _ _ _ _ r h => by simp [glyph_Align.j1] at h⟩
  | k + 1 => by
    obtain ⟨ih0, ih1⟩ := glyph_Align.mono_l k
    refine ⟨?_, ?_⟩
    · intro y0 y1 y2
      unfold glyph_Align.l0
      repeat' first
      | (with_reducible exact ih0 _ _ _)
      | (with_reducible exact ih1 _ _ _ _)
      | (with_reducible exact LeO.refl _)
      | (with_reducible exact LeO.none _)
      | (with_reducible refine LeO.ite ?_ ?_)
      | (with_reducible refine LeO.bind ?_ (fun _ => ?_))
      | exact ih0 _ _ _
      | exact ih1 _ _ _ _
      | exact LeO.none _
      | refine LeO.ite ?_ ?_
      | refine LeO.bind ?_ (fun _ => ?_)
    · intro y0 y1 y2 y3
      unfold glyph_Align.j1
      repeat' first
      | (with_reducible exact ih0 _ _ _)
      | (with_reducible exact ih1 _ _ _ _)
      | (with_reducible exact LeO.refl _)
      | (with_reducible exact LeO.none _)
      | (with_reducible refine LeO.ite ?_ ?_)
      | (with_reducible refine LeO.bind ?_ (fun _ => ?_))
      | exact ih0 _ _ _
      | exact ih1 _ _ _ _
      | exact LeO.none _
      | refine LeO.ite ?_ ?_
      | refine LeO.bind ?_ (fun _ => ?_)
theorem glyph_Align.mono : ∀ a0 a1 k, LeO (glyph_Align.f k a0 a1) (glyph_Align.f (k + 1) a0 a1) := by
  intro a0 a1 k
  obtain ⟨ih0, ih1⟩ := glyph_Align.mono_l k
  unfold glyph_Align.f
  repeat' first
      | (with_reducible exact ih0 _ _ _)
      | (with_reducible exact ih1 _ _ _ _)
      | (with_reducible exact LeO.refl _)
      | (with_reducible exact LeO.none _)
      | (with_reducible refine LeO.ite ?_ ?_)
      | (with_reducible refine LeO.bind ?_ (fun _ => ?_))
      | exact ih0 _ _ _
      | exact ih1 _ _ _ _
      | exact LeO.none _
      | refine LeO.ite ?_ ?_
      | refine LeO.bind ?_ (fun _ => ?_)
set_option maxHeartbeats 8000000 in
set_option maxRecDepth 100000 in
theorem glyph_Align.calls (k : Nat) (a0 : ByteArray) (a1 : Int) (r : Int) (w : World) (h : glyph_Align.f k a0 a1 = some r) (hTabs : Tabs w) :
    Calls Tryd.prog 30 #[.string a0, .int .i64 a1] w fun e w' => e = .returned (.int .i64 r) ∧ Below w.heap.size w w' := by
  have HTABS := Aside0.mk hTabs
  clear hTabs
  have HB := Aside0.mk (Below.refl w.heap.size w)
  have H : (if a1 < 0 then (some 0) else (if a1 ≥ (a0.size : Int) then (some (a0.size : Int)) else (glyph_Align.l0 k a0 a1 0))) = some r := h
  clear h
  by_cases c3 : a1 < 0
  · rw [if_pos c3] at H
    have c3b0 : decide (a1 < 0) = true := decide_eq_true c3
    clear c3
    obtain rfl := Option.some.inj H
    go_enter Tryd.func30, Tryd.ntmps30
    go_wp2
    go_ret
    exact ⟨by first | rfl | (simp [errW_none, errW_some] <;> rfl) | (simp [*, errW_none, errW_some] <;> rfl), by repeat (first | (with_reducible first | exact HB.out | apply below_alloc | apply pw_below_drewN | apply below_drew1) | exact HB.out)⟩
  · rw [if_neg c3] at H
    have c3b0 : decide (a1 < 0) = false := decide_eq_false c3
    clear c3
    by_cases c4 : a1 ≥ (a0.size : Int)
    · rw [if_pos c4] at H
      have c4b0 : decide ((a0.size : Int) ≤ a1) = true := decide_eq_true c4
      clear c4
      obtain rfl := Option.some.inj H
      go_enter Tryd.func30, Tryd.ntmps30
      go_wp2
      go_ret
      exact ⟨by first | rfl | (simp [errW_none, errW_some] <;> rfl) | (simp [*, errW_none, errW_some] <;> rfl), by repeat (first | (with_reducible first | exact HB.out | apply below_alloc | apply pw_below_drewN | apply below_drew1) | exact HB.out)⟩
    · rw [if_neg c4] at H
      have c4b0 : decide ((a0.size : Int) ≤ a1) = false := decide_eq_false c4
      clear c4
      have H' := Aside0.mk H
      clear H
      go_enter Tryd.func30, Tryd.ntmps30
      go_wp2
      go_loopg [5] k (fun kq v5 w' => ∃ (x5_1 : Int), v5 = .int .i64 x5_1 ∧ Aside0 (glyph_Align.l0 kq a0 a1 x5_1 = some r) ∧ Aside0 (kq ≤ k) ∧ Aside0 (Below w.heap.size w w'))
      case atStart => exact ⟨(0), (by first | rfl | (simp; done) | (simp [*]; done)), H', ⟨Nat.le_refl _⟩, ⟨by repeat (first | (with_reducible first | exact HB.out | apply below_alloc | apply pw_below_drewN | apply below_drew1) | exact HB.out)⟩⟩
      case round =>
        clear H'
        try clear p2
        try clear c3
        try clear c3b0
        try clear c4
        try clear c4b0
        obtain ⟨x5_1, rfl, HA, HK1, HB⟩ := hrel
        cases gk with
        | zero => exact absurd HA.out (by simp [glyph_Align.l0])
        | succ k1 =>
          have H := HA.out
          clear HA
          simp only [glyph_Align.l0] at H
          have HC5 := Aside0.mk H
          clear H
          go_upto_region 6 with (fail)
          go_cut [22] (fun v22 wc => ∃ (kq : Nat) (x22_4 : Bool), v22 = .bool x22_4 ∧ Aside0 (glyph_Align.j1 kq a0 a1 x5_1 x22_4 = some r) ∧ Aside0 (kq ≤ k1) ∧ Aside0 (Below w.heap.size w wc))
          case first =>
            have H := HC5.out
            clear HC5
            by_cases c6 : x5_1 < 4
            · rw [if_pos c6] at H
              have c6b0 : decide (x5_1 < 4) = true := decide_eq_true c6
              clear c6
              (first | rw [c6b0] | (simp only [i64_w, i32_w]; rw [c6b0]) | skip)
              have H' := Aside0.mk H
              clear H
              go_wp2
              go_meet
              case rel => exact ⟨_, (decide (x5_1 ≤ a1)), (by first | rfl | (simp; done) | (simp [*]; done)), H', ⟨by have := HK1.out; first | omega | exact Nat.le_refl _⟩, ⟨by repeat (first | (with_reducible first | exact HB.out | apply below_alloc | apply pw_below_drewN | apply below_drew1) | exact HB.out)⟩⟩
            · rw [if_neg c6] at H
              have c6b0 : decide (x5_1 < 4) = false := decide_eq_false c6
              clear c6
              (first | rw [c6b0] | (simp only [i64_w, i32_w]; rw [c6b0]) | skip)
              have H' := Aside0.mk H
              clear H
              go_wp2
              go_meet
              case rel => exact ⟨_, (false), (by first | rfl | (simp; done) | (simp [*]; done)), H', ⟨by have := HK1.out; first | omega | exact Nat.le_refl _⟩, ⟨by repeat (first | (with_reducible first | exact HB.out | apply below_alloc | apply pw_below_drewN | apply below_drew1) | exact HB.out)⟩⟩
          case rest =>
            clear HC5
            try clear p2
            try clear c3
            try clear c3b0
            try clear c4
            try clear c4b0
            try clear c6
            try clear c6b0
            try clear p2
            obtain ⟨kq, x22_4, rfl, HA, HJ4, HB⟩ := hcut
            cases kq with
            | zero => exact absurd HA.out (by simp [glyph_Align.j1])
            | succ kj4 =>
              have H := HA.out
              clear HA
              simp only [glyph_Align.j1] at H
              by_cases c7 : x22_4 = true
              · subst c7
                have H1 : (if 0 ≤ (wrap64 (a1 - x5_1)) then (if (wrap64 (a1 - x5_1)) < (a0.size : Int) then ((utf8_RuneStart.f (bt a0 (wrap64 (a1 - x5_1)))).bind fun t101 => (if t101 = true then (if (wrap64 (a1 - x5_1)) ≤ (a0.size : Int) then ((utf8_DecodeRuneInString.f (a0.extract ((wrap64 (a1 - x5_1)) : Int).toNat a0.size)).bind fun bt102 => (if bt102.2 > x5_1 then (some (wrap64 (a1 - x5_1))) else (some a1))) else (none)) else (glyph_Align.l0 kj4 a0 a1 (wrap64 (x5_1 + 1))))) else (none)) else (none)) = some r := by rw [if_pos rfl] at H; exact H
                clear H
                have H := H1
                clear H1
                obtain ⟨ji8, hji8⟩ : ∃ j_ : Int, (wrap64 (a1 - x5_1)) = j_ := ⟨_, rfl⟩
                replace H : (if 0 ≤ (ji8) then (if (ji8) < (a0.size : Int) then ((utf8_RuneStart.f (bt a0 (ji8))).bind fun t101 => (if t101 = true then (if (ji8) ≤ (a0.size : Int) then ((utf8_DecodeRuneInString.f (a0.extract ((ji8) : Int).toNat a0.size)).bind fun bt102 => (if bt102.2 > x5_1 then (some ji8) else (some a1))) else (none)) else (glyph_Align.l0 kj4 a0 a1 (wrap64 (x5_1 + 1))))) else (none)) else (none)) = some r := by first | (rw [hji8] at H; exact H) | (simp only [hji8] at H ⊢; exact H)
                have hji8w : (IntKind.i64.wrap (a1 - x5_1)) = ji8 := (i64_w _).trans hji8
                by_cases c9 : 0 ≤ (ji8)
                · rw [if_pos c9] at H
                  have c9b0 : decide (0 ≤ (ji8)) = true := decide_eq_true c9
                  clear c9
                  by_cases c10 : (ji8) < (a0.size : Int)
                  · rw [if_pos c10] at H
                    have c10b0 : decide ((ji8) < (a0.size : Int)) = true := decide_eq_true c10
                    clear c10
                    replace H := Option.bind_eq_some_iff.mp H
                    obtain ⟨t101, A120, H⟩ := H
                    replace H : (if t101 = true then (if (ji8) ≤ (a0.size : Int) then ((utf8_DecodeRuneInString.f (a0.extract ((ji8) : Int).toNat a0.size)).bind fun bt102 => (if bt102.2 > x5_1 then (some ji8) else (some a1))) else (none)) else (glyph_Align.l0 kj4 a0 a1 (wrap64 (x5_1 + 1)))) = some r := H
                    have A12 := Aside0.mk A120
                    clear A120
                    by_cases c13 : t101 = true
                    · subst c13
                      have H1 : (if (ji8) ≤ (a0.size : Int) then ((utf8_DecodeRuneInString.f (a0.extract ((ji8) : Int).toNat a0.size)).bind fun bt102 => (if bt102.2 > x5_1 then (some ji8) else (some a1))) else (none)) = some r := by rw [if_pos rfl] at H; exact H
                      clear H
                      have H := H1
                      clear H1
                      have c14b0 := eq_true (of_decide_eq_true (by first | (with_reducible assumption) | assumption) : 0 ≤ (ji8))
                      by_cases c15 : (ji8) ≤ (a0.size : Int)
                      · rw [if_pos c15] at H
                        have c15b0 := eq_true c15
                        have c15b1 : decide ((ji8) ≤ (a0.size : Int)) = true := decide_eq_true c15
                        clear c15
                        replace H := Option.bind_eq_some_iff.mp H
                        obtain ⟨⟨t102, t103⟩, A160, H⟩ := H
                        replace H : (if t103 > x5_1 then (some ji8) else (some a1)) = some r := H
                        have A16 := Aside0.mk A160
                        clear A160
                        by_cases c17 : t103 > x5_1
                        · rw [if_pos c17] at H
                          have c17b0 : decide (x5_1 < t103) = true := decide_eq_true c17
                          clear c17
                          obtain rfl := Option.some.inj H
                          have p11 : 0 ≤ ((ji8) : Int) := of_decide_eq_true (by first | (with_reducible assumption) | assumption)
                          have q11 : (ji8) < (a0.size : Int) := of_decide_eq_true (by first | (with_reducible assumption) | assumption)
                          have hx11 := bt_at a0 (ji8)
                          replace p11 := eq_true p11
                          replace q11 := eq_true q11
                          go_wp2_with (first | ((with_reducible refine gate_callee (f := 64) rfl ?_); refine goesL_ (some 30) rfl rfl Tryd.func64 (by kernel_rfl) rfl #[.int .u8 (bt a0 (ji8))] rfl (by (try simp only [List.map_toArray, List.map_cons, List.map_nil]); first | done | (simp only [hji8]; rfl) | rfl | (simp only [List.length_drop, List.length_take]; rfl)) ?_; (with_reducible refine (utf8_RuneStart.calls (bt a0 (ji8)) true _ A12.out ?sideT).mono ?_); (case sideT => first | exact HTABS.out | exact HTABS.out.below (by repeat (first | (with_reducible first | exact HB.out | apply below_alloc | apply pw_below_drewN | apply below_drew1) | refine below_set ?_ (Aside0.out (by assumption)) | exact HB.out)) (Nat.le_refl _) | exact HTABS.out.below (Below.drew (Below.refl _ _)) (Nat.le_refl _)); rintro e w' ⟨rfl, ⟨nd, rfl⟩⟩; refine ⟨_, rfl, ?_⟩) | ((with_reducible refine gate_callee (f := 65) rfl ?_); refine goesL_ (some 38) rfl rfl Tryd.func65 (by kernel_rfl) rfl #[.string (a0.extract ((ji8) : Int).toNat a0.size)] rfl (by (try simp only [List.map_toArray, List.map_cons, List.map_nil]); first | done | (simp only [hji8]; rfl) | rfl | (simp only [List.length_drop, List.length_take]; rfl)) ?_; (with_reducible refine (utf8_DecodeRuneInString.calls (a0.extract ((ji8) : Int).toNat a0.size) t102 t103 _ A16.out ?sideT).mono ?_); (case sideT => first | exact HTABS.out | exact HTABS.out.below (by repeat (first | (with_reducible first | exact HB.out | apply below_alloc | apply pw_below_drewN | apply below_drew1) | refine below_set ?_ (Aside0.out (by assumption)) | exact HB.out)) (Nat.le_refl _) | exact HTABS.out.below (Below.drew (Below.refl _ _)) (Nat.le_refl _)); rintro e w18 ⟨rfl, hb⟩; refine ⟨_, rfl, ?_⟩; have n0_ := Aside0.mk (below_step (by repeat (first | (with_reducible first | exact HB.out | apply below_alloc | apply pw_below_drewN | apply below_drew1) | exact HB.out)) hb); clear HB; have HB := n0_; clear n0_; (try clear hb); (try clear hb2); (try clear hk); (try clear hi)))
                          go_ret
                          exact ⟨by first | rfl | (simp [errW_none, errW_some] <;> rfl) | (simp only [← hji8]; first | rfl | (simp [errW_none, errW_some] <;> rfl)) | (simp [*, errW_none, errW_some] <;> rfl), by repeat (first | (with_reducible first | exact HB.out | apply below_alloc | apply pw_below_drewN | apply below_drew1) | exact HB.out)⟩
                        · rw [if_neg c17] at H
                          have c17b0 : decide (x5_1 < t103) = false := decide_eq_false c17
                          clear c17
                          obtain rfl := Option.some.inj H
                          have p11 : 0 ≤ ((ji8) : Int) := of_decide_eq_true (by first | (with_reducible assumption) | assumption)
                          have q11 : (ji8) < (a0.size : Int) := of_decide_eq_true (by first | (with_reducible assumption) | assumption)
                          have hx11 := bt_at a0 (ji8)
                          replace p11 := eq_true p11
                          replace q11 := eq_true q11
                          go_wp2_with (first | ((with_reducible refine gate_callee (f := 64) rfl ?_); refine goesL_ (some 30) rfl rfl Tryd.func64 (by kernel_rfl) rfl #[.int .u8 (bt a0 (ji8))] rfl (by (try simp only [List.map_toArray, List.map_cons, List.map_nil]); first | done | (simp only [hji8]; rfl) | rfl | (simp only [List.length_drop, List.length_take]; rfl)) ?_; (with_reducible refine (utf8_RuneStart.calls (bt a0 (ji8)) true _ A12.out ?sideT).mono ?_); (case sideT => first | exact HTABS.out | exact HTABS.out.below (by repeat (first | (with_reducible first | exact HB.out | apply below_alloc | apply pw_below_drewN | apply below_drew1) | refine below_set ?_ (Aside0.out (by assumption)) | exact HB.out)) (Nat.le_refl _) | exact HTABS.out.below (Below.drew (Below.refl _ _)) (Nat.le_refl _)); rintro e w' ⟨rfl, ⟨nd, rfl⟩⟩; refine ⟨_, rfl, ?_⟩) | ((with_reducible refine gate_callee (f := 65) rfl ?_); refine goesL_ (some 38) rfl rfl Tryd.func65 (by kernel_rfl) rfl #[.string (a0.extract ((ji8) : Int).toNat a0.size)] rfl (by (try simp only [List.map_toArray, List.map_cons, List.map_nil]); first | done | (simp only [hji8]; rfl) | rfl | (simp only [List.length_drop, List.length_take]; rfl)) ?_; (with_reducible refine (utf8_DecodeRuneInString.calls (a0.extract ((ji8) : Int).toNat a0.size) t102 t103 _ A16.out ?sideT).mono ?_); (case sideT => first | exact HTABS.out | exact HTABS.out.below (by repeat (first | (with_reducible first | exact HB.out | apply below_alloc | apply pw_below_drewN | apply below_drew1) | refine below_set ?_ (Aside0.out (by assumption)) | exact HB.out)) (Nat.le_refl _) | exact HTABS.out.below (Below.drew (Below.refl _ _)) (Nat.le_refl _)); rintro e w19 ⟨rfl, hb⟩; refine ⟨_, rfl, ?_⟩; have n0_ := Aside0.mk (below_step (by repeat (first | (with_reducible first | exact HB.out | apply below_alloc | apply pw_below_drewN | apply below_drew1) | exact HB.out)) hb); clear HB; have HB := n0_; clear n0_; (try clear hb); (try clear hb2); (try clear hk); (try clear hi)))
                          go_ret
                          exact ⟨by first | rfl | (simp [errW_none, errW_some] <;> rfl) | (simp only [← hji8]; first | rfl | (simp [errW_none, errW_some] <;> rfl)) | (simp [*, errW_none, errW_some] <;> rfl), by repeat (first | (with_reducible first | exact HB.out | apply below_alloc | apply pw_below_drewN | apply below_drew1) | exact HB.out)⟩
                      · rw [if_neg c15] at H
                        exact absurd H (by simp)
                    · replace c13 := Bool.eq_false_iff.mpr c13
                      subst c13
                      have H1 : (glyph_Align.l0 kj4 a0 a1 (wrap64 (x5_1 + 1))) = some r := by rw [if_neg (show ¬ (false = true) by decide)] at H; exact H
                      clear H
                      have H := H1
                      clear H1
                      have H' := Aside0.mk H
                      clear H
                      have p11 : 0 ≤ ((ji8) : Int) := of_decide_eq_true (by first | (with_reducible assumption) | assumption)
                      have q11 : (ji8) < (a0.size : Int) := of_decide_eq_true (by first | (with_reducible assumption) | assumption)
                      have hx11 := bt_at a0 (ji8)
                      replace p11 := eq_true p11
                      replace q11 := eq_true q11
                      go_wp2_with (first | ((with_reducible refine gate_callee (f := 64) rfl ?_); refine goesL_ (some 30) rfl rfl Tryd.func64 (by kernel_rfl) rfl #[.int .u8 (bt a0 (ji8))] rfl (by (try simp only [List.map_toArray, List.map_cons, List.map_nil]); first | done | (simp only [hji8]; rfl) | rfl | (simp only [List.length_drop, List.length_take]; rfl)) ?_; (with_reducible refine (utf8_RuneStart.calls (bt a0 (ji8)) false _ A12.out ?sideT).mono ?_); (case sideT => first | exact HTABS.out | exact HTABS.out.below (by repeat (first | (with_reducible first | exact HB.out | apply below_alloc | apply pw_below_drewN | apply below_drew1) | refine below_set ?_ (Aside0.out (by assumption)) | exact HB.out)) (Nat.le_refl _) | exact HTABS.out.below (Below.drew (Below.refl _ _)) (Nat.le_refl _)); rintro e w' ⟨rfl, ⟨nd, rfl⟩⟩; refine ⟨_, rfl, ?_⟩))
                      go_roundg kj4
                      case measure => have := HK1.out; have := HJ4.out; omega
                      case rel => exact ⟨(wrap64 (x5_1 + 1)), (by first | rfl | (simp; done) | (simp [*]; done)), H', ⟨by have := HK1.out; have := HJ4.out; omega⟩, ⟨by repeat (first | (with_reducible first | exact HB.out | apply below_alloc | apply pw_below_drewN | apply below_drew1) | exact HB.out)⟩⟩
                  · rw [if_neg c10] at H
                    exact absurd H (by simp)
                · rw [if_neg c9] at H
                  exact absurd H (by simp)
              · replace c7 := Bool.eq_false_iff.mpr c7
                subst c7
                have H1 : (some a1) = some r := by rw [if_neg (show ¬ (false = true) by decide)] at H; exact H
                clear H
                have H := H1
                clear H1
                obtain rfl := Option.some.inj H
                go_wp2
                go_ret
                exact ⟨by first | rfl | (simp [errW_none, errW_some] <;> rfl) | (simp [*, errW_none, errW_some] <;> rfl), by repeat (first | (with_reducible first | exact HB.out | apply below_alloc | apply pw_below_drewN | apply below_drew1) | exact HB.out)⟩



/-! ### line_Of: function 31 -/
def line_Of.f (a0 : ByteArray) (a1 : Int) : Option (Int) := if 0 ≤ (mn (mx a1 0) (a0.size : Int)) then (if (mn (mx a1 0) (a0.size : Int)) ≤ (a0.size : Int) then ((strings_Count.f (a0.extract 0 ((mn (mx a1 0) (a0.size : Int)) : Int).toNat) (⟨#[10]⟩ : ByteArray)).bind fun t104 => (some t104)) else (none)) else (none)
set_option maxHeartbeats 8000000 in
set_option maxRecDepth 100000 in
theorem line_Of.calls (a0 : ByteArray) (a1 : Int) (r : Int) (w : World) (h : line_Of.f a0 a1 = some r) (hTabs : Tabs w) :
    Calls Tryd.prog 31 #[.string a0, .int .i64 a1] w fun e w' => e = .returned (.int .i64 r) ∧ Below w.heap.size w w' := by
  have HTABS := Aside0.mk hTabs
  clear hTabs
  have HB := Aside0.mk (Below.refl w.heap.size w)
  have H : (if 0 ≤ (mn (mx a1 0) (a0.size : Int)) then (if (mn (mx a1 0) (a0.size : Int)) ≤ (a0.size : Int) then ((strings_Count.f (a0.extract 0 ((mn (mx a1 0) (a0.size : Int)) : Int).toNat) (⟨#[10]⟩ : ByteArray)).bind fun t104 => (some t104)) else (none)) else (none)) = some r := h
  clear h
  obtain ⟨ji3, hji3⟩ : ∃ j_ : Int, (mx a1 0) = j_ := ⟨_, rfl⟩
  replace H : (if 0 ≤ (mn (ji3) (a0.size : Int)) then (if (mn (ji3) (a0.size : Int)) ≤ (a0.size : Int) then ((strings_Count.f (a0.extract 0 ((mn (ji3) (a0.size : Int)) : Int).toNat) (⟨#[10]⟩ : ByteArray)).bind fun t104 => (some t104)) else (none)) else (none)) = some r := by first | (rw [hji3] at H; exact H) | (simp only [hji3] at H ⊢; exact H)
  (try (have hji3l : 0 ≤ ji3 := by (rw [← hji3]; unfold mx; (repeat' split) <;> omega)))
  (try (have hji3m : 0 ≤ ji3 := by omega))
  have hji3_ : (if a1 < 0 then 0 else a1) = ji3 := hji3
  obtain ⟨ji4, hji4⟩ : ∃ j_ : Int, (mn (ji3) (a0.size : Int)) = j_ := ⟨_, rfl⟩
  replace H : (if 0 ≤ (ji4) then (if (ji4) ≤ (a0.size : Int) then ((strings_Count.f (a0.extract 0 ((ji4) : Int).toNat) (⟨#[10]⟩ : ByteArray)).bind fun t104 => (some t104)) else (none)) else (none)) = some r := by first | (rw [hji4] at H; exact H) | (simp only [hji4] at H ⊢; exact H)
  have hji4_ : (if (a0.size : Int) < (ji3) then (a0.size : Int) else (ji3)) = ji4 := hji4
  by_cases c5 : 0 ≤ (ji4)
  · rw [if_pos c5] at H
    have c5b0 := eq_true c5
    have c5b1 : decide (0 ≤ (ji4)) = true := decide_eq_true c5
    clear c5
    by_cases c6 : (ji4) ≤ (a0.size : Int)
    · rw [if_pos c6] at H
      have c6b0 := eq_true c6
      have c6b1 : decide ((ji4) ≤ (a0.size : Int)) = true := decide_eq_true c6
      clear c6
      replace H := Option.bind_eq_some_iff.mp H
      obtain ⟨t104, A70, H⟩ := H
      replace H : (some t104) = some r := H
      have A7 := Aside0.mk A70
      clear A70
      obtain rfl := Option.some.inj H
      go_enter Tryd.func31, Tryd.ntmps31
      go_wp2_with (first | ((with_reducible refine gate_callee (f := 66) rfl ?_); refine goesL_ (some 12) rfl rfl Tryd.func66 (by kernel_rfl) rfl #[.string (a0.extract 0 ((ji4) : Int).toNat), .string (⟨#[10]⟩ : ByteArray)] rfl (by (try simp only [List.map_toArray, List.map_cons, List.map_nil]); first | done | (simp only [hji4]; rfl) | rfl | (simp only [List.length_drop, List.length_take]; rfl)) ?_; (with_reducible refine (strings_Count.calls (a0.extract 0 ((ji4) : Int).toNat) (⟨#[10]⟩ : ByteArray) t104 _ A7.out ?sideT).mono ?_); (case sideT => first | exact HTABS.out | exact HTABS.out.below (by repeat (first | (with_reducible first | exact HB.out | apply below_alloc | apply pw_below_drewN | apply below_drew1) | refine below_set ?_ (Aside0.out (by assumption)) | exact HB.out)) (Nat.le_refl _) | exact HTABS.out.below (Below.drew (Below.refl _ _)) (Nat.le_refl _)); rintro e w8 ⟨rfl, hb⟩; refine ⟨_, rfl, ?_⟩; have n0_ := Aside0.mk (below_step (by repeat (first | (with_reducible first | exact HB.out | apply below_alloc | apply pw_below_drewN | apply below_drew1) | exact HB.out)) hb); clear HB; have HB := n0_; clear n0_; (try clear hb); (try clear hb2); (try clear hk); (try clear hi)))
      go_ret
      exact ⟨by first | rfl | (simp [errW_none, errW_some] <;> rfl) | (simp only [← hji3, ← hji4]; first | rfl | (simp [errW_none, errW_some] <;> rfl)) | (simp [*, errW_none, errW_some] <;> rfl), by repeat (first | (with_reducible first | exact HB.out | apply below_alloc | apply pw_below_drewN | apply below_drew1) | exact HB.out)⟩
    · rw [if_neg c6] at H
      exact absurd H (by simp)
  · rw [if_neg c5] at H
    exact absurd H (by simp)


/-! ### line_Count: function 55 -/
def line_Count.f (a0 : ByteArray) : Option (Int) := (strings_Count.f a0 (⟨#[10]⟩ : ByteArray)).bind fun t105 => (some (wrap64 (t105 + 1)))
set_option maxHeartbeats 8000000 in
set_option maxRecDepth 100000 in
theorem line_Count.calls (a0 : ByteArray) (r : Int) (w : World) (h : line_Count.f a0 = some r) (hTabs : Tabs w) :
    Calls Tryd.prog 55 #[.string a0] w fun e w' => e = .returned (.int .i64 r) ∧ Below w.heap.size w w' := by
  have HTABS := Aside0.mk hTabs
  clear hTabs
  have HB := Aside0.mk (Below.refl w.heap.size w)
  have H : ((strings_Count.f a0 (⟨#[10]⟩ : ByteArray)).bind fun t105 => (some (wrap64 (t105 + 1)))) = some r := h
  clear h
  replace H := Option.bind_eq_some_iff.mp H
  obtain ⟨t105, A20, H⟩ := H
  replace H : (some (wrap64 (t105 + 1))) = some r := H
  have A2 := Aside0.mk A20
  clear A20
  obtain rfl := Option.some.inj H
  go_enter Tryd.func55, Tryd.ntmps55
  go_wp2_with (first | ((with_reducible refine gate_callee (f := 66) rfl ?_); refine goesL_ (some 4) rfl rfl Tryd.func66 (by kernel_rfl) rfl #[.string a0, .string (⟨#[10]⟩ : ByteArray)] rfl (by (try simp only [List.map_toArray, List.map_cons, List.map_nil]); first | done | rfl | (simp only [List.length_drop, List.length_take]; rfl)) ?_; (with_reducible refine (strings_Count.calls a0 (⟨#[10]⟩ : ByteArray) t105 _ A2.out ?sideT).mono ?_); (case sideT => first | exact HTABS.out | exact HTABS.out.below (by repeat (first | (with_reducible first | exact HB.out | apply below_alloc | apply pw_below_drewN | apply below_drew1) | refine below_set ?_ (Aside0.out (by assumption)) | exact HB.out)) (Nat.le_refl _) | exact HTABS.out.below (Below.drew (Below.refl _ _)) (Nat.le_refl _)); rintro e w3 ⟨rfl, hb⟩; refine ⟨_, rfl, ?_⟩; have n0_ := Aside0.mk (below_step (by repeat (first | (with_reducible first | exact HB.out | apply below_alloc | apply pw_below_drewN | apply below_drew1) | exact HB.out)) hb); clear HB; have HB := n0_; clear n0_; (try clear hb); (try clear hb2); (try clear hk); (try clear hi)))
  go_ret
  exact ⟨by first | rfl | (simp [errW_none, errW_some] <;> rfl) | (simp [*, errW_none, errW_some] <;> rfl), by repeat (first | (with_reducible first | exact HB.out | apply below_alloc | apply pw_below_drewN | apply below_drew1) | exact HB.out)⟩



/-! ### line_Bounds: function 32 -/
mutual
def line_Bounds.j0 : Nat → ByteArray → Int → Bool → Option (Int × Int × Int)
  | 0, _, _, _ => none
  | k + 1, x0, x1, x16 => if x16 = true then (some (0, 0, 2)) else (line_Bounds.l0 k x0 0 x1 0)
def line_Bounds.l0 : Nat → ByteArray → Int → Int → Int → Option (Int × Int × Int)
  | 0, _, _, _, _ => none
  | k + 1, x0, x7, x17, x18 => if x18 < x17 then (if 0 ≤ x7 then (if x7 ≤ (x0.size : Int) then ((strings_IndexByte.f (x0.extract (x7 : Int).toNat x0.size) 10).bind fun t107 => (line_Bounds.l0 k x0 (wrap64 (x7 + (wrap64 (t107 + 1)))) x17 (wrap64 (x18 + 1)))) else (none)) else (none)) else (if 0 ≤ x7 then (if x7 ≤ (x0.size : Int) then ((strings_IndexByte.f (x0.extract (x7 : Int).toNat x0.size) 10).bind fun t108 => (if t108 < 0 then (some (x7, (x0.size : Int), 0)) else (some (x7, wrap64 (x7 + t108), 0)))) else (none)) else (none))
end
def line_Bounds.f (k : Nat) (a0 : ByteArray) (a1 : Int) : Option (Int × Int × Int) := if a1 < 0 then (line_Bounds.j0 k a0 a1 true) else ((line_Count.f a0).bind fun t106 => (line_Bounds.j0 k a0 a1 (decide (a1 ≥ t106))))
theorem line_Bounds.mono_l : ∀ k, (∀ y0 y1 y2, LeO (line_Bounds.j0 k y0 y1 y2) (line_Bounds.j0 (k + 1) y0 y1 y2)) ∧ (∀ y0 y1 y2 y3, LeO (line_Bounds.l0 k y0 y1 y2 y3) (line_Bounds.l0 (k + 1) y0 y1 y2 y3))
  | 0 => ⟨fun _ _ _ r h => by simp [line_Bounds.j0] at h, fun _ _ _ _ r h => by simp [line_Bounds.l0] at h⟩
  | k + 1 => by
    obtain ⟨ih0, ih1⟩ := line_Bounds.mono_l k
    refine ⟨?_, ?_⟩
    · intro y0 y1 y2
      unfold line_Bounds.j0
      repeat' first
      | (with_reducible exact ih0 _ _ _)
      | (with_reducible exact ih1 _ _ _ _)
      | (with_reducible exact LeO.refl _)
      | (with_reducible exact LeO.none _)
      | (with_reducible refine LeO.ite ?_ ?_)
      | (with_reducible refine LeO.bind ?_ (fun _ => ?_))
      | exact ih0 _ _ _
      | exact ih1 _ _ _ _
      | exact LeO.none _
      | refine LeO.ite ?_ ?_
      | refine LeO.bind ?_ (fun _ => ?_)
    · intro y0 y1 y2 y3
      unfold line_Bounds.l0
      repeat' first
      | (with_reducible exact ih0 _ _ _)
      | (with_reducible exact ih1 _ _ _ _)
      | (with_reducible exact LeO.refl _)
      | (with_reducible exact LeO.none _)
      | (with_reducible refine LeO.ite ?_ ?_)
      | (with_reducible refine LeO.bind ?_ (fun _ => ?_))
      | exact ih0 _ _ _
      | exact ih1 _ _ _ _
      | exact LeO.none _
      | refine LeO.ite ?_ ?_
      | refine LeO.bind ?_ (fun _ => ?_)
theorem line_Bounds.mono : ∀ a0 a1 k, LeO (line_Bounds.f k a0 a1) (line_Bounds.f (k + 1) a0 a1) := by
  intro a0 a1 k
  obtain ⟨ih0, ih1⟩ := line_Bounds.mono_l k
  unfold line_Bounds.f
  repeat' first
      | (with_reducible exact ih0 _ _ _)
      | (with_reducible exact ih1 _ _ _ _)
      | (with_reducible exact LeO.refl _)
      | (with_reducible exact LeO.none _)
      | (with_reducible refine LeO.ite ?_ ?_)
      | (with_reducible refine LeO.bind ?_ (fun _ => ?_))
      | exact ih0 _ _ _
      | exact ih1 _ _ _ _
      | exact LeO.none _
      | refine LeO.ite ?_ ?_
      | refine LeO.bind ?_ (fun _ => ?_)
set_option maxHeartbeats 8000000 in
set_option maxRecDepth 100000 in
theorem line_Bounds.calls (k : Nat) (a0 : ByteArray) (a1 : Int) (r1 : Int) (r2 : Int) (r3 : Int) (w : World) (h : line_Bounds.f k a0 a1 = some (r1, r2, r3)) (hTabs : Tabs w) :
    Calls Tryd.prog 32 #[.string a0, .int .i64 a1] w fun e w' => e = .returned (.tuple #[.int .i64 r1, .int .i64 r2, .int .i64 r3]) ∧ Below w.heap.size w w' := by
  have HTABS := Aside0.mk hTabs
  clear hTabs
  have HB := Aside0.mk (Below.refl w.heap.size w)
  have H : (if a1 < 0 then (line_Bounds.j0 k a0 a1 true) else ((line_Count.f a0).bind fun t106 => (line_Bounds.j0 k a0 a1 (decide (a1 ≥ t106))))) = some (r1, r2, r3) := h
  clear h
  have HC3 := Aside0.mk H
  clear H
  go_enter Tryd.func32, Tryd.ntmps32
  go_upto_region 1 with (fail)
  go_cut [16] (fun v16 wc => ∃ (kq : Nat) (x16_2 : Bool), v16 = .bool x16_2 ∧ Aside0 (line_Bounds.j0 kq a0 a1 x16_2 = some (r1, r2, r3)) ∧ Aside0 (kq ≤ k) ∧ Aside0 (Below w.heap.size w wc))
  case first =>
    have H := HC3.out
    clear HC3
    by_cases c4 : a1 < 0
    · rw [if_pos c4] at H
      have c4b0 : decide (a1 < 0) = true := decide_eq_true c4
      clear c4
      (first | rw [c4b0] | (simp only [i64_w, i32_w]; rw [c4b0]) | skip)
      have H' := Aside0.mk H
      clear H
      go_wp2
      go_meet
      case rel => exact ⟨_, (true), (by first | rfl | (simp; done) | (simp [*]; done)), H', ⟨by first | omega | exact Nat.le_refl _⟩, ⟨by repeat (first | (with_reducible first | exact HB.out | apply below_alloc | apply pw_below_drewN | apply below_drew1) | exact HB.out)⟩⟩
    · rw [if_neg c4] at H
      have c4b0 : decide (a1 < 0) = false := decide_eq_false c4
      clear c4
      (first | rw [c4b0] | (simp only [i64_w, i32_w]; rw [c4b0]) | skip)
      replace H := Option.bind_eq_some_iff.mp H
      obtain ⟨t106, A50, H⟩ := H
      replace H : (line_Bounds.j0 k a0 a1 (decide (a1 ≥ t106))) = some (r1, r2, r3) := H
      have A5 := Aside0.mk A50
      clear A50
      have H' := Aside0.mk H
      clear H
      go_wp2_with (first | (go_at_call 55; (with_reducible refine (line_Count.calls a0 t106 _ A5.out ?sideT).mono ?_); (case sideT => first | exact HTABS.out | exact HTABS.out.below (by repeat (first | (with_reducible first | exact HB.out | apply below_alloc | apply pw_below_drewN | apply below_drew1) | refine below_set ?_ (Aside0.out (by assumption)) | exact HB.out)) (Nat.le_refl _) | exact HTABS.out.below (Below.drew (Below.refl _ _)) (Nat.le_refl _)); rintro e w6 ⟨rfl, hb⟩; have n0_ := Aside0.mk (below_step (by repeat (first | (with_reducible first | exact HB.out | apply below_alloc | apply pw_below_drewN | apply below_drew1) | exact HB.out)) hb); clear HB; have HB := n0_; clear n0_; (try clear hb); (try clear hb2); (try clear hk); (try clear hi)))
      go_meet
      case rel => exact ⟨_, (decide (a1 ≥ t106)), (by first | rfl | (simp; done) | (simp [*]; done)), H', ⟨by first | omega | exact Nat.le_refl _⟩, ⟨by repeat (first | (with_reducible first | exact HB.out | apply below_alloc | apply pw_below_drewN | apply below_drew1) | exact HB.out)⟩⟩
  case rest =>
    clear HC3
    try clear p2
    try clear c3
    try clear c4
    try clear c4b0
    obtain ⟨kq, x16_2, rfl, HA, HJ2, HB⟩ := hcut
    cases kq with
    | zero => exact absurd HA.out (by simp [line_Bounds.j0])
    | succ kj2 =>
      have H := HA.out
      clear HA
      simp only [line_Bounds.j0] at H
      by_cases c7 : x16_2 = true
      · subst c7
        have H1 : (some (0, 0, 2)) = some (r1, r2, r3) := by rw [if_pos rfl] at H; exact H
        clear H
        have H := H1
        clear H1
        simp only [Option.some.injEq, Prod.mk.injEq] at H
        obtain ⟨rfl, rfl, rfl⟩ := H
        go_wp2
        go_ret3
        exact ⟨by first | rfl | (simp [errW_none, errW_some] <;> rfl) | (simp [*, errW_none, errW_some] <;> rfl), by repeat (first | (with_reducible first | exact HB.out | apply below_alloc | apply pw_below_drewN | apply below_drew1) | exact HB.out)⟩
      · replace c7 := Bool.eq_false_iff.mpr c7
        subst c7
        have H1 : (line_Bounds.l0 kj2 a0 0 a1 0) = some (r1, r2, r3) := by rw [if_neg (show ¬ (false = true) by decide)] at H; exact H
        clear H
        have H := H1
        clear H1
        have H' := Aside0.mk H
        clear H
        go_wp2
        go_loopg [7, 18] kj2 (fun kq v7 v18 w' => ∃ (x7_2 : Int) (x18_2 : Int), v7 = .int .i64 x7_2 ∧ v18 = .int .i64 x18_2 ∧ Aside0 (line_Bounds.l0 kq a0 x7_2 a1 x18_2 = some (r1, r2, r3)) ∧ Aside0 (kq ≤ kj2) ∧ Aside0 (Below w.heap.size w w'))
        case atStart => exact ⟨(0), (0), (by first | rfl | (simp; done) | (simp [*]; done)), (by first | rfl | (simp; done) | (simp [*]; done)), H', ⟨Nat.le_refl _⟩, ⟨by repeat (first | (with_reducible first | exact HB.out | apply below_alloc | apply pw_below_drewN | apply below_drew1) | exact HB.out)⟩⟩
        case round =>
          clear H'
          try clear p2
          try clear c3
          try clear c4
          try clear c4b0
          try clear c7
          try clear p2
          obtain ⟨x7_2, x18_2, rfl, rfl, HA, HK2, HB⟩ := hrel
          cases gk with
          | zero => exact absurd HA.out (by simp [line_Bounds.l0])
          | succ k2 =>
            have H := HA.out
            clear HA
            simp only [line_Bounds.l0] at H
            by_cases c8 : x18_2 < a1
            · rw [if_pos c8] at H
              have c8b0 : decide (x18_2 < a1) = true := decide_eq_true c8
              clear c8
              by_cases c9 : 0 ≤ x7_2
              · rw [if_pos c9] at H
                have c9b0 := eq_true c9
                have c9b1 : decide (0 ≤ x7_2) = true := decide_eq_true c9
                clear c9
                by_cases c10 : x7_2 ≤ (a0.size : Int)
                · rw [if_pos c10] at H
                  have c10b0 := eq_true c10
                  have c10b1 : decide (x7_2 ≤ (a0.size : Int)) = true := decide_eq_true c10
                  clear c10
                  replace H := Option.bind_eq_some_iff.mp H
                  obtain ⟨t107, A110, H⟩ := H
                  replace H : (line_Bounds.l0 k2 a0 (wrap64 (x7_2 + (wrap64 (t107 + 1)))) a1 (wrap64 (x18_2 + 1))) = some (r1, r2, r3) := H
                  have A11 := Aside0.mk A110
                  clear A110
                  have H' := Aside0.mk H
                  clear H
                  go_wp2_with (first | ((with_reducible refine gate_callee (f := 67) rfl ?_); refine goesL_ (some 24) rfl rfl Tryd.func67 (by kernel_rfl) rfl #[.string (a0.extract (x7_2 : Int).toNat a0.size), .int .u8 10] rfl (by (try simp only [List.map_toArray, List.map_cons, List.map_nil]); first | done | rfl | (simp only [List.length_drop, List.length_take]; rfl)) ?_; (with_reducible refine (strings_IndexByte.calls (a0.extract (x7_2 : Int).toNat a0.size) 10 t107 _ A11.out ?sideT).mono ?_); (case sideT => first | exact HTABS.out | exact HTABS.out.below (by repeat (first | (with_reducible first | exact HB.out | apply below_alloc | apply pw_below_drewN | apply below_drew1) | refine below_set ?_ (Aside0.out (by assumption)) | exact HB.out)) (Nat.le_refl _) | exact HTABS.out.below (Below.drew (Below.refl _ _)) (Nat.le_refl _)); rintro e w12 ⟨rfl, hb⟩; refine ⟨_, rfl, ?_⟩; have n0_ := Aside0.mk (below_step (by repeat (first | (with_reducible first | exact HB.out | apply below_alloc | apply pw_below_drewN | apply below_drew1) | exact HB.out)) hb); clear HB; have HB := n0_; clear n0_; (try clear hb); (try clear hb2); (try clear hk); (try clear hi)))
                  go_roundg k2
                  case measure => have := HJ2.out; have := HK2.out; omega
                  case rel => exact ⟨(wrap64 (x7_2 + (wrap64 (t107 + 1)))), (wrap64 (x18_2 + 1)), (by first | rfl | (simp; done) | (simp [*]; done)), (by first | rfl | (simp; done) | (simp [*]; done)), H', ⟨by have := HJ2.out; have := HK2.out; omega⟩, ⟨by repeat (first | (with_reducible first | exact HB.out | apply below_alloc | apply pw_below_drewN | apply below_drew1) | exact HB.out)⟩⟩
                · rw [if_neg c10] at H
                  exact absurd H (by simp)
              · rw [if_neg c9] at H
                exact absurd H (by simp)
            · rw [if_neg c8] at H
              have c8b0 : decide (x18_2 < a1) = false := decide_eq_false c8
              clear c8
              by_cases c13 : 0 ≤ x7_2
              · rw [if_pos c13] at H
                have c13b0 := eq_true c13
                have c13b1 : decide (0 ≤ x7_2) = true := decide_eq_true c13
                clear c13
                by_cases c14 : x7_2 ≤ (a0.size : Int)
                · rw [if_pos c14] at H
                  have c14b0 := eq_true c14
                  have c14b1 : decide (x7_2 ≤ (a0.size : Int)) = true := decide_eq_true c14
                  clear c14
                  replace H := Option.bind_eq_some_iff.mp H
                  obtain ⟨t108, A150, H⟩ := H
                  replace H : (if t108 < 0 then (some (x7_2, (a0.size : Int), 0)) else (some (x7_2, wrap64 (x7_2 + t108), 0))) = some (r1, r2, r3) := H
                  have A15 := Aside0.mk A150
                  clear A150
                  by_cases c16 : t108 < 0
                  · rw [if_pos c16] at H
                    have c16b0 : decide (t108 < 0) = true := decide_eq_true c16
                    clear c16
                    simp only [Option.some.injEq, Prod.mk.injEq] at H
                    obtain ⟨rfl, rfl, rfl⟩ := H
                    go_wp2_with (first | ((with_reducible refine gate_callee (f := 67) rfl ?_); refine goesL_ (some 31) rfl rfl Tryd.func67 (by kernel_rfl) rfl #[.string (a0.extract (x7_2 : Int).toNat a0.size), .int .u8 10] rfl (by (try simp only [List.map_toArray, List.map_cons, List.map_nil]); first | done | rfl | (simp only [List.length_drop, List.length_take]; rfl)) ?_; (with_reducible refine (strings_IndexByte.calls (a0.extract (x7_2 : Int).toNat a0.size) 10 t108 _ A15.out ?sideT).mono ?_); (case sideT => first | exact HTABS.out | exact HTABS.out.below (by repeat (first | (with_reducible first | exact HB.out | apply below_alloc | apply pw_below_drewN | apply below_drew1) | refine below_set ?_ (Aside0.out (by assumption)) | exact HB.out)) (Nat.le_refl _) | exact HTABS.out.below (Below.drew (Below.refl _ _)) (Nat.le_refl _)); rintro e w17 ⟨rfl, hb⟩; refine ⟨_, rfl, ?_⟩; have n0_ := Aside0.mk (below_step (by repeat (first | (with_reducible first | exact HB.out | apply below_alloc | apply pw_below_drewN | apply below_drew1) | exact HB.out)) hb); clear HB; have HB := n0_; clear n0_; (try clear hb); (try clear hb2); (try clear hk); (try clear hi)))
                    go_ret3
                    exact ⟨by first | rfl | (simp [errW_none, errW_some] <;> rfl) | (simp [*, errW_none, errW_some] <;> rfl), by repeat (first | (with_reducible first | exact HB.out | apply below_alloc | apply pw_below_drewN | apply below_drew1) | exact HB.out)⟩
                  · rw [if_neg c16] at H
                    have c16b0 : decide (t108 < 0) = false := decide_eq_false c16
                    clear c16
                    simp only [Option.some.injEq, Prod.mk.injEq] at H
                    obtain ⟨rfl, rfl, rfl⟩ := H
                    go_wp2_with (first | ((with_reducible refine gate_callee (f := 67) rfl ?_); refine goesL_ (some 31) rfl rfl Tryd.func67 (by kernel_rfl) rfl #[.string (a0.extract (x7_2 : Int).toNat a0.size), .int .u8 10] rfl (by (try simp only [List.map_toArray, List.map_cons, List.map_nil]); first | done | rfl | (simp only [List.length_drop, List.length_take]; rfl)) ?_; (with_reducible refine (strings_IndexByte.calls (a0.extract (x7_2 : Int).toNat a0.size) 10 t108 _ A15.out ?sideT).mono ?_); (case sideT => first | exact HTABS.out | exact HTABS.out.below (by repeat (first | (with_reducible first | exact HB.out | apply below_alloc | apply pw_below_drewN | apply below_drew1) | refine below_set ?_ (Aside0.out (by assumption)) | exact HB.out)) (Nat.le_refl _) | exact HTABS.out.below (Below.drew (Below.refl _ _)) (Nat.le_refl _)); rintro e w18 ⟨rfl, hb⟩; refine ⟨_, rfl, ?_⟩; have n0_ := Aside0.mk (below_step (by repeat (first | (with_reducible first | exact HB.out | apply below_alloc | apply pw_below_drewN | apply below_drew1) | exact HB.out)) hb); clear HB; have HB := n0_; clear n0_; (try clear hb); (try clear hb2); (try clear hk); (try clear hi)))
                    go_ret3
                    exact ⟨by first | rfl | (simp [errW_none, errW_some] <;> rfl) | (simp [*, errW_none, errW_some] <;> rfl), by repeat (first | (with_reducible first | exact HB.out | apply below_alloc | apply pw_below_drewN | apply below_drew1) | exact HB.out)⟩
                · rw [if_neg c14] at H
                  exact absurd H (by simp)
              · rw [if_neg c13] at H
                exact absurd H (by simp)


/-! ### line_into: function 56 -/
def line_into.f (k : Nat) (a0 : ByteArray) (a1 : Int) : Option (Int × Int) := (line_Count.f a0).bind fun t109 => ((line_Bounds.f k a0 (mn (mx a1 0) (wrap64 (t109 - 1)))).bind fun bt110 => (some (bt110.1, bt110.2.1)))
theorem line_into.mono : ∀ a0 a1 k, LeO (line_into.f k a0 a1) (line_into.f (k + 1) a0 a1) := by
  intro a0 a1 k
  unfold line_into.f
  repeat' first
      | (with_reducible exact line_Bounds.mono _ _ _)
      | (with_reducible exact LeO.refl _)
      | (with_reducible exact LeO.none _)
      | (with_reducible refine LeO.ite ?_ ?_)
      | (with_reducible refine LeO.bind ?_ (fun _ => ?_))
      | exact line_Bounds.mono _ _ _
      | exact LeO.none _
      | refine LeO.ite ?_ ?_
      | refine LeO.bind ?_ (fun _ => ?_)
set_option maxHeartbeats 8000000 in
set_option maxRecDepth 100000 in
theorem line_into.calls (k : Nat) (a0 : ByteArray) (a1 : Int) (r1 : Int) (r2 : Int) (w : World) (h : line_into.f k a0 a1 = some (r1, r2)) (hTabs : Tabs w) :
    Calls Tryd.prog 56 #[.string a0, .int .i64 a1] w fun e w' => e = .returned (.tuple #[.int .i64 r1, .int .i64 r2]) ∧ Below w.heap.size w w' := by
  have HTABS := Aside0.mk hTabs
  clear hTabs
  have HB := Aside0.mk (Below.refl w.heap.size w)
  have H : ((line_Count.f a0).bind fun t109 => ((line_Bounds.f k a0 (mn (mx a1 0) (wrap64 (t109 - 1)))).bind fun bt110 => (some (bt110.1, bt110.2.1)))) = some (r1, r2) := h
  clear h
  obtain ⟨ji3, hji3⟩ : ∃ j_ : Int, (mx a1 0) = j_ := ⟨_, rfl⟩
  replace H : ((line_Count.f a0).bind fun t109 => ((line_Bounds.f k a0 (mn (ji3) (wrap64 (t109 - 1)))).bind fun bt110 => (some (bt110.1, bt110.2.1)))) = some (r1, r2) := by first | (rw [hji3] at H; exact H) | (simp only [hji3] at H ⊢; exact H)
  (try (have hji3l : 0 ≤ ji3 := by (rw [← hji3]; unfold mx; (repeat' split) <;> omega)))
  (try (have hji3m : 0 ≤ ji3 := by omega))
  have hji3_ : (if a1 < 0 then 0 else a1) = ji3 := hji3
  replace H := Option.bind_eq_some_iff.mp H
  obtain ⟨t109, A40, H⟩ := H
  replace H : ((line_Bounds.f k a0 (mn (ji3) (wrap64 (t109 - 1)))).bind fun bt110 => (some (bt110.1, bt110.2.1))) = some (r1, r2) := H
  have A4 := Aside0.mk A40
  clear A40
  obtain ⟨ji5, hji5⟩ : ∃ j_ : Int, (mn (ji3) (wrap64 (t109 - 1))) = j_ := ⟨_, rfl⟩
  replace H : ((line_Bounds.f k a0 (ji5)).bind fun bt110 => (some (bt110.1, bt110.2.1))) = some (r1, r2) := by first | (rw [hji5] at H; exact H) | (simp only [hji5] at H ⊢; exact H)
  (try rw [hji5] at A4)
  have hji5_ : (if (wrap64 (t109 - 1)) < (ji3) then (wrap64 (t109 - 1)) else (ji3)) = ji5 := hji5
  replace H := Option.bind_eq_some_iff.mp H
  obtain ⟨⟨t110, t111, t112⟩, A60, H⟩ := H
  replace H : (some (t110, t111)) = some (r1, r2) := H
  have A6 := Aside0.mk A60
  clear A60
  simp only [Option.some.injEq, Prod.mk.injEq] at H
  obtain ⟨rfl, rfl⟩ := H
  go_enter Tryd.func56, Tryd.ntmps56
  go_wp2_with (first | ((with_reducible refine gate_callee (f := 55) rfl ?_); refine goesL_ (some 14) rfl rfl Tryd.func55 (by kernel_rfl) rfl #[.string a0] rfl (by (try simp only [List.map_toArray, List.map_cons, List.map_nil]); first | done | rfl | (simp only [List.length_drop, List.length_take]; rfl)) ?_; (with_reducible refine (line_Count.calls a0 t109 _ A4.out ?sideT).mono ?_); (case sideT => first | exact HTABS.out | exact HTABS.out.below (by repeat (first | (with_reducible first | exact HB.out | apply below_alloc | apply pw_below_drewN | apply below_drew1) | refine below_set ?_ (Aside0.out (by assumption)) | exact HB.out)) (Nat.le_refl _) | exact HTABS.out.below (Below.drew (Below.refl _ _)) (Nat.le_refl _)); rintro e w7 ⟨rfl, hb⟩; refine ⟨_, rfl, ?_⟩; have n0_ := Aside0.mk (below_step (by repeat (first | (with_reducible first | exact HB.out | apply below_alloc | apply pw_below_drewN | apply below_drew1) | exact HB.out)) hb); clear HB; have HB := n0_; clear n0_; (try clear hb); (try clear hb2); (try clear hk); (try clear hi)) | ((with_reducible refine gate_callee (f := 32) rfl ?_); refine goesL_ (some 17) rfl rfl Tryd.func32 (by kernel_rfl) rfl #[.string a0, .int .i64 ji5] rfl (by (try simp only [List.map_toArray, List.map_cons, List.map_nil]); first | done | (simp only [hji5]; rfl) | rfl | (simp only [List.length_drop, List.length_take]; rfl)) ?_; (with_reducible refine (line_Bounds.calls k a0 ji5 t110 t111 t112 _ A6.out ?sideT).mono ?_); (case sideT => first | exact HTABS.out | exact HTABS.out.below (by repeat (first | (with_reducible first | exact HB.out | apply below_alloc | apply pw_below_drewN | apply below_drew1) | refine below_set ?_ (Aside0.out (by assumption)) | exact HB.out)) (Nat.le_refl _) | exact HTABS.out.below (Below.drew (Below.refl _ _)) (Nat.le_refl _)); rintro e w8 ⟨rfl, hb⟩; refine ⟨_, rfl, ?_⟩; have n0_ := Aside0.mk (below_step (by repeat (first | (with_reducible first | exact HB.out | apply below_alloc | apply pw_below_drewN | apply below_drew1) | exact HB.out)) hb); clear HB; have HB := n0_; clear n0_; (try clear hb); (try clear hb2); (try clear hk); (try clear hi)))
  go_ret2
  exact ⟨by first | rfl | (simp [errW_none, errW_some] <;> rfl) | (simp only [← hji3, ← hji5]; first | rfl | (simp [errW_none, errW_some] <;> rfl)) | (simp [*, errW_none, errW_some] <;> rfl), by repeat (first | (with_reducible first | exact HB.out | apply below_alloc | apply pw_below_drewN | apply below_drew1) | exact HB.out)⟩



/-! ### line_Col: function 24 -/
def line_Col.f (k : Nat) (a0 : ByteArray) (a1 : Int) : Option (Int) := (glyph_Align.f k a0 a1).bind fun t113 => ((line_Of.f a0 t113).bind fun t114 => ((line_into.f k a0 t114).bind fun bt115 => (if 0 ≤ bt115.1 then (if bt115.1 ≤ t113 then (if t113 ≤ (a0.size : Int) then ((glyph_Count.f (a0.extract (bt115.1 : Int).toNat (t113 : Int).toNat)).bind fun t117 => (some t117)) else (none)) else (none)) else (none))))
theorem line_Col.mono : ∀ a0 a1 k, LeO (line_Col.f k a0 a1) (line_Col.f (k + 1) a0 a1) := by
  intro a0 a1 k
  unfold line_Col.f
  repeat' first
      | (with_reducible exact glyph_Align.mono _ _ _)
      | (with_reducible exact line_into.mono _ _ _)
      | (with_reducible exact LeO.refl _)
      | (with_reducible exact LeO.none _)
      | (with_reducible refine LeO.ite ?_ ?_)
      | (with_reducible refine LeO.bind ?_ (fun _ => ?_))
      | exact glyph_Align.mono _ _ _
      | exact line_into.mono _ _ _
      | exact LeO.none _
      | refine LeO.ite ?_ ?_
      | refine LeO.bind ?_ (fun _ => ?_)
set_option maxHeartbeats 8000000 in
set_option maxRecDepth 100000 in
theorem line_Col.calls (k : Nat) (a0 : ByteArray) (a1 : Int) (r : Int) (w : World) (h : line_Col.f k a0 a1 = some r) (hTabs : Tabs w) :
    Calls Tryd.prog 24 #[.string a0, .int .i64 a1] w fun e w' => e = .returned (.int .i64 r) ∧ Below w.heap.size w w' := by
  have HTABS := Aside0.mk hTabs
  clear hTabs
  have HB := Aside0.mk (Below.refl w.heap.size w)
  have H : ((glyph_Align.f k a0 a1).bind fun t113 => ((line_Of.f a0 t113).bind fun t114 => ((line_into.f k a0 t114).bind fun bt115 => (if 0 ≤ bt115.1 then (if bt115.1 ≤ t113 then (if t113 ≤ (a0.size : Int) then ((glyph_Count.f (a0.extract (bt115.1 : Int).toNat (t113 : Int).toNat)).bind fun t117 => (some t117)) else (none)) else (none)) else (none))))) = some r := h
  clear h
  replace H := Option.bind_eq_some_iff.mp H
  obtain ⟨t113, A30, H⟩ := H
  replace H : ((line_Of.f a0 t113).bind fun t114 => ((line_into.f k a0 t114).bind fun bt115 => (if 0 ≤ bt115.1 then (if bt115.1 ≤ t113 then (if t113 ≤ (a0.size : Int) then ((glyph_Count.f (a0.extract (bt115.1 : Int).toNat (t113 : Int).toNat)).bind fun t117 => (some t117)) else (none)) else (none)) else (none)))) = some r := H
  have A3 := Aside0.mk A30
  clear A30
  replace H := Option.bind_eq_some_iff.mp H
  obtain ⟨t114, A40, H⟩ := H
  replace H : ((line_into.f k a0 t114).bind fun bt115 => (if 0 ≤ bt115.1 then (if bt115.1 ≤ t113 then (if t113 ≤ (a0.size : Int) then ((glyph_Count.f (a0.extract (bt115.1 : Int).toNat (t113 : Int).toNat)).bind fun t117 => (some t117)) else (none)) else (none)) else (none))) = some r := H
  have A4 := Aside0.mk A40
  clear A40
  replace H := Option.bind_eq_some_iff.mp H
  obtain ⟨⟨t115, t116⟩, A50, H⟩ := H
  replace H : (if 0 ≤ t115 then (if t115 ≤ t113 then (if t113 ≤ (a0.size : Int) then ((glyph_Count.f (a0.extract (t115 : Int).toNat (t113 : Int).toNat)).bind fun t117 => (some t117)) else (none)) else (none)) else (none)) = some r := H
  have A5 := Aside0.mk A50
  clear A50
  by_cases c6 : 0 ≤ t115
  · rw [if_pos c6] at H
    have c6b0 := eq_true c6
    have c6b1 : decide (0 ≤ t115) = true := decide_eq_true c6
    clear c6
    by_cases c7 : t115 ≤ t113
    · rw [if_pos c7] at H
      have c7b0 := eq_true c7
      have c7b1 : decide (t115 ≤ t113) = true := decide_eq_true c7
      clear c7
      by_cases c8 : t113 ≤ (a0.size : Int)
      · rw [if_pos c8] at H
        have c8b0 := eq_true c8
        have c8b1 : decide (t113 ≤ (a0.size : Int)) = true := decide_eq_true c8
        clear c8
        replace H := Option.bind_eq_some_iff.mp H
        obtain ⟨t117, A90, H⟩ := H
        replace H : (some t117) = some r := H
        have A9 := Aside0.mk A90
        clear A90
        obtain rfl := Option.some.inj H
        go_enter Tryd.func24, Tryd.ntmps24
        go_wp2_with (first | ((with_reducible refine gate_callee (f := 30) rfl ?_); refine goesL_ (some 10) rfl rfl Tryd.func30 (by kernel_rfl) rfl #[.string a0, .int .i64 a1] rfl (by (try simp only [List.map_toArray, List.map_cons, List.map_nil]); first | done | rfl | (simp only [List.length_drop, List.length_take]; rfl)) ?_; (with_reducible refine (glyph_Align.calls k a0 a1 t113 _ A3.out ?sideT).mono ?_); (case sideT => first | exact HTABS.out | exact HTABS.out.below (by repeat (first | (with_reducible first | exact HB.out | apply below_alloc | apply pw_below_drewN | apply below_drew1) | refine below_set ?_ (Aside0.out (by assumption)) | exact HB.out)) (Nat.le_refl _) | exact HTABS.out.below (Below.drew (Below.refl _ _)) (Nat.le_refl _)); rintro e w10 ⟨rfl, hb⟩; refine ⟨_, rfl, ?_⟩; have n0_ := Aside0.mk (below_step (by repeat (first | (with_reducible first | exact HB.out | apply below_alloc | apply pw_below_drewN | apply below_drew1) | exact HB.out)) hb); clear HB; have HB := n0_; clear n0_; (try clear hb); (try clear hb2); (try clear hk); (try clear hi)) | ((with_reducible refine gate_callee (f := 31) rfl ?_); refine goesL_ (some 15) rfl rfl Tryd.func31 (by kernel_rfl) rfl #[.string a0, .int .i64 t113] rfl (by (try simp only [List.map_toArray, List.map_cons, List.map_nil]); first | done | rfl | (simp only [List.length_drop, List.length_take]; rfl)) ?_; (with_reducible refine (line_Of.calls a0 t113 t114 _ A4.out ?sideT).mono ?_); (case sideT => first | exact HTABS.out | exact HTABS.out.below (by repeat (first | (with_reducible first | exact HB.out | apply below_alloc | apply pw_below_drewN | apply below_drew1) | refine below_set ?_ (Aside0.out (by assumption)) | exact HB.out)) (Nat.le_refl _) | exact HTABS.out.below (Below.drew (Below.refl _ _)) (Nat.le_refl _)); rintro e w11 ⟨rfl, hb⟩; refine ⟨_, rfl, ?_⟩; have n0_ := Aside0.mk (below_step (by repeat (first | (with_reducible first | exact HB.out | apply below_alloc | apply pw_below_drewN | apply below_drew1) | exact HB.out)) hb); clear HB; have HB := n0_; clear n0_; (try clear hb); (try clear hb2); (try clear hk); (try clear hi)) | ((with_reducible refine gate_callee (f := 56) rfl ?_); refine goesL_ (some 16) rfl rfl Tryd.func56 (by kernel_rfl) rfl #[.string a0, .int .i64 t114] rfl (by (try simp only [List.map_toArray, List.map_cons, List.map_nil]); first | done | rfl | (simp only [List.length_drop, List.length_take]; rfl)) ?_; (with_reducible refine (line_into.calls k a0 t114 t115 t116 _ A5.out ?sideT).mono ?_); (case sideT => first | exact HTABS.out | exact HTABS.out.below (by repeat (first | (with_reducible first | exact HB.out | apply below_alloc | apply pw_below_drewN | apply below_drew1) | refine below_set ?_ (Aside0.out (by assumption)) | exact HB.out)) (Nat.le_refl _) | exact HTABS.out.below (Below.drew (Below.refl _ _)) (Nat.le_refl _)); rintro e w12 ⟨rfl, hb⟩; refine ⟨_, rfl, ?_⟩; have n0_ := Aside0.mk (below_step (by repeat (first | (with_reducible first | exact HB.out | apply below_alloc | apply pw_below_drewN | apply below_drew1) | exact HB.out)) hb); clear HB; have HB := n0_; clear n0_; (try clear hb); (try clear hb2); (try clear hk); (try clear hi)) | ((with_reducible refine gate_callee (f := 58) rfl ?_); refine goesL_ (some 23) rfl rfl Tryd.func58 (by kernel_rfl) rfl #[.string (a0.extract (t115 : Int).toNat (t113 : Int).toNat)] rfl (by (try simp only [List.map_toArray, List.map_cons, List.map_nil]); first | done | rfl | (simp only [List.length_drop, List.length_take]; rfl)) ?_; (with_reducible refine (glyph_Count.calls (a0.extract (t115 : Int).toNat (t113 : Int).toNat) t117 _ A9.out ?sideT).mono ?_); (case sideT => first | exact HTABS.out | exact HTABS.out.below (by repeat (first | (with_reducible first | exact HB.out | apply below_alloc | apply pw_below_drewN | apply below_drew1) | refine below_set ?_ (Aside0.out (by assumption)) | exact HB.out)) (Nat.le_refl _) | exact HTABS.out.below (Below.drew (Below.refl _ _)) (Nat.le_refl _)); rintro e w13 ⟨rfl, hb⟩; refine ⟨_, rfl, ?_⟩; have n0_ := Aside0.mk (below_step (by repeat (first | (with_reducible first | exact HB.out | apply below_alloc | apply pw_below_drewN | apply below_drew1) | exact HB.out)) hb); clear HB; have HB := n0_; clear n0_; (try clear hb); (try clear hb2); (try clear hk); (try clear hi)))
        go_ret
        exact ⟨by first | rfl | (simp [errW_none, errW_some] <;> rfl) | (simp [*, errW_none, errW_some] <;> rfl), by repeat (first | (with_reducible first | exact HB.out | apply below_alloc | apply pw_below_drewN | apply below_drew1) | exact HB.out)⟩
      · rw [if_neg c8] at H
        exact absurd H (by simp)
    · rw [if_neg c7] at H
      exact absurd H (by simp)
  · rw [if_neg c6] at H
    exact absurd H (by simp)


/-! ### line_Whole: function 22 -/
def line_Whole.j0 : Nat → ByteArray → Int → Int → Bool → Option (Int × Int × Int)
  | 0, _, _, _, _ => none
  | k + 1, x0, x1, x2, x25 => if x25 = true then (some (0, 0, 2)) else ((line_into.f k x0 x1).bind fun bt110 => ((line_into.f k x0 x2).bind fun bt112 => (if bt112.2 < (x0.size : Int) then (some (bt110.1, wrap64 (bt112.2 + 1), 0)) else (if x1 > 0 then (some (wrap64 (bt110.1 - 1), bt112.2, 0)) else (some (0, (x0.size : Int), 0))))))
def line_Whole.f (k : Nat) (a0 : ByteArray) (a1 : Int) (a2 : Int) : Option (Int × Int × Int) := if a1 < 0 then (line_Whole.j0 k a0 a1 a2 true) else (if a2 < a1 then (line_Whole.j0 k a0 a1 a2 true) else ((line_Count.f a0).bind fun t109 => (line_Whole.j0 k a0 a1 a2 (decide (a2 ≥ t109)))))
theorem line_Whole.mono_l : ∀ k, (∀ y0 y1 y2 y3, LeO (line_Whole.j0 k y0 y1 y2 y3) (line_Whole.j0 (k + 1) y0 y1 y2 y3))
  | 0 => fun _ _ _ _ r h => by simp [line_Whole.j0] at h
  | k + 1 => by
    have ih0 := line_Whole.mono_l k
    · intro y0 y1 y2 y3
      unfold line_Whole.j0
      repeat' first
      | (with_reducible exact ih0 _ _ _ _)
      | (with_reducible exact line_into.mono _ _ _)
      | (with_reducible exact LeO.refl _)
      | (with_reducible exact LeO.none _)
      | (with_reducible refine LeO.ite ?_ ?_)
      | (with_reducible refine LeO.bind ?_ (fun _ => ?_))
      | exact ih0 _ _ _ _
      | exact line_into.mono _ _ _
      | exact LeO.none _
      | refine LeO.ite ?_ ?_
      | refine LeO.bind ?_ (fun _ => ?_)
theorem line_Whole.mono : ∀ a0 a1 a2 k, LeO (line_Whole.f k a0 a1 a2) (line_Whole.f (k + 1) a0 a1 a2) := by
  intro a0 a1 a2 k
  have ih0 := line_Whole.mono_l k
  unfold line_Whole.f
  repeat' first
      | (with_reducible exact ih0 _ _ _ _)
      | (with_reducible exact line_into.mono _ _ _)
      | (with_reducible exact LeO.refl _)
      | (with_reducible exact LeO.none _)
      | (with_reducible refine LeO.ite ?_ ?_)
      | (with_reducible refine LeO.bind ?_ (fun _ => ?_))
      | exact ih0 _ _ _ _
      | exact line_into.mono _ _ _
      | exact LeO.none _
      | refine LeO.ite ?_ ?_
      | refine LeO.bind ?_ (fun _ => ?_)
set_option maxHeartbeats 8000000 in
set_option maxRecDepth 100000 in
theorem line_Whole.calls (k : Nat) (a0 : ByteArray) (a1 : Int) (a2 : Int) (r1 : Int) (r2 : Int) (r3 : Int) (w : World) (h : line_Whole.f k a0 a1 a2 = some (r1, r2, r3)) (hTabs : Tabs w) :
    Calls Tryd.prog 22 #[.string a0, .int .i64 a1, .int .i64 a2] w fun e w' => e = .returned (.tuple #[.int .i64 r1, .int .i64 r2, .int .i64 r3]) ∧ Below w.heap.size w w' := by
  have HTABS := Aside0.mk hTabs
  clear hTabs
  have HB := Aside0.mk (Below.refl w.heap.size w)
  have H : (if a1 < 0 then (line_Whole.j0 k a0 a1 a2 true) else (if a2 < a1 then (line_Whole.j0 k a0 a1 a2 true) else ((line_Count.f a0).bind fun t109 => (line_Whole.j0 k a0 a1 a2 (decide (a2 ≥ t109)))))) = some (r1, r2, r3) := h
  clear h
  have HC4 := Aside0.mk H
  clear H
  go_enter Tryd.func22, Tryd.ntmps22
  go_upto_region 1 with (fail)
  go_cut [25] (fun v25 wc => ∃ (kq : Nat) (x25_3 : Bool), v25 = .bool x25_3 ∧ Aside0 (line_Whole.j0 kq a0 a1 a2 x25_3 = some (r1, r2, r3)) ∧ Aside0 (kq ≤ k) ∧ Aside0 (Below w.heap.size w wc))
  case first =>
    have H := HC4.out
    clear HC4
    by_cases c5 : a1 < 0
    · rw [if_pos c5] at H
      have c5b0 : decide (a1 < 0) = true := decide_eq_true c5
      clear c5
      (first | rw [c5b0] | (simp only [i64_w, i32_w]; rw [c5b0]) | skip)
      have H' := Aside0.mk H
      clear H
      go_wp2
      go_meet
      case rel => exact ⟨_, (true), (by first | rfl | (simp; done) | (simp [*]; done)), H', ⟨by first | omega | exact Nat.le_refl _⟩, ⟨by repeat (first | (with_reducible first | exact HB.out | apply below_alloc | apply pw_below_drewN | apply below_drew1) | exact HB.out)⟩⟩
    · rw [if_neg c5] at H
      have c5b0 : decide (a1 < 0) = false := decide_eq_false c5
      clear c5
      (first | rw [c5b0] | (simp only [i64_w, i32_w]; rw [c5b0]) | skip)
      by_cases c6 : a2 < a1
      · rw [if_pos c6] at H
        have c6b0 : decide (a2 < a1) = true := decide_eq_true c6
        clear c6
        have H' := Aside0.mk H
        clear H
        go_wp2
        go_meet
        case rel => exact ⟨_, (true), (by first | rfl | (simp; done) | (simp [*]; done)), H', ⟨by first | omega | exact Nat.le_refl _⟩, ⟨by repeat (first | (with_reducible first | exact HB.out | apply below_alloc | apply pw_below_drewN | apply below_drew1) | exact HB.out)⟩⟩
      · rw [if_neg c6] at H
        have c6b0 : decide (a2 < a1) = false := decide_eq_false c6
        clear c6
        replace H := Option.bind_eq_some_iff.mp H
        obtain ⟨t109, A70, H⟩ := H
        replace H : (line_Whole.j0 k a0 a1 a2 (decide (a2 ≥ t109))) = some (r1, r2, r3) := H
        have A7 := Aside0.mk A70
        clear A70
        have H' := Aside0.mk H
        clear H
        go_wp2_with (first | (go_at_call 55; (with_reducible refine (line_Count.calls a0 t109 _ A7.out ?sideT).mono ?_); (case sideT => first | exact HTABS.out | exact HTABS.out.below (by repeat (first | (with_reducible first | exact HB.out | apply below_alloc | apply pw_below_drewN | apply below_drew1) | refine below_set ?_ (Aside0.out (by assumption)) | exact HB.out)) (Nat.le_refl _) | exact HTABS.out.below (Below.drew (Below.refl _ _)) (Nat.le_refl _)); rintro e w8 ⟨rfl, hb⟩; have n0_ := Aside0.mk (below_step (by repeat (first | (with_reducible first | exact HB.out | apply below_alloc | apply pw_below_drewN | apply below_drew1) | exact HB.out)) hb); clear HB; have HB := n0_; clear n0_; (try clear hb); (try clear hb2); (try clear hk); (try clear hi)))
        go_meet
        case rel => exact ⟨_, (decide (a2 ≥ t109)), (by first | rfl | (simp; done) | (simp [*]; done)), H', ⟨by first | omega | exact Nat.le_refl _⟩, ⟨by repeat (first | (with_reducible first | exact HB.out | apply below_alloc | apply pw_below_drewN | apply below_drew1) | exact HB.out)⟩⟩
  case rest =>
    clear HC4
    try clear c2
    try clear p2
    try clear c5
    try clear c5b0
    try clear c6
    try clear c6b0
    obtain ⟨kq, x25_3, rfl, HA, HJ3, HB⟩ := hcut
    cases kq with
    | zero => exact absurd HA.out (by simp [line_Whole.j0])
    | succ kj3 =>
      have H := HA.out
      clear HA
      simp only [line_Whole.j0] at H
      by_cases c9 : x25_3 = true
      · subst c9
        have H1 : (some (0, 0, 2)) = some (r1, r2, r3) := by rw [if_pos rfl] at H; exact H
        clear H
        have H := H1
        clear H1
        simp only [Option.some.injEq, Prod.mk.injEq] at H
        obtain ⟨rfl, rfl, rfl⟩ := H
        go_wp2
        go_ret3
        exact ⟨by first | rfl | (simp [errW_none, errW_some] <;> rfl) | (simp [*, errW_none, errW_some] <;> rfl), by repeat (first | (with_reducible first | exact HB.out | apply below_alloc | apply pw_below_drewN | apply below_drew1) | exact HB.out)⟩
      · replace c9 := Bool.eq_false_iff.mpr c9
        subst c9
        have H1 : ((line_into.f kj3 a0 a1).bind fun bt110 => ((line_into.f kj3 a0 a2).bind fun bt112 => (if bt112.2 < (a0.size : Int) then (some (bt110.1, wrap64 (bt112.2 + 1), 0)) else (if a1 > 0 then (some (wrap64 (bt110.1 - 1), bt112.2, 0)) else (some (0, (a0.size : Int), 0)))))) = some (r1, r2, r3) := by rw [if_neg (show ¬ (false = true) by decide)] at H; exact H
        clear H
        have H := H1
        clear H1
        replace H := Option.bind_eq_some_iff.mp H
        obtain ⟨⟨t110, t111⟩, A100, H⟩ := H
        replace H : ((line_into.f kj3 a0 a2).bind fun bt112 => (if bt112.2 < (a0.size : Int) then (some (t110, wrap64 (bt112.2 + 1), 0)) else (if a1 > 0 then (some (wrap64 (t110 - 1), bt112.2, 0)) else (some (0, (a0.size : Int), 0))))) = some (r1, r2, r3) := H
        have A10 := Aside0.mk A100
        clear A100
        replace H := Option.bind_eq_some_iff.mp H
        obtain ⟨⟨t112, t113⟩, A110, H⟩ := H
        replace H : (if t113 < (a0.size : Int) then (some (t110, wrap64 (t113 + 1), 0)) else (if a1 > 0 then (some (wrap64 (t110 - 1), t113, 0)) else (some (0, (a0.size : Int), 0)))) = some (r1, r2, r3) := H
        have A11 := Aside0.mk A110
        clear A110
        by_cases c12 : t113 < (a0.size : Int)
        · rw [if_pos c12] at H
          have c12b0 : decide (t113 < (a0.size : Int)) = true := decide_eq_true c12
          clear c12
          simp only [Option.some.injEq, Prod.mk.injEq] at H
          obtain ⟨rfl, rfl, rfl⟩ := H
          go_wp2_with (first | ((with_reducible refine gate_callee (f := 56) rfl ?_); refine goesL_ (some 29) rfl rfl Tryd.func56 (by kernel_rfl) rfl #[.string a0, .int .i64 a1] rfl (by (try simp only [List.map_toArray, List.map_cons, List.map_nil]); first | done | rfl | (simp only [List.length_drop, List.length_take]; rfl)) ?_; (with_reducible refine (line_into.calls kj3 a0 a1 t110 t111 _ A10.out ?sideT).mono ?_); (case sideT => first | exact HTABS.out | exact HTABS.out.below (by repeat (first | (with_reducible first | exact HB.out | apply below_alloc | apply pw_below_drewN | apply below_drew1) | refine below_set ?_ (Aside0.out (by assumption)) | exact HB.out)) (Nat.le_refl _) | exact HTABS.out.below (Below.drew (Below.refl _ _)) (Nat.le_refl _)); rintro e w13 ⟨rfl, hb⟩; refine ⟨_, rfl, ?_⟩; have n0_ := Aside0.mk (below_step (by repeat (first | (with_reducible first | exact HB.out | apply below_alloc | apply pw_below_drewN | apply below_drew1) | exact HB.out)) hb); clear HB; have HB := n0_; clear n0_; (try clear hb); (try clear hb2); (try clear hk); (try clear hi)) | ((with_reducible refine gate_callee (f := 56) rfl ?_); refine goesL_ (some 35) rfl rfl Tryd.func56 (by kernel_rfl) rfl #[.string a0, .int .i64 a2] rfl (by (try simp only [List.map_toArray, List.map_cons, List.map_nil]); first | done | rfl | (simp only [List.length_drop, List.length_take]; rfl)) ?_; (with_reducible refine (line_into.calls kj3 a0 a2 t112 t113 _ A11.out ?sideT).mono ?_); (case sideT => first | exact HTABS.out | exact HTABS.out.below (by repeat (first | (with_reducible first | exact HB.out | apply below_alloc | apply pw_below_drewN | apply below_drew1) | refine below_set ?_ (Aside0.out (by assumption)) | exact HB.out)) (Nat.le_refl _) | exact HTABS.out.below (Below.drew (Below.refl _ _)) (Nat.le_refl _)); rintro e w14 ⟨rfl, hb⟩; refine ⟨_, rfl, ?_⟩; have n0_ := Aside0.mk (below_step (by repeat (first | (with_reducible first | exact HB.out | apply below_alloc | apply pw_below_drewN | apply below_drew1) | exact HB.out)) hb); clear HB; have HB := n0_; clear n0_; (try clear hb); (try clear hb2); (try clear hk); (try clear hi)))
          go_ret3
          exact ⟨by first | rfl | (simp [errW_none, errW_some] <;> rfl) | (simp [*, errW_none, errW_some] <;> rfl), by repeat (first | (with_reducible first | exact HB.out | apply below_alloc | apply pw_below_drewN | apply below_drew1) | exact HB.out)⟩
        · rw [if_neg c12] at H
          have c12b0 : decide (t113 < (a0.size : Int)) = false := decide_eq_false c12
          clear c12
          by_cases c15 : a1 > 0
          · rw [if_pos c15] at H
            have c15b0 : decide (0 < a1) = true := decide_eq_true c15
            clear c15
            simp only [Option.some.injEq, Prod.mk.injEq] at H
            obtain ⟨rfl, rfl, rfl⟩ := H
            go_wp2_with (first | ((with_reducible refine gate_callee (f := 56) rfl ?_); refine goesL_ (some 29) rfl rfl Tryd.func56 (by kernel_rfl) rfl #[.string a0, .int .i64 a1] rfl (by (try simp only [List.map_toArray, List.map_cons, List.map_nil]); first | done | rfl | (simp only [List.length_drop, List.length_take]; rfl)) ?_; (with_reducible refine (line_into.calls kj3 a0 a1 t110 t111 _ A10.out ?sideT).mono ?_); (case sideT => first | exact HTABS.out | exact HTABS.out.below (by repeat (first | (with_reducible first | exact HB.out | apply below_alloc | apply pw_below_drewN | apply below_drew1) | refine below_set ?_ (Aside0.out (by assumption)) | exact HB.out)) (Nat.le_refl _) | exact HTABS.out.below (Below.drew (Below.refl _ _)) (Nat.le_refl _)); rintro e w16 ⟨rfl, hb⟩; refine ⟨_, rfl, ?_⟩; have n0_ := Aside0.mk (below_step (by repeat (first | (with_reducible first | exact HB.out | apply below_alloc | apply pw_below_drewN | apply below_drew1) | exact HB.out)) hb); clear HB; have HB := n0_; clear n0_; (try clear hb); (try clear hb2); (try clear hk); (try clear hi)) | ((with_reducible refine gate_callee (f := 56) rfl ?_); refine goesL_ (some 35) rfl rfl Tryd.func56 (by kernel_rfl) rfl #[.string a0, .int .i64 a2] rfl (by (try simp only [List.map_toArray, List.map_cons, List.map_nil]); first | done | rfl | (simp only [List.length_drop, List.length_take]; rfl)) ?_; (with_reducible refine (line_into.calls kj3 a0 a2 t112 t113 _ A11.out ?sideT).mono ?_); (case sideT => first | exact HTABS.out | exact HTABS.out.below (by repeat (first | (with_reducible first | exact HB.out | apply below_alloc | apply pw_below_drewN | apply below_drew1) | refine below_set ?_ (Aside0.out (by assumption)) | exact HB.out)) (Nat.le_refl _) | exact HTABS.out.below (Below.drew (Below.refl _ _)) (Nat.le_refl _)); rintro e w17 ⟨rfl, hb⟩; refine ⟨_, rfl, ?_⟩; have n0_ := Aside0.mk (below_step (by repeat (first | (with_reducible first | exact HB.out | apply below_alloc | apply pw_below_drewN | apply below_drew1) | exact HB.out)) hb); clear HB; have HB := n0_; clear n0_; (try clear hb); (try clear hb2); (try clear hk); (try clear hi)))
            go_ret3
            exact ⟨by first | rfl | (simp [errW_none, errW_some] <;> rfl) | (simp [*, errW_none, errW_some] <;> rfl), by repeat (first | (with_reducible first | exact HB.out | apply below_alloc | apply pw_below_drewN | apply below_drew1) | exact HB.out)⟩
          · rw [if_neg c15] at H
            have c15b0 : decide (0 < a1) = false := decide_eq_false c15
            clear c15
            simp only [Option.some.injEq, Prod.mk.injEq] at H
            obtain ⟨rfl, rfl, rfl⟩ := H
            go_wp2_with (first | ((with_reducible refine gate_callee (f := 56) rfl ?_); refine goesL_ (some 29) rfl rfl Tryd.func56 (by kernel_rfl) rfl #[.string a0, .int .i64 a1] rfl (by (try simp only [List.map_toArray, List.map_cons, List.map_nil]); first | done | rfl | (simp only [List.length_drop, List.length_take]; rfl)) ?_; (with_reducible refine (line_into.calls kj3 a0 a1 t110 t111 _ A10.out ?sideT).mono ?_); (case sideT => first | exact HTABS.out | exact HTABS.out.below (by repeat (first | (with_reducible first | exact HB.out | apply below_alloc | apply pw_below_drewN | apply below_drew1) | refine below_set ?_ (Aside0.out (by assumption)) | exact HB.out)) (Nat.le_refl _) | exact HTABS.out.below (Below.drew (Below.refl _ _)) (Nat.le_refl _)); rintro e w18 ⟨rfl, hb⟩; refine ⟨_, rfl, ?_⟩; have n0_ := Aside0.mk (below_step (by repeat (first | (with_reducible first | exact HB.out | apply below_alloc | apply pw_below_drewN | apply below_drew1) | exact HB.out)) hb); clear HB; have HB := n0_; clear n0_; (try clear hb); (try clear hb2); (try clear hk); (try clear hi)) | ((with_reducible refine gate_callee (f := 56) rfl ?_); refine goesL_ (some 35) rfl rfl Tryd.func56 (by kernel_rfl) rfl #[.string a0, .int .i64 a2] rfl (by (try simp only [List.map_toArray, List.map_cons, List.map_nil]); first | done | rfl | (simp only [List.length_drop, List.length_take]; rfl)) ?_; (with_reducible refine (line_into.calls kj3 a0 a2 t112 t113 _ A11.out ?sideT).mono ?_); (case sideT => first | exact HTABS.out | exact HTABS.out.below (by repeat (first | (with_reducible first | exact HB.out | apply below_alloc | apply pw_below_drewN | apply below_drew1) | refine below_set ?_ (Aside0.out (by assumption)) | exact HB.out)) (Nat.le_refl _) | exact HTABS.out.below (Below.drew (Below.refl _ _)) (Nat.le_refl _)); rintro e w19 ⟨rfl, hb⟩; refine ⟨_, rfl, ?_⟩; have n0_ := Aside0.mk (below_step (by repeat (first | (with_reducible first | exact HB.out | apply below_alloc | apply pw_below_drewN | apply below_drew1) | exact HB.out)) hb); clear HB; have HB := n0_; clear n0_; (try clear hb); (try clear hb2); (try clear hk); (try clear hi)))
            go_ret3
            exact ⟨by first | rfl | (simp [errW_none, errW_some] <;> rfl) | (simp [*, errW_none, errW_some] <;> rfl), by repeat (first | (with_reducible first | exact HB.out | apply below_alloc | apply pw_below_drewN | apply below_drew1) | exact HB.out)⟩


end Go.Proofs.YtpajakfmahfpkaaDoor.HelpA
