-- Written by this session's program (wip/xprint.py) with the kit's print, for this claim.
import Derived.Test.YtgaggoglbkcomaaProg
import Derived.Below
import Derived.Deep.Draws
import Derived.Deep.AppendLies
import Derived.Maps.AppendAt
import Derived.OwnWalk
import Derived.Laws.BytesArg
import Derived.Laws.MakeOwn
import Derived.Laws.OwnMore
import Derived.Deep.OwnRows
import Derived.Tactics
import Derived.Lib.ConvBytes
import Derived.Laws.Slices
import Derived.WalkKit
import Derived.KernelRfl
import Derived.RowKit3
import Derived.Deep.LoopGhost
import Derived.Deep.QuietTactic
import Derived.BigQuiet
import Derived.WideLaws
import Derived.Deep.DeepCutAuto
import Derived.Deep.CutBlock
import Derived.Deep.RegionHeld3
import Derived.Laws.Rows
import Derived.Lib.AppendStr
import Derived.ArgAppend
import Derived.Laws.IdiomCopy
import Derived.OrdersHeld
import Derived.Laws.BitsLemmas
import Derived.RowKit
import Derived.Test.YtgaggoglbkcomaaExt05JL
import Derived.Test.YtgaggoglbkcomaaXRRx0
import Derived.Test.YtgaggoglbkcomaaWWords
import Derived.Test.YtgaggoglbkcomaaWLast
import Derived.Test.YtgaggoglbkcomaaWTab
import Derived.Test.YtgaggoglbkcomaaWFour
import Derived.Test.YtgaggoglbkcomaaWQPut
import Derived.Test.YtgaggoglbkcomaaWApart
import Derived.Test.YtgaggoglbkcomaaWArr
import Derived.Test.YtgaggoglbkcomaaWZeros
import Derived.Test.YtgaggoglbkcomaaWFoot
import Derived.Test.YtgaggoglbkcomaaWKept
import Derived.Test.YtgaggoglbkcomaaWShare
import Derived.Test.YtgaggoglbkcomaaWN
import Derived.Test.YtgaggoglbkcomaaWFootNe
import Derived.Test.YtgaggoglbkcomaaWAt
import Derived.Test.YtgaggoglbkcomaaWEqStruct
import Derived.Test.YtgaggoglbkcomaaWRepsOne
import Derived.Test.YtgaggoglbkcomaaWInv
import Derived.Test.YtgaggoglbkcomaaWInvWords
import Derived.Test.YtgaggoglbkcomaaWGuard
import Derived.Test.YtgaggoglbkcomaaWNEv
import Derived.Test.YtgaggoglbkcomaaWMore
namespace Go.Proofs.Ytgaggoglbkcomaa.XPC
open Go.RowKit Go.Proofs.YtgaggoglbkcomaaW.PrintWords Go.Proofs.YtgaggoglbkcomaaW.PrintLast Go.Proofs.YtgaggoglbkcomaaW.PrintMore Go.Proofs.Ytgaggoglbkcomaa.Ext Go.Proofs.Ytgaggoglbkcomaa.XRR
attribute [local go_sem] max2_int min2_int max_two min_two max_three min_three max_four min_four   -- for this text's walks alone
set_option linter.unusedVariables false
set_option linter.unusedSimpArgs false



-- the values' own types
/-! #### struct type 29 -/
/-! #### struct type 24 -/
structure S24 where
  f0 : ByteArray
  f1 : (List S29)
def z24 : S24 := ⟨(⟨#[]⟩ : ByteArray), ([] : List S29)⟩
def k24 : Kd S24 := Kd.iso (Kd.pair Kd.string (Kd.slice 29 k29)) (fun x : S24 => (x.f0, x.f1))
theorem k24_open {w : World} {x : S24} {cs : List Value} (h : k24.K w x cs) : ∃ A1 c1, cs = [.string x.f0, .slice A1 x.f1.length c1] ∧ x.f1.length ≤ c1 ∧ k29.C w A1 x.f1.length x.f1 := by
  obtain ⟨_, _, rfl, rfl, ⟨A1, c1, rfl, l1, g1⟩⟩ := h
  exact ⟨A1, c1, rfl, l1, g1⟩
theorem k24_openM {w : World} {base : Nat} {ok : Nat → Prop} {x : S24} {cs : List Value} (h : k24.M w base ok x cs) : ∃ v1, cs = [.string x.f0, v1] ∧ k29.R 29 w base ok v1 x.f1 := by
  obtain ⟨_, _, rfl, rfl, ⟨v1, rfl, g1⟩⟩ := h
  exact ⟨v1, rfl, g1⟩
theorem k24_mk (w : World) (x : S24) {A1 : Option Addr} {c1 : Nat} (l1 : x.f1.length ≤ c1) (g1 : k29.C w A1 x.f1.length x.f1) : k24.K w x [.string x.f0, .slice A1 x.f1.length c1] := ⟨[.string x.f0], [.slice A1 x.f1.length c1], rfl, rfl, ⟨A1, c1, rfl, l1, g1⟩⟩
theorem k24_mkM (w : World) (base : Nat) (ok : Nat → Prop) (x : S24) {v1 : Value} (g1 : k29.R 29 w base ok v1 x.f1) : k24.M w base ok x [.string x.f0, v1] := ⟨[.string x.f0], [v1], rfl, rfl, ⟨v1, rfl, g1⟩⟩
def rd_T24 (xs : List S24) (i : Int) : S24 := xs.getD i.toNat z24
theorem at_T24 {w : World} {A : Option Addr} {n : Nat} {xs : List S24} (h : Kd.C k24 w A n xs) (i : Int) (h0 : 0 ≤ i) (h1 : i < n) : ∃ ad A1 c1, A = some ad ∧ w.cell? (ad.add (i.toNat * 2)) = some (.string (rd_T24 xs i).f0) ∧ w.cell? ⟨(ad.add (i.toNat * 2)).block, (ad.add (i.toNat * 2)).off + 1, none⟩ = some (.slice A1 (rd_T24 xs i).f1.length c1) ∧ (rd_T24 xs i).f1.length ≤ c1 ∧ k29.C w A1 (rd_T24 xs i).f1.length (rd_T24 xs i).f1 := by
  obtain ⟨ad, c, e, _, hK, hc0⟩ := Kd.C_get h z24 i h0 h1
  have hc : ∀ j u, c[j]? = some u → w.cell? (ad.add (i.toNat * 2 + j)) = some u := hc0
  obtain ⟨A1, c1, rfl, l1, g1⟩ := k24_open hK
  exact ⟨ad, A1, c1, e, hc 0 _ rfl, by rw [← add_field _ _ 1 (by omega)]; exact hc 1 _ rfl, l1, g1⟩

/-! #### struct type 48 -/
structure S48 where
  f0 : Int
  f1 : Int
  f2 : S24
  f3 : Bool
  f4 : Bool
def z48 : S48 := ⟨(0 : Int), (0 : Int), z24, false, false⟩
def k48 : Kd S48 := Kd.iso (Kd.pair (Kd.int .i64) (Kd.pair (Kd.int .i64) (Kd.pair k24 (Kd.pair Kd.bool Kd.bool)))) (fun x : S48 => (x.f0, x.f1, x.f2, x.f3, x.f4))
theorem k48_open {w : World} {x : S48} {cs : List Value} (h : k48.K w x cs) : ∃ A3 c3, cs = [.int .i64 x.f0, .int .i64 x.f1, .string x.f2.f0, .slice A3 x.f2.f1.length c3, .bool x.f3, .bool x.f4] ∧ x.f2.f1.length ≤ c3 ∧ k29.C w A3 x.f2.f1.length x.f2.f1 := by
  obtain ⟨_, _, rfl, rfl, ⟨_, _, rfl, rfl, ⟨_, _, rfl, s2, ⟨_, _, rfl, rfl, rfl⟩⟩⟩⟩ := h
  obtain ⟨A3, c3, rfl, l3, g3⟩ := k24_open s2
  exact ⟨A3, c3, rfl, l3, g3⟩
theorem k48_openM {w : World} {base : Nat} {ok : Nat → Prop} {x : S48} {cs : List Value} (h : k48.M w base ok x cs) : ∃ v3, cs = [.int .i64 x.f0, .int .i64 x.f1, .string x.f2.f0, v3, .bool x.f3, .bool x.f4] ∧ k29.R 29 w base ok v3 x.f2.f1 := by
  obtain ⟨_, _, rfl, rfl, ⟨_, _, rfl, rfl, ⟨_, _, rfl, s2, ⟨_, _, rfl, rfl, rfl⟩⟩⟩⟩ := h
  obtain ⟨v3, rfl, g3⟩ := k24_openM s2
  exact ⟨v3, rfl, g3⟩
theorem k48_mk (w : World) (x : S48) {A3 : Option Addr} {c3 : Nat} (l3 : x.f2.f1.length ≤ c3) (g3 : k29.C w A3 x.f2.f1.length x.f2.f1) : k48.K w x [.int .i64 x.f0, .int .i64 x.f1, .string x.f2.f0, .slice A3 x.f2.f1.length c3, .bool x.f3, .bool x.f4] := ⟨[.int .i64 x.f0], [.int .i64 x.f1, .string x.f2.f0, .slice A3 x.f2.f1.length c3, .bool x.f3, .bool x.f4], rfl, rfl, ⟨[.int .i64 x.f1], [.string x.f2.f0, .slice A3 x.f2.f1.length c3, .bool x.f3, .bool x.f4], rfl, rfl, ⟨[.string x.f2.f0, .slice A3 x.f2.f1.length c3], [.bool x.f3, .bool x.f4], rfl, (k24_mk w x.f2 l3 g3), ⟨[.bool x.f3], [.bool x.f4], rfl, rfl, rfl⟩⟩⟩⟩
theorem k48_mkM (w : World) (base : Nat) (ok : Nat → Prop) (x : S48) {v3 : Value} (g3 : k29.R 29 w base ok v3 x.f2.f1) : k48.M w base ok x [.int .i64 x.f0, .int .i64 x.f1, .string x.f2.f0, v3, .bool x.f3, .bool x.f4] := ⟨[.int .i64 x.f0], [.int .i64 x.f1, .string x.f2.f0, v3, .bool x.f3, .bool x.f4], rfl, rfl, ⟨[.int .i64 x.f1], [.string x.f2.f0, v3, .bool x.f3, .bool x.f4], rfl, rfl, ⟨[.string x.f2.f0, v3], [.bool x.f3, .bool x.f4], rfl, (k24_mkM w base ok x.f2 g3), ⟨[.bool x.f3], [.bool x.f4], rfl, rfl, rfl⟩⟩⟩⟩
def rd_T48 (xs : List S48) (i : Int) : S48 := xs.getD i.toNat z48
theorem at_T48 {w : World} {A : Option Addr} {n : Nat} {xs : List S48} (h : Kd.C k48 w A n xs) (i : Int) (h0 : 0 ≤ i) (h1 : i < n) : ∃ ad A3 c3, A = some ad ∧ w.cell? (ad.add (i.toNat * 6)) = some (.int .i64 (rd_T48 xs i).f0) ∧ w.cell? ⟨(ad.add (i.toNat * 6)).block, (ad.add (i.toNat * 6)).off + 1, none⟩ = some (.int .i64 (rd_T48 xs i).f1) ∧ w.cell? ⟨(ad.add (i.toNat * 6)).block, (ad.add (i.toNat * 6)).off + 2, none⟩ = some (.string (rd_T48 xs i).f2.f0) ∧ w.cell? ⟨(ad.add (i.toNat * 6)).block, (ad.add (i.toNat * 6)).off + 3, none⟩ = some (.slice A3 (rd_T48 xs i).f2.f1.length c3) ∧ w.cell? ⟨(ad.add (i.toNat * 6)).block, (ad.add (i.toNat * 6)).off + 4, none⟩ = some (.bool (rd_T48 xs i).f3) ∧ w.cell? ⟨(ad.add (i.toNat * 6)).block, (ad.add (i.toNat * 6)).off + 5, none⟩ = some (.bool (rd_T48 xs i).f4) ∧ (rd_T48 xs i).f2.f1.length ≤ c3 ∧ k29.C w A3 (rd_T48 xs i).f2.f1.length (rd_T48 xs i).f2.f1 := by
  obtain ⟨ad, c, e, _, hK, hc0⟩ := Kd.C_get h z48 i h0 h1
  have hc : ∀ j u, c[j]? = some u → w.cell? (ad.add (i.toNat * 6 + j)) = some u := hc0
  obtain ⟨A3, c3, rfl, l3, g3⟩ := k48_open hK
  exact ⟨ad, A3, c3, e, hc 0 _ rfl, by rw [← add_field _ _ 1 (by omega)]; exact hc 1 _ rfl, by rw [← add_field _ _ 2 (by omega)]; exact hc 2 _ rfl, by rw [← add_field _ _ 3 (by omega)]; exact hc 3 _ rfl, by rw [← add_field _ _ 4 (by omega)]; exact hc 4 _ rfl, by rw [← add_field _ _ 5 (by omega)]; exact hc 5 _ rfl, l3, g3⟩

end Go.Proofs.Ytgaggoglbkcomaa.XPC
