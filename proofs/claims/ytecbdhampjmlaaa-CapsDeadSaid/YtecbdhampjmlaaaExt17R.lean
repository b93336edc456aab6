/- caps: what Live answers, as a row of Lv. -/
import Derived.Test.YtecbdhampjmlaaaExt17M
import Derived.Test.YtecbdhampjmlaaaXCapsActsx7
import Derived.Test.YtecbdhampjmlaaaWMore
import Derived.WalkKit
import Derived.WalkMore
import Derived.Below
import Derived.KernelRfl
import Derived.LoopTactic
import Derived.Deep.RegionWith
import Derived.Deep.RegionHeld3
import Derived.IntWalk
import Derived.Deep.DeepCutAuto
import Derived.Deep.CutBlock
import Derived.BigQuiet
import Derived.Laws.RangeString
import Derived.Laws.RangeAny
import Derived.Laws.Rows
import Derived.Laws.Runes
import Derived.Lib.OthersKept
import Derived.OpenShut
set_option linter.unusedVariables false
set_option linter.unusedSimpArgs false
namespace Go.Proofs.Ytecbdhampjmlaaa.Ext
open Go.RowKit Go.Lib Go.Proofs.YtecbdhampjmlaaaW.PrintWords Go.Proofs.YtecbdhampjmlaaaW.PrintMore Go.Proofs.Ytecbdhampjmlaaa.XCapsActs

abbrev LvR (w : World) (base : Nat) (v : Value) (xs : List Lv) : Prop := Kd.R k39 39 w base (fun _ => True) v (xs.map s39)
theorem lv_cells {w : World} {A : Option Addr} {n : Nat} {xs : List Lv} (hn : n = xs.length) (h : Kd.C k39 w A n (xs.map s39)) (q : Nat) (hq : q < xs.length) : ∃ ad, A = some ad ∧ w.cell? (ad.add (q * 7)) = some (.int .i64 xs[q].ks) ∧ w.cell? ⟨(ad.add (q * 7)).block, (ad.add (q * 7)).off + 1, none⟩ = some (.int .i64 xs[q].kg) ∧ w.cell? ⟨(ad.add (q * 7)).block, (ad.add (q * 7)).off + 2, none⟩ = some (.int .i64 xs[q].cap.obj) ∧ w.cell? ⟨(ad.add (q * 7)).block, (ad.add (q * 7)).off + 3, none⟩ = some (.int .i64 xs[q].cap.rights) ∧ w.cell? ⟨(ad.add (q * 7)).block, (ad.add (q * 7)).off + 4, none⟩ = some (.int .i64 xs[q].cap.owner) ∧ w.cell? ⟨(ad.add (q * 7)).block, (ad.add (q * 7)).off + 5, none⟩ = some (.int .i64 xs[q].cap.us) ∧ w.cell? ⟨(ad.add (q * 7)).block, (ad.add (q * 7)).off + 6, none⟩ = some (.int .i64 xs[q].cap.ug) := by
  subst hn
  obtain ⟨ad, eA, hx0, hx1, hx2, hx3, hx4, hx5, hx6⟩ := at_T39 h (q : Int) (by omega) (by omega)
  have erd : rd_T39 (xs.map s39) (q : Int) = s39 xs[q] := by
    unfold rd_T39
    rw [Int.toNat_natCast, List.getD_eq_getElem?_getD, List.getElem?_map, List.getElem?_eq_getElem hq]
    rfl
  rw [erd, Int.toNat_natCast] at hx0 hx1 hx2 hx3 hx4 hx5 hx6
  exact ⟨ad, eA, hx0, hx1, hx2, hx3, hx4, hx5, hx6⟩
theorem live_r (R B : Nat) (l : List Sl) (g : Int) (w : World) (h : TRow w R B l g) :
    Calls Try.prog 12 #[.pointer (some ⟨R, 0, none⟩)] w fun e w' => ∃ (A : Option Addr) (c : Nat), e = .returned (.slice A (liveZ l).length c) ∧ LvR w' w.heap.size (.slice A (liveZ l).length c) (liveZ l) ∧ Below w.heap.size w w' := by
  refine (Live_w R B l g w h).mono ?_
  rintro e w' ⟨v, rfl, hr, hb⟩
  obtain ⟨A, c, e⟩ := Kd.R_slice hr
  rw [List.length_map] at e
  subst e
  exact ⟨A, c, rfl, hr, hb⟩
theorem LvR.cells {w : World} {base : Nat} {A : Option Addr} {n c : Nat} {xs : List Lv} (h : LvR w base (.slice A n c) xs) (q : Nat) (hq : q < xs.length) : ∃ ad, A = some ad ∧ w.cell? (ad.add (q * 7)) = some (.int .i64 xs[q].ks) ∧ w.cell? ⟨(ad.add (q * 7)).block, (ad.add (q * 7)).off + 1, none⟩ = some (.int .i64 xs[q].kg) ∧ w.cell? ⟨(ad.add (q * 7)).block, (ad.add (q * 7)).off + 2, none⟩ = some (.int .i64 xs[q].cap.obj) ∧ w.cell? ⟨(ad.add (q * 7)).block, (ad.add (q * 7)).off + 3, none⟩ = some (.int .i64 xs[q].cap.rights) ∧ w.cell? ⟨(ad.add (q * 7)).block, (ad.add (q * 7)).off + 4, none⟩ = some (.int .i64 xs[q].cap.owner) ∧ w.cell? ⟨(ad.add (q * 7)).block, (ad.add (q * 7)).off + 5, none⟩ = some (.int .i64 xs[q].cap.us) ∧ w.cell? ⟨(ad.add (q * 7)).block, (ad.add (q * 7)).off + 6, none⟩ = some (.int .i64 xs[q].cap.ug) := by
  obtain ⟨A2, c2, e, hc, hr⟩ := Kd.R_reads h
  cases e
  rw [List.length_map] at hr
  exact lv_cells rfl hr q hq
theorem keep_row2 {α : Type} {d : Kd α} {e base B : Nat} {ok : Nat → Prop} {w w' : World} {v : Value} {xs : List α} {cs : Array Value} {t : TypeId} (h : d.R e w base ok v xs) (hB : w.heap[B]? = some (.cells cs t (0, 0))) (ht : ∀ q, q ∈ e :: d.E → q ≠ t) (hG : w.grownBy w' (some B)) : d.R e w' base ok v xs :=
  Kd.R_mono (Kd.R_step (Kd.R_bound h) (fun k hk hlt => hG.block k hlt (fun eq => by
    injection eq with eq
    subst eq
    obtain ⟨q, hq, cells, hc⟩ := hk.2.2.2
    rw [hB] at hc
    injection hc with hc
    injection hc with _ hc2
    exact ht q hq hc2.symm))) (fun _ hk => hk.1)
theorem LvR.below {w w' : World} {base : Nat} {v : Value} {xs : List Lv} (h : LvR w base v xs) (hb : Below w.heap.size w w') : LvR w' base v xs := Kd.R_below h hb
theorem LvR.only {w w' : World} {base R B : Nat} {v : Value} {xs : List Lv} {l : List Sl} {g : Int} (h : LvR w base v xs) (ht : TRow w R B l g) (hG : w.grownBy w' (some B)) : LvR w' base v xs := keep_row2 h ht.b (by decide) hG
theorem liveZ_le (l : List Sl) : (liveZ l).length ≤ l.length := by
  rw [show (liveZ l).length = lives l from liveFrom_len l 0]; exact lives_len l

end Go.Proofs.Ytecbdhampjmlaaa.Ext
