/- strings.Builder's Write, by hand: what it leaves, block by block. Pieces: a store in memory, and the pieces of some bytes. The text that pieces tell: plain laws. Runs that are copied; two lists of runs put together. -/
import Derived.Test.YtgaggoglbkcomaaExtSC
import Derived.Test.YtgaggoglbkcomaaXRRx5
import Derived.Test.YtgaggoglbkcomaaXRRx0
import Derived.Test.YtgaggoglbkcomaaWMore
import Derived.Lib.Builder
import Derived.Laws.Externs
import Derived.Lib.Walk
import Derived.Laws.AppendOwn
import Derived.WalkKit
import Derived.WalkMore
import Derived.Below
import Derived.KernelRfl
import Derived.LoopTactic
import Derived.Deep.RegionWith
import Derived.Deep.RegionHeld3
import Derived.IntWalk
import Derived.Deep.DeepCutAuto
import Derived.Deep.CutBlock
import Derived.BigQuiet
import Derived.Laws.RangeString
import Derived.Laws.RangeAny
import Derived.Laws.Rows
import Derived.Laws.Runes
import Derived.Lib.OthersKept
import Derived.OpenShut
import Derived.Test.YtgaggoglbkcomaaXRRx2
import Derived.Laws.CopyRow
set_option linter.unusedVariables false
set_option linter.unusedSimpArgs false
namespace Go.Proofs.Ytgaggoglbkcomaa.Ext
open Go.RowKit Go.Lib Go.Proofs.YtgaggoglbkcomaaW.PrintWords Go.Proofs.YtgaggoglbkcomaaW.PrintMore Go.Proofs.Ytgaggoglbkcomaa.XRR

set_option maxHeartbeats 1000000 in
set_option maxRecDepth 100000 in
theorem cc_used (b : Nat) (w : World) (h0 : w.cell? ⟨b, 0, none⟩ = some (.pointer (some ⟨b, 0, none⟩))) :
    Calls Try.prog 52 #[.pointer (some ⟨b, 0, none⟩)] w fun e w' => e = .returned (.tuple #[]) ∧ w' = w := by
  obtain ⟨j, hj, _⟩ := Option.map_eq_some_iff.1 (show (Try.prog.info? 86).map (·.size) = some 2 by kernel_rfl)
  go_enter Try.func52, Try.ntmps52
  go_wp2
  rw [Lib.run_neq_ptr_same w _ Try.underlying84 hj]
  go_wp2
  go_end0
  exact ⟨rfl, rfl⟩
set_option maxHeartbeats 1000000 in
set_option maxRecDepth 100000 in
theorem cc_fresh (b : Nat) (w : World) (h0 : w.cell? ⟨b, 0, none⟩ = some (.pointer none)) (hsh : w.shape? b = some (86, 2)) (hfz : w.frozen? ⟨b, 0, none⟩ = false) :
    Calls Try.prog 52 #[.pointer (some ⟨b, 0, none⟩)] w fun e w' => e = .returned (.tuple #[]) ∧ w' = w.setCell ⟨b, 0, none⟩ (.pointer (some ⟨b, 0, none⟩)) := by
  obtain ⟨j, hj, hjs⟩ := Option.map_eq_some_iff.1 (show (Try.prog.info? 86).map (·.size) = some 2 by kernel_rfl)
  go_enter Try.func52, Try.ntmps52
  go_wp2
  rw [Lib.run_to_unsafe w ⟨b, 0, none⟩ Try.underlying84 Try.underlying107 hj (by rw [hjs]; decide) hsh (Nat.zero_lt_succ 1)]
  simp only [Result.andThen]
  rw [Oper.upon_value]
  go_wp2
  rw [run_callFunc_extern Try.func58 (by kernel_rfl) (by kernel_rfl) (by kernel_rfl) (e := Extern.AbiNoEscape.same) (by kernel_rfl)]
  rw [Lib.run_noEscape]
  simp only [Result.andThen]
  rw [Oper.upon_value]
  go_wp2
  rw [Lib.run_from_unsafe w ⟨b, 0, none⟩ Try.underlying107 Try.underlying84 hj hsh (by kernel_rfl)]
  simp only [Result.andThen]
  rw [Oper.upon_value]
  go_wp2
  go_end0
  exact ⟨rfl, rfl⟩
/-- What has turned lies in blocks of S. -/
structure Kp (S : Nat → Prop) (w w' : World) : Prop where
  size : w.heap.size ≤ w'.heap.size
  block : ∀ k, k < w.heap.size → ¬ S k → w'.heap[k]? = w.heap[k]?
theorem Kp.refl (S : Nat → Prop) (w : World) : Kp S w w := ⟨Nat.le_refl _, fun _ _ _ => rfl⟩
theorem Kp.trans {S S' T : Nat → Prop} {w w1 w2 : World} (h : Kp S w w1) (k : Kp S' w1 w2) (hS : ∀ i, S i → T i) (hS' : ∀ i, i < w.heap.size → S' i → T i) : Kp T w w2 :=
  ⟨Nat.le_trans h.size k.size, fun i hi hn => (k.block i (Nat.lt_of_lt_of_le hi h.size) (fun hs => hn (hS' i hi hs))).trans (h.block i hi (fun hs => hn (hS i hs)))⟩
theorem Kp.of_below {S : Nat → Prop} {w w' : World} (h : Below w.heap.size w w') : Kp S w w' := ⟨h.size, fun k hk _ => h.block k hk⟩
theorem Kp.grown {w w' : World} {v : Value} (h : w.grownBy w' v.ownBlock) : Kp (fun k => v.ownBlock = some k) w w' := ⟨h.size, fun k hk hn => h.block k hk (fun e => hn e.symm)⟩
theorem Kp.set (w : World) (p i : Nat) (u : Value) : Kp (fun k => k = p) w (w.setCell ⟨p, i, none⟩ u) := ⟨by simp [World.setCell], fun k _ hn => Below.heap_setCell _ _ _ _ (fun e => hn (by simp [e]))⟩
theorem Kp.mono {S T : Nat → Prop} {w w' : World} (h : Kp S w w') (hS : ∀ i, S i → T i) : Kp T w w' := ⟨h.size, fun k hk hn => h.block k hk (fun hs => hn (hS k hs))⟩
/-- Rows of other types outlive it. -/
theorem R_keep {α : Type} {d : Kd α} {e base : Nat} {ok : Nat → Prop} {w w' : World} {v : Value} {xs : List α} {S : Nat → Prop} (h : d.R e w base ok v xs) (hk : Kp S w w') (ht : ∀ k, S k → ∀ q, q ∈ e :: d.E → ∀ cells, w.heap[k]? ≠ some (.cells cells q (0, 0))) : d.R e w' base ok v xs :=
  Kd.R_mono (Kd.R_step (Kd.R_bound h) (fun k hb hlt => hk.block k hlt (fun hs => by
    obtain ⟨_, _, _, q, hq, cells, hc⟩ := hb
    exact ht k hs q hq cells hc))) (fun _ hb => hb.1)
/-- A builder in a block of its own. -/
structure BS (base : Nat) (w : World) (b : Nat) (p v : Value) (bs : List Value) : Prop where
  le : base ≤ b
  x : w.heap[b]? = some (.cells #[p, v] 86 (0, 0))
  o : w.ownsRow base 5 1 v bs.length bs
  ne : v.ownBlock ≠ some b
theorem BS.lt {base : Nat} {w : World} {b : Nat} {p v : Value} {bs : List Value} (h : BS base w b p v bs) : b < w.heap.size := (Array.getElem?_eq_some_iff.1 h.x).1
theorem BS.set0 {base : Nat} {w : World} {b : Nat} {p v : Value} {bs : List Value} (h : BS base w b p v bs) (q : Value) : BS base (w.setCell ⟨b, 0, none⟩ q) b q v bs :=
  ⟨h.le, heap_setCell_same w b 0 _ _ q h.x, h.o.kept (row := some b) ⟨rfl, rfl, rfl, by simp [World.setCell], fun k _ hk => Below.heap_setCell _ _ _ _ (fun e => hk (by simp [e]))⟩ (Or.inr h.ne), h.ne⟩
theorem cc_w (base b : Nat) (p v : Value) (bs : List Value) (w : World) (h : BS base w b p v bs) (hp : p = .pointer none ∨ p = .pointer (some ⟨b, 0, none⟩)) :
    Calls Try.prog 52 #[.pointer (some ⟨b, 0, none⟩)] w fun e w' => e = .returned (.tuple #[]) ∧ BS base w' b (.pointer (some ⟨b, 0, none⟩)) v bs ∧ Kp (fun k => k = b) w w' ∧ Below base w w' := by
  rcases hp with rfl | rfl
  · refine (cc_fresh b w (cell_of_row w b 0 _ _ _ h.x) (by simp [World.shape?, h.x]) (frozen_of_row _ b 0 _ _ h.x)).mono ?_
    rintro e w' ⟨rfl, rfl⟩
    exact ⟨rfl, h.set0 _, Kp.set w b 0 _, (Below.refl base w).setCell (p := ⟨b, 0, none⟩) h.le _⟩
  · refine (cc_used b w (cell_of_row w b 0 _ _ _ h.x)).mono ?_
    rintro e w' ⟨rfl, rfl⟩
    exact ⟨rfl, h, Kp.refl _ _, Below.refl _ _⟩
set_option maxHeartbeats 2000000 in
set_option maxRecDepth 100000 in
theorem Write_w (base b : Nat) (p v : Value) (bs : List Value) (ad : Addr) (m c : Nat) (news : List Value) (w : World) (h : BS base w b p v bs) (hp : p = .pointer none ∨ p = .pointer (some ⟨b, 0, none⟩)) (hl : news.length = m) (hnews : ∀ j u, news[j]? = some u → w.cell? (ad.add j) = some u) (hadb : ad.block ≠ b) (hadl : ad.block < w.heap.size) (h1 : ∀ u ∈ news, u.oneCell' = true) (hlen : bs.length + m ≤ 140737488355328) (hBw : base ≤ w.heap.size) :
    Calls Try.prog 39 #[.pointer (some ⟨b, 0, none⟩), .slice (some ad) m c] w fun e w' => e = .returned (.tuple #[.int .i64 m, .nilIface]) ∧ ∃ v', BS base w' b (.pointer (some ⟨b, 0, none⟩)) v' (bs ++ news) ∧ Kp (fun k => k = b ∨ v.ownBlock = some k) w w' ∧ Below base w w' := by
  obtain ⟨i0, hi, hzz⟩ := Option.map_eq_some_iff.1 (show (Try.prog.info? 5).map (fun i => (i.zero, i.size, i.bytes)) = some (some (.int .u8 0), 1, 1) by kernel_rfl)
  simp only [Prod.mk.injEq] at hzz
  obtain ⟨hz0, hz1, hz2⟩ := hzz
  have HCC := Aside0.mk (cc_w base b p v bs w h hp)
  go_enter Try.func39, Try.ntmps39
  go_wp2_with (go_at_call 52; refine HCC.out.mono ?_)
  rintro e w1 ⟨rfl, hs1, hk1, hb1⟩
  have c0 : w1.cell? ⟨b, 0, none⟩ = some (.pointer (some ⟨b, 0, none⟩)) := cell_of_row w1 b 0 _ _ _ hs1.x
  have c1 : w1.cell? ⟨b, 1, none⟩ = some v := cell_of_row w1 b 1 _ _ _ hs1.x
  have hnews1 : ∀ j u, news[j]? = some u → w1.cell? (ad.add j) = some u := fun j u hj => by
    have hbl : (ad.add j).block = ad.block := by unfold Addr.add; split <;> rfl
    have hc := World.cell?_of_block (w := w) (w' := w1) (a := ad.add j) (by rw [hbl]; exact hk1.block _ hadl hadb)
    rw [hc]
    exact hnews j u hj
  have hsz1 := hb1.size
  have H1 := Aside0.mk hs1
  have HK1 := Aside0.mk hk1
  have HB1 := Aside0.mk hb1
  have HL := Aside0.mk hl
  clear hs1 hk1 hb1 h hp hnews
  go_wp2_with (at_builtin; refine wpList_append_own _ rfl _ _ 68 rfl base 5 i0 (.int .u8 0) 1 1 Try.underlying68 hi hz0 hz1 hz2 rfl (by decide) _ _ _ rfl H1.out.o ad m c news rfl (by have := HL.out; omega) hnews1 h1 ?c3 ?c4 ?c5 ?_)
  case c3 => unfold maxLen; omega
  case c4 => omega
  case c5 => omega
  intro v' w2 hown' hgrow hat
  have hb2 : w2.heap[b]? = some (.cells #[.pointer (some ⟨b, 0, none⟩), v] 86 (0, 0)) := by
    rw [hgrow.block b H1.out.lt (fun e => H1.out.ne e.symm)]
    exact H1.out.x
  have d0 : w2.cell? ⟨b, 0, none⟩ = some (.pointer (some ⟨b, 0, none⟩)) := cell_of_row w2 b 0 _ _ _ hb2
  have d1 : w2.cell? ⟨b, 1, none⟩ = some v := cell_of_row w2 b 1 _ _ _ hb2
  have f1 : w2.frozen? ⟨b, 1, none⟩ = false := frozen_of_row _ b 1 _ _ hb2
  obtain ⟨ao, n', cap, rfl⟩ : ∃ ao n' cap, v' = .slice ao n' cap := by
    rcases hown'.2 with ⟨hv, _⟩ | ⟨g, cap, cur, hv, _⟩
    · exact ⟨_, _, _, hv⟩
    · exact ⟨_, _, _, hv⟩
  have HG := Aside0.mk hgrow
  have HO := Aside0.mk hown'
  have HA := Aside0.mk hat
  clear hgrow hown' hat
  go_wp2
  go_ret2
  have hne := Lib.ownBlock_ne HO.out hb2 (by decide)
  have hk2 : Kp (fun k => k = b ∨ v.ownBlock = some k) w w2 := HK1.out.trans (Kp.grown HG.out) (fun _ h => Or.inl h) (fun _ _ h => Or.inr h)
  have hle : bs.length + m = (bs ++ news).length := by rw [List.length_append, HL.out]
  refine ⟨rfl, _, ⟨H1.out.le, heap_setCell_same w2 b 1 _ _ _ hb2, ?_, hne⟩, hk2.trans (Kp.set w2 b 1 _) (fun _ h => h) (fun _ _ h => Or.inl h), ?_⟩
  · rw [← hle]
    exact HO.out.kept (row := some b) ⟨rfl, rfl, rfl, by simp [World.setCell], fun k _ hk => Below.heap_setCell _ _ _ _ (fun e => hk (by simp [e]))⟩ (Or.inr hne)
  · exact (HB1.out.grown HG.out (by omega) (fun k hk => (H1.out.o.lt k hk).1)).setCell (p := ⟨b, 1, none⟩) H1.out.le _

end Go.Proofs.Ytgaggoglbkcomaa.Ext

set_option linter.unusedVariables false
set_option linter.unusedSimpArgs false
namespace Go.Proofs.Ytgaggoglbkcomaa.Ext
open Go.RowKit Go.Lib Go.Proofs.YtgaggoglbkcomaaW.PrintWords Go.Proofs.YtgaggoglbkcomaaW.PrintMore Go.Proofs.Ytgaggoglbkcomaa.XRR

abbrev RR (w : World) (base : Nat) (v : Value) (l : List Rn) : Prop := Kd.R k29 29 w base (fun _ => True) v l
abbrev CC (w : World) (A : Option Addr) (l : List Rn) : Prop := Kd.C k29 w A l.length l
abbrev sv (A : Option Addr) (l : List Rn) (c : Nat) : Value := .slice A l.length c
structure Co where
  f : Nat
  n : Nat
  r : List Rn
structure Sp where
  o : Co
  A : Option Addr
  c : Nat
def spR (p : Sp) : List Value := [.int .i64 p.o.f, sv p.A p.o.r p.c, .int .i64 p.o.n]
abbrev SR (w : World) (base : Nat) (v : Value) (xs : List Sp) : Prop := Kd.R (Kd.raw 3) 83 w base (fun _ => True) v (xs.map spR)
def one1 (fr till at_ : Nat) (p : Co) : List Co := if fr - at_ < min (till - at_) p.n then [⟨p.f + (fr - at_), min (till - at_) p.n - (fr - at_), sli p.r ((fr - at_ : Nat) : Int) ((min (till - at_) p.n : Nat) : Int)⟩] else []
def someC (fr till : Nat) : Nat → List Co → List Co
  | _, [] => []
  | at_, p :: l => one1 fr till at_ p ++ someC fr till (at_ + p.n) l
def tot : List Co → Nat
  | [] => 0
  | p :: l => p.n + tot l
theorem tot_append : ∀ a b : List Co, tot (a ++ b) = tot a + tot b
  | [], b => by simp [tot]
  | p :: a, b => by simp only [List.cons_append, tot, tot_append a b]; omega
theorem someC_append (fr till : Nat) : ∀ (a b : List Co) (at_ : Nat), someC fr till at_ (a ++ b) = someC fr till at_ a ++ someC fr till (at_ + tot a) b
  | [], b, at_ => by simp [someC, tot]
  | p :: a, b, at_ => by
    simp only [List.cons_append, someC, tot, someC_append fr till a b, List.append_assoc]
    rw [Nat.add_assoc]
/-- A piece is sound. -/
structure GoodP (N : Nat) (p : Co) : Prop where
  f : p.f + p.n ≤ N
  g : goodB p.r = true
  n : nB p.r = p.n
  p : 1 ≤ p.n
/-- The store in memory. -/
structure SM (w wr : World) (P mo : Nat) (va vs : Value) (ad : List Int) (xs : List Sp) (n : Nat) : Prop where
  b : Below w.heap.size w wr
  x : wr.heap[P]? = some (.cells #[.bool true, .int .i64 mo, va, vs, .int .i64 n] 71 (0, 0))
  le : w.heap.size ≤ P
  a : wr.ownsRow w.heap.size 5 1 va ad.length (nums .u8 ad)
  s : SR wr w.heap.size vs xs
  r : ∀ p, p ∈ xs → RR wr w.heap.size (sv p.A p.o.r p.c) p.o.r
theorem own_keep {S : Nat → Prop} {w w' : World} {B e n : Nat} {v : Value} {xs : List Value} (h : w.ownsRow B e 1 v n xs) (k : Kp S w w') (hS : ∀ g, v.ownBlock = some g → ¬ S g) : w'.ownsRow B e 1 v n xs := by
  obtain ⟨h1, h2⟩ := h
  refine ⟨h1, h2.imp id ?_⟩
  rintro ⟨g, cap, cur, rfl, hB, hg, r⟩
  exact ⟨g, cap, cur, rfl, hB, (k.block g (Array.getElem?_eq_some_iff.1 hg).1 (hS g rfl)).trans hg, r⟩
theorem SM.kp {S : Nat → Prop} {w wr w' : World} {P mo n : Nat} {va vs : Value} {ad : List Int} {xs : List Sp} (h : SM w wr P mo va vs ad xs n) (hb : Below w.heap.size wr w') (k : Kp S wr w') (hP : ¬ S P) (hS : ∀ g, va.ownBlock = some g → ¬ S g) (ht : ∀ g, S g → ∀ cells q, wr.heap[g]? = some (.cells cells q (0, 0)) → q ≠ 83 ∧ q ≠ 29) : SM w w' P mo va vs ad xs n := by
  refine ⟨h.b.trans hb, (k.block P (Array.getElem?_eq_some_iff.1 h.x).1 hP).trans h.x, h.le, own_keep h.a k hS, R_keep h.s k ?_, fun p hp => R_keep (h.r p hp) k ?_⟩
  · intro g hg q hq cells hc
    rcases List.mem_cons.1 hq with e | e
    · exact (ht g hg cells q hc).1 e
    · exact (List.not_mem_nil e).elim
  · intro g hg q hq cells hc
    rcases List.mem_cons.1 hq with e | e
    · exact (ht g hg cells q hc).2 e
    · exact (List.not_mem_nil e).elim
theorem SM.below {w wr w' : World} {P mo n : Nat} {va vs : Value} {ad : List Int} {xs : List Sp} (h : SM w wr P mo va vs ad xs n) (hb : Below wr.heap.size wr w') : SM w w' P mo va vs ad xs n :=
  h.kp (S := fun _ => False) (hb.mono h.b.size) (Kp.of_below hb) (fun h => h) (fun _ _ h => h) (fun _ h => h.elim)
theorem SM.cells {w wr : World} {P mo n : Nat} {va vs : Value} {ad : List Int} {xs : List Sp} (h : SM w wr P mo va vs ad xs n) : wr.cell? ⟨P, 0, none⟩ = some (.bool true) ∧ wr.cell? ⟨P, 1, none⟩ = some (.int .i64 mo) ∧ wr.cell? ⟨P, 2, none⟩ = some va ∧ wr.cell? ⟨P, 3, none⟩ = some vs ∧ wr.cell? ⟨P, 4, none⟩ = some (.int .i64 n) :=
  ⟨cell_of_row wr P 0 _ _ _ h.x, cell_of_row wr P 1 _ _ _ h.x, cell_of_row wr P 2 _ _ _ h.x, cell_of_row wr P 3 _ _ _ h.x, cell_of_row wr P 4 _ _ _ h.x⟩
theorem SM.lt {w wr : World} {P mo n : Nat} {va vs : Value} {ad : List Int} {xs : List Sp} (h : SM w wr P mo va vs ad xs n) : P < wr.heap.size := (Array.getElem?_eq_some_iff.1 h.x).1
theorem good_w {w wr : World} {P mo n : Nat} {va vs : Value} {ad : List Int} {xs : List Sp} (h : SM w wr P mo va vs ad xs n) :
    Calls Try.prog 35 #[.pointer (some ⟨P, 0, none⟩)] wr fun e w' => e = .returned (.bool true) ∧ Below wr.heap.size wr w' := by
  have c0 := h.cells.1
  clear h
  go_enter Try.func35, Try.ntmps35
  go_wp2
  go_ret
  exact ⟨rfl, Below.refl _ _⟩
theorem within_w {w wr : World} {P mo n : Nat} {va vs : Value} {ad : List Int} {xs : List Sp} (h : SM w wr P mo va vs ad xs n) (f t : Int) :
    Calls Try.prog 37 #[.pointer (some ⟨P, 0, none⟩), .int .i64 f, .int .i64 t] wr fun e w' => e = .returned (.bool (decide (0 ≤ f ∧ f ≤ t ∧ t ≤ (n : Int)))) ∧ Below wr.heap.size wr w' := by
  have c4 := h.cells.2.2.2.2
  clear h
  by_cases h1 : 0 ≤ f
  · by_cases h2 : f ≤ t
    · by_cases h3 : t ≤ (n : Int)
      · rw [decide_eq_true ⟨h1, h2, h3⟩]
        go_enter Try.func37, Try.ntmps37
        go_wp2
        go_ret
        exact ⟨rfl, Below.refl _ _⟩
      · rw [decide_eq_false (fun hc => h3 hc.2.2)]
        go_enter Try.func37, Try.ntmps37
        go_wp2
        go_ret
        exact ⟨rfl, Below.refl _ _⟩
    · rw [decide_eq_false (fun hc => h2 hc.2.1)]
      go_enter Try.func37, Try.ntmps37
      go_wp2
      go_ret
      exact ⟨rfl, Below.refl _ _⟩
  · rw [decide_eq_false (fun hc => h1 hc.1)]
    go_enter Try.func37, Try.ntmps37
    go_wp2
    go_ret
    exact ⟨rfl, Below.refl _ _⟩
theorem SR.elem {w : World} {base : Nat} {v : Value} {xs : List Sp} (h : SR w base v xs) (q : Nat) (p : Sp) (hp : xs[q]? = some p) : ∃ ad c, v = .slice (some ad) xs.length c ∧ w.cell? (ad.add (q * 3)) = some (.int .i64 p.o.f) ∧ w.cell? ⟨(ad.add (q * 3)).block, (ad.add (q * 3)).off + 1, none⟩ = some (sv p.A p.o.r p.c) ∧ w.cell? ⟨(ad.add (q * 3)).block, (ad.add (q * 3)).off + 2, none⟩ = some (.int .i64 p.o.n) := by
  have hpl : q < xs.length := (List.getElem?_eq_some_iff.1 hp).1
  obtain ⟨Av, cv, e, hc, hC⟩ := Kd.R_reads h
  subst e
  obtain ⟨ad, cs, eA, hl, hK, hcell⟩ := Kd.C_get hC [] (q : Int) (by omega) (by rw [List.length_map]; omega)
  rw [Int.toNat_natCast] at hK hcell
  have ep : (xs.map spR).getD q [] = spR p := by
    rw [List.getD_eq_getElem?_getD, List.getElem?_map, hp]
    rfl
  rw [ep] at hK
  have ecs : cs = spR p := hK.1
  subst ecs
  refine ⟨ad, cv, by rw [eA, List.length_map], hcell 0 _ rfl, ?_, ?_⟩
  · rw [← add_field _ _ 1 (by omega)]
    exact hcell 1 _ rfl
  · rw [← add_field _ _ 2 (by omega)]
    exact hcell 2 _ rfl
theorem SR.elem' {w : World} {base n c : Nat} {ad : Addr} {xs : List Sp} (h : SR w base (.slice (some ad) n c) xs) (q : Nat) (p : Sp) (hp : xs[q]? = some p) : w.cell? (ad.add (q * 3)) = some (.int .i64 p.o.f) ∧ w.cell? ⟨(ad.add (q * 3)).block, (ad.add (q * 3)).off + 1, none⟩ = some (sv p.A p.o.r p.c) ∧ w.cell? ⟨(ad.add (q * 3)).block, (ad.add (q * 3)).off + 2, none⟩ = some (.int .i64 p.o.n) := by
  obtain ⟨ad', c', e, r⟩ := h.elem q p hp
  cases e
  exact r
theorem tot_take (xs : List Sp) (q : Nat) : tot ((xs.take q).map (·.o)) ≤ tot (xs.map (·.o)) := by
  have h : xs.map (·.o) = (xs.take q).map (·.o) ++ (xs.drop q).map (·.o) := by rw [← List.map_append, List.take_append_drop]
  rw [h, tot_append]
  omega
theorem take_snoc {xs : List Sp} {q : Nat} {p : Sp} (h : xs[q]? = some p) : xs.take (q + 1) = xs.take q ++ [p] := by
  rw [List.take_add_one, h]
  rfl
theorem tot_snoc {xs : List Sp} {q : Nat} {p : Sp} (h : xs[q]? = some p) : tot ((xs.take (q + 1)).map (·.o)) = tot ((xs.take q).map (·.o)) + p.o.n := by
  rw [take_snoc h, List.map_append, tot_append]
  rfl
theorem some_snoc {xs : List Sp} {q : Nat} {p : Sp} (h : xs[q]? = some p) (fr till : Nat) : someC fr till 0 ((xs.take (q + 1)).map (·.o)) = someC fr till 0 ((xs.take q).map (·.o)) ++ one1 fr till (tot ((xs.take q).map (·.o))) p.o := by
  rw [take_snoc h, List.map_append, someC_append, Nat.zero_add]
  simp [someC]
/-- Pieces that were made since u. -/
structure OS (u wr : World) (v : Value) (out : List Sp) : Prop where
  b : Below u.heap.size u wr
  o : SR wr u.heap.size v out
  r : ∀ p, p ∈ out → RR wr u.heap.size (sv p.A p.o.r p.c) p.o.r
theorem OS.below {u wr w' : World} {v : Value} {out : List Sp} (h : OS u wr v out) (hb : Below wr.heap.size wr w') : OS u w' v out :=
  ⟨below_step h.b hb, Kd.R_below h.o hb, fun p hp => Kd.R_below (h.r p hp) hb⟩
theorem sp_ty {w : World} {base : Nat} {v : Value} {xs : List Sp} (hv : SR w base v xs) (k : Nat) (hk : v.ownBlock = some k) : ∃ cells, w.heap[k]? = some (.cells cells 83 (0, 0)) := by
  obtain ⟨-, -, -, q, hq, cells, hc⟩ := (Kd.R_bound hv).1 k hk
  rcases List.mem_cons.1 hq with e | e
  · subst e; exact ⟨cells, hc⟩
  · exact (List.not_mem_nil e).elim
theorem blk_below {wr w' : World} {k : Nat} {o : Obj} (h : wr.heap[k]? = some o) (hb : Below wr.heap.size wr w') : w'.heap[k]? = some o := (hb.block k (Array.getElem?_eq_some_iff.1 h).1).trans h
theorem runs_app {wr w' : World} {base base' : Nat} {v x : Value} {xs : List Sp} {l : List Rn} (h : RR wr base' x l) (hv : SR wr base v xs) (hG : wr.grownBy w' v.ownBlock) : RR w' base' x l :=
  R_keep h (Kp.grown hG) (fun k hk q hq cells hc => by
    obtain ⟨cells', hc'⟩ := sp_ty hv k hk
    rw [hc'] at hc
    rcases List.mem_cons.1 hq with e | e
    · subst e; cases hc
    · exact (List.not_mem_nil e).elim)
theorem own_old {w : World} {base : Nat} {v : Value} {xs : List Sp} (hv : SR w base v xs) : v.ownBlock ≠ some w.heap.size := fun e => by
  have := ((Kd.R_bound hv).1 _ e).2.2.1
  omega
theorem sp_app {wr w' : World} {base pb : Nat} {v : Value} {xs : List Sp} {o : Obj} (h : wr.heap[pb]? = some o) (hv : SR wr base v xs) (hG : wr.grownBy w' v.ownBlock) (hne : v.ownBlock ≠ some pb) : w'.heap[pb]? = some o := (hG.block pb (Array.getElem?_eq_some_iff.1 h).1 (fun e => hne e.symm)).trans h
theorem OS.app {u wr w' : World} {v v' : Value} {out : List Sp} (h : OS u wr v out) (p : Sp) (hG : wr.grownBy w' v.ownBlock) (hb : Below u.heap.size u w') (ho : Kd.R (Kd.raw 3) 83 w' u.heap.size (fun _ => True) v' (out.map spR ++ [spR p])) (hr : RR wr u.heap.size (sv p.A p.o.r p.c) p.o.r) : OS u w' v' (out ++ [p]) := by
  refine ⟨hb, ?_, fun x hx => ?_⟩
  · show Kd.R _ _ _ _ _ _ _
    rw [List.map_append, List.map_singleton]
    exact ho
  · rcases List.mem_append.1 hx with hx | hx
    · exact runs_app (h.r x hx) h.o hG
    · rw [List.mem_singleton.1 hx]
      exact runs_app hr h.o hG
theorem good_len {l : List Rn} (h : goodB l = true) : l.length ≤ 4096 := by
  have := len_nB (pk_mem (good_pk h))
  have := good_n h
  omega
theorem slice_ok {N : Nat} {p : Co} (hg : GoodP N p) (a b : Nat) (hab : a ≤ b) (hb : b ≤ p.n) (W : World) (A : Option Addr) (c : Nat) (hr : CC W A p.r) (hc : p.r.length ≤ c) :
    Calls Try.prog 48 #[sv A p.r c, .int .i64 a, .int .i64 b] W fun e w' => ∃ A' c', e = .returned (.tuple #[sv A' (sli p.r a b) c', .int .i64 0]) ∧ RR w' W.heap.size (sv A' (sli p.r a b) c') (sli p.r a b) ∧ Below W.heap.size W w' := by
  have hl := good_len hg.g
  have hw : withinB p.r a b = true := by
    unfold withinB
    rw [hg.g, hg.n, decide_eq_true (by omega), decide_eq_true (by omega), decide_eq_true (by omega)]
    rfl
  refine (Slice_w W A c p.r a b hr hc (by omega)).mono fun e w' ⟨v0, he, hR, hB⟩ => ?_
  have ez : sliZ p.r a b = (sli p.r a b, 0) := by unfold sliZ; rw [if_pos hw]
  rw [ez] at he hR
  obtain ⟨A', c', rfl⟩ := Kd.R_slice hR
  exact ⟨A', c', he, hR, hB⟩
theorem len_snoc {α : Type} {l : List α} {x : α} {q : Nat} (h : l.length ≤ q) : (l ++ [x]).length ≤ q + 1 := by
  rw [List.length_append, List.length_singleton]
  omega
theorem meas {n q : Nat} (h : q + 1 ≤ n) : n - (RowKit.intOf (.int .i64 ((q + 1 : Nat) : Int))).toNat < n - (RowKit.intOf (.int .i64 (q : Int))).toNat := by
  show n - (q + 1) < n - q
  omega
set_option maxRecDepth 100000 in
set_option maxHeartbeats 8000000 in
theorem pieces_w {w u : World} {P mo n : Nat} {va vs : Value} {ad : List Int} {xs : List Sp} (h : SM w u P mo va vs ad xs n) {N : Nat} (hN : N ≤ 1000000000000) (hg : ∀ p, p ∈ xs → GoodP N p.o) (ht : tot (xs.map (·.o)) ≤ 4096) (hx : xs.length ≤ 4096) (fr till : Nat) (hfr : fr ≤ 100000) (hti : till ≤ 100000) :
    Calls Try.prog 38 #[.pointer (some ⟨P, 0, none⟩), .int .i64 fr, .int .i64 till] u fun e w' => ∃ (out : List Sp) (A : Option Addr) (c : Nat), e = .returned (.slice A out.length c) ∧ out.map (·.o) = someC fr till 0 (xs.map (·.o)) ∧ OS u w' (.slice A out.length c) out := by
  obtain ⟨Av, cv, hvs⟩ : ∃ Av cv, vs = .slice Av xs.length cv := by
    obtain ⟨A, c, e⟩ := Kd.R_slice h.s
    rw [List.length_map] at e
    exact ⟨A, c, e⟩
  subst hvs
  have HM := Aside0.mk h
  have HG := Aside0.mk hg
  have HT := Aside0.mk ht
  have HX := Aside0.mk hx
  clear h hg ht hx
  obtain ⟨s0, s1, s2, s3, s4⟩ := HM.out.cells; have sl := HM.out.lt
  go_enter Try.func38, Try.ntmps38
  go_wp2
  go_loopw [7, 8, 20] (fun vv aa ii wr => ∃ (q : Nat) (out : List Sp) (v : Value), v = vv ∧ aa = .int .i64 (tot ((xs.take q).map (·.o)) : Nat) ∧ ii = .int .i64 (q : Nat) ∧ q ≤ xs.length ∧ out.length ≤ q ∧ Aside0 (out.map (·.o) = someC fr till 0 ((xs.take q).map (·.o))) ∧ Aside0 (OS u wr v out)) (fun _ _ ii _ => xs.length - (RowKit.intOf ii).toNat)
  case atStart => exact ⟨0, [], _, rfl, rfl, rfl, Nat.zero_le _, Nat.le_refl _, ⟨rfl⟩, ⟨⟨Below.refl _ _, Kd.R_nil _ _ _ _ _, fun p hp => (List.not_mem_nil hp).elim⟩⟩⟩
  case round =>
    obtain ⟨q, out, v, rfl, rfl, rfl, hq, hol, HC, HS⟩ := hrel
    by_cases hql : q < xs.length
    · obtain ⟨p, hp⟩ : ∃ p, xs[q]? = some p := ⟨_, List.getElem?_eq_getElem hql⟩
      have hpm := List.mem_of_getElem? hp
      have hts := tot_snoc hp
      have htt := tot_take xs (q + 1)
      have hss := some_snoc hp fr till
      have hgp := HG.out p hpm
      have hT := HT.out
      have hxl := HX.out
      have HOL := Aside0.mk (⟨by omega, by omega, by omega, by omega⟩ : out.length ≤ 4096 ∧ out.length ≤ q ∧ q + 1 ≤ xs.length ∧ q + 1 ≤ 4096)
      clear hxl
      obtain ⟨adx, c', hsl, -⟩ := HM.out.s.elem q p hp
      cases hsl
      obtain ⟨z0, z1, z2⟩ := (HM.out.below HS.out.b).s.elem' q p hp
      have HSS := Aside0.mk hss
      have HTS := Aside0.mk hts
      have HGP := Aside0.mk hgp
      have hal : tot ((xs.take q).map (·.o)) + p.o.n ≤ 4096 := by omega
      generalize tot ((xs.take q).map (·.o)) = at_ at *
      have hw1 : IntKind.i64.wrap ((fr : Int) - (at_ : Int)) = (fr : Int) - at_ := by rw [wrap_ok _ (by omega)]
      have hw2 : IntKind.i64.wrap ((till : Int) - (at_ : Int)) = (till : Int) - at_ := by rw [wrap_ok _ (by omega)]
      clear hss hts hgp hT htt
      have hne := Aside0.mk (own_old HS.out.o)
      go_upto_region 6 with (fail)
      have HB := Aside0.mk (heap_alloc_new wr (.cells #[.int .i64 p.o.f, sv p.A p.o.r p.c, .int .i64 p.o.n] 83))
      have HS := Aside0.mk (HS.out.below (below_alloc (Below.refl _ _) (.cells #[.int .i64 p.o.f, sv p.A p.o.r p.c, .int .i64 p.o.n] 83)))
      have k0 := cell_of_row _ _ 0 _ _ _ HB.out
      have k1 := cell_of_row _ _ 1 _ _ _ HB.out
      have k2 := cell_of_row _ _ 2 _ _ _ HB.out
      clear z0 z1 z2
      generalize wr.heap.size = pb at *
      generalize World.alloc wr _ = w1 at *
      go_cut [11, 12] (fun v11 v12 wc => ∃ (wc1 : World) (zb : Int), wc1 = wc ∧ v11 = .int .i64 ((fr - at_ : Nat) : Int) ∧ v12 = .int .i64 zb ∧ zb = min ((till : Int) - at_) (p.o.n : Int) ∧ Aside0 (OS u wc1 v out) ∧ Aside0 (wc1.heap[pb]? = some (.cells #[.int .i64 p.o.f, sv p.A p.o.r p.c, .int .i64 p.o.n] 83 (0, 0))))
      case first =>
        have hm : max ((fr : Int) - at_) 0 = ((fr - at_ : Nat) : Int) := by omega
        go_region_held3 (fun w' => w'.cell? ⟨pb, 2, none⟩ = some (.int .i64 p.o.n)) (first | exact k2 | go_keep) (first | fail)
        all_goals (go_wp2; go_meet)
        all_goals exact ⟨_, _, rfl, rfl, rfl, rfl, ⟨HS.out.below (below_drew (Below.refl _ _))⟩, HB⟩
      case rest =>
        obtain ⟨wc1, zb, rfl, rfl, rfl, hzb, HS, HB⟩ := hcut
        clear k0 k1 k2
        have k0 := cell_of_row _ _ 0 _ _ _ HB.out
        have k1 := cell_of_row _ _ 1 _ _ _ HB.out
        have k2 := cell_of_row _ _ 2 _ _ _ HB.out
        have hw4 : IntKind.i64.wrap ((at_ : Int) + (p.o.n : Int)) = ((at_ + p.o.n : Nat) : Int) := by rw [wrap_ok _ (by omega)]; omega
        by_cases hab : fr - at_ < min (till - at_) p.o.n
        · obtain ⟨a, ha⟩ : ∃ a, a = fr - at_ := ⟨_, rfl⟩
          obtain ⟨b, hb⟩ : ∃ b, b = min (till - at_) p.o.n := ⟨_, rfl⟩
          have hone : one1 fr till at_ p.o = [⟨p.o.f + a, b - a, sli p.o.r a b⟩] := by
            unfold one1
            rw [if_pos hab, ha, hb]
          have hzb' : zb = (b : Int) := by omega
          have hab' : (a : Int) < (b : Int) := by omega
          have hbn : b ≤ p.o.n := by omega
          have hfN := HGP.out.f
          have hw5 : IntKind.i64.wrap ((p.o.f : Int) + (a : Int)) = ((p.o.f + a : Nat) : Int) := by rw [wrap_ok _ (by omega)]; omega
          have hw6 : IntKind.i64.wrap ((b : Int) - (a : Int)) = ((b - a : Nat) : Int) := by rw [wrap_ok _ (by omega)]; omega
          have HSL := Aside0.mk (fun (W : World) (h : OS u W v out) => slice_ok HGP.out a b (by omega) hbn W p.A p.c (Kd.R_reads' ((HM.out.below h.b).r p hpm)).2.2 (Kd.R_reads' ((HM.out.below h.b).r p hpm)).2.1)
          have HONE := Aside0.mk hone
          have hql' := hql
          rw [← ha]
          clear hone hzb hab hfN
          subst hzb'
          clear ha hb
          go_wp2_with (first | (go_at_call 48; (with_reducible refine (HSL.out _ (HS.out.below ?sb)).mono ?_); (case sb => exact (by repeat (first | (with_reducible first | exact Below.refl _ _ | apply pw_below_drewN | apply below_alloc | apply below_drew) | exact Below.refl _ _))); rintro e w2 ⟨A', c', rfl, hr2, hb2⟩; have HB := Aside0.mk (blk_below HB.out (below_step (by repeat (first | (with_reducible first | exact Below.refl _ _ | apply pw_below_drewN | apply below_alloc | apply below_drew) | exact Below.refl _ _)) hb2)); have HR2 := Aside0.mk (Kd.R_lower hr2 (HS.out.b.size) : RR w2 u.heap.size _ _); have HS := Aside0.mk (HS.out.below (below_step (by repeat (first | (with_reducible first | exact Below.refl _ _ | apply pw_below_drewN | apply below_alloc | apply below_drew) | exact Below.refl _ _)) hb2)); clear hr2 hb2 k0 k1 k2; have k0 := cell_of_row _ _ 0 _ _ _ HB.out; have k1 := cell_of_row _ _ 1 _ _ _ HB.out; have k2 := cell_of_row _ _ 2 _ _ _ HB.out) | ((with_reducible refine gate_builtin (b := .append) (xs := #[.tmp 45, .tmp 55]) rfl ?_); at_builtin; refine Kd.R_append (Kd.raw 3) (w0 := u) u.heap.size rfl (.tmp 45) (.tmp 55) 69 83 (.agg #[.int .i64 0, .slice none 0 0, .int .i64 0]) 40 rfl Try.underlying69 (by kernel_rfl) rfl (by decide) (by omega) v (out.map spR) (spR ⟨⟨p.o.f + a, b - a, sli p.o.r a b⟩, A', c'⟩) [.int .i64 ((p.o.f + a : Nat) : Int), sv A' (sli p.o.r a b) c', .int .i64 ((b - a : Nat) : Int)] (fun _ => True) (fun _ => False) rfl ?aX ?aP (fun _ hk => hk.elim) ?aF ?aO ?aB ?aS ?aL ?_; (case aX => simp [Act.eval]); (case aP => exact ⟨rfl, rfl, fun u hu => by rcases List.mem_cons.1 hu with e | hu; (rw [e]; rfl); rcases List.mem_cons.1 hu with e | hu; (rw [e]; rfl); rcases List.mem_cons.1 hu with e | hu; (rw [e]; rfl); cases hu⟩); (case aB => exact HS.out.b); (case aF => exact fun _ _ => trivial); (case aO => exact HS.out.o); (case aS => exact HS.out.b.size); (case aL => rw [List.length_map]; have := HOL.out.1; omega); intro v1 w12 ho hb hg hat; have HB := Aside0.mk (sp_app HB.out HS.out.o hg hne.out); have HS := Aside0.mk (HS.out.app ⟨⟨p.o.f + a, b - a, sli p.o.r a b⟩, A', c'⟩ hg hb ho HR2.out); clear ho hb hg hat k0 k1 k2; have k2 := cell_of_row _ _ 2 _ _ _ HB.out))
          obtain ⟨o1, o2, o3, o4⟩ := HOL.out
          have hwq : wrap64 ((q : Int) + 1) = ((q + 1 : Nat) : Int) := by rw [IntWalk.wrap64_in _ ⟨by omega, by omega⟩]; omega
          exact ⟨⟨q + 1, out ++ [⟨⟨p.o.f + a, b - a, sli p.o.r a b⟩, A', c'⟩], v1, rfl, by rw [HTS.out, Int.natCast_add], by rw [hwq], o3, len_snoc o2, ⟨by rw [HSS.out, HONE.out, List.map_append, HC.out, List.map_singleton]⟩, HS⟩, by simp only [hwq]; exact meas o3⟩
        · have hn : ¬ (((fr - at_ : Nat) : Int) < zb) := by omega
          have hone : one1 fr till at_ p.o = [] := by
            unfold one1
            rw [if_neg hab]
          have HONE := Aside0.mk hone
          clear hone hzb hab
          go_wp2
          obtain ⟨o1, o2, o3, o4⟩ := HOL.out
          have hwq : wrap64 ((q : Int) + 1) = ((q + 1 : Nat) : Int) := by rw [IntWalk.wrap64_in _ ⟨by omega, by omega⟩]; omega
          exact ⟨⟨q + 1, out, v, rfl, by rw [HTS.out, Int.natCast_add], by rw [hwq], o3, Nat.le_succ_of_le o2, ⟨by rw [HSS.out, HONE.out, List.append_nil]; exact HC.out⟩, HS⟩, by simp only [hwq]; exact meas o3⟩
    · have hqe : q = xs.length := by omega
      subst hqe
      obtain ⟨A', c', e⟩ := Kd.R_slice HS.out.o
      rw [List.length_map] at e
      subst e
      have hC := HC.out
      rw [List.take_length] at hC
      have HC := Aside0.mk hC
      clear hC
      go_wp2
      go_ret
      exact ⟨out, A', c', rfl, HC.out, HS.out⟩

end Go.Proofs.Ytgaggoglbkcomaa.Ext

set_option linter.unusedVariables false
set_option linter.unusedSimpArgs false
namespace Go.Proofs.Ytgaggoglbkcomaa.Ext
open Go.RowKit Go.Lib Go.Proofs.YtgaggoglbkcomaaW.PrintWords Go.Proofs.YtgaggoglbkcomaaW.PrintMore

def txt (ad : List Int) (l : List Co) : List Int := l.flatMap (fun p => (ad.drop p.f).take p.n)
def lab (l : List Co) : List Int := l.flatMap (fun p => bytesR p.r)
theorem txt_append (ad : List Int) (a b : List Co) : txt ad (a ++ b) = txt ad a ++ txt ad b := List.flatMap_append
theorem lab_append (a b : List Co) : lab (a ++ b) = lab a ++ lab b := List.flatMap_append
theorem txt_cons (ad : List Int) (p : Co) (l : List Co) : txt ad (p :: l) = (ad.drop p.f).take p.n ++ txt ad l := rfl
theorem lab_cons (p : Co) (l : List Co) : lab (p :: l) = bytesR p.r ++ lab l := rfl
theorem cut_app {α : Type} (P R : List α) (T F : Nat) : ((P ++ R).take T).drop F = (P.take T).drop F ++ (R.take (T - P.length)).drop (F - P.length) := by
  rw [List.take_append, List.drop_append, List.length_take]
  by_cases h : P.length ≤ T
  · rw [Nat.min_eq_right h]
  · have : T - P.length = 0 := by omega
    rw [this]
    simp
theorem goodP_len {ad : List Int} {p : Co} (h : GoodP ad.length p) : ((ad.drop p.f).take p.n).length = p.n := by
  rw [List.length_take, List.length_drop]
  have := h.f
  omega
theorem tot_txt {ad : List Int} : ∀ {l : List Co}, (∀ p, p ∈ l → GoodP ad.length p) → (txt ad l).length = tot l
  | [], _ => rfl
  | p :: l, h => by
    rw [txt_cons, List.length_append, goodP_len (h p (List.mem_cons_self ..)), tot_txt (fun q hq => h q (List.mem_cons_of_mem _ hq))]
    rfl
theorem one_txt {ad : List Int} {p : Co} (h : GoodP ad.length p) (fr till at_ : Nat) : txt ad (one1 fr till at_ p) = (((ad.drop p.f).take p.n).take (till - at_)).drop (fr - at_) := by
  rw [List.take_take, List.drop_take, List.drop_drop]
  unfold one1
  by_cases c : fr - at_ < min (till - at_) p.n
  · rw [if_pos c, txt_cons]
    show _ ++ [] = _
    rw [List.append_nil]
  · rw [if_neg c, show min (till - at_) p.n - (fr - at_) = 0 from by omega]
    rfl
theorem one_good {N : Nat} {p : Co} (h : GoodP N p) (fr till at_ : Nat) : ∀ q, q ∈ one1 fr till at_ p → GoodP N q := by
  intro q hq
  unfold one1 at hq
  by_cases c : fr - at_ < min (till - at_) p.n
  · rw [if_pos c] at hq
    obtain rfl := List.mem_singleton.1 hq
    obtain ⟨h1, h2⟩ := sli_ok h.g (fr - at_) (min (till - at_) p.n) (by omega)
    have hn := h.n
    have hf := h.f
    have h4 := good_n h.g
    have hlen : nB (sli p.r ((fr - at_ : Nat) : Int) ((min (till - at_) p.n : Nat) : Int)) = min (till - at_) p.n - (fr - at_) := by
      unfold nB at hn ⊢
      rw [h2, List.length_drop, List.length_take, hn]
      omega
    refine ⟨?_, (goodB_iff _).2 ⟨h1, by rw [hlen]; omega⟩, hlen, ?_⟩
    · show p.f + (fr - at_) + (min (till - at_) p.n - (fr - at_)) ≤ N
      omega
    · show 1 ≤ min (till - at_) p.n - (fr - at_)
      omega
  · rw [if_neg c] at hq
    exact (List.not_mem_nil hq).elim
theorem one_lab {N : Nat} {p : Co} (h : GoodP N p) (fr till at_ : Nat) : lab (one1 fr till at_ p) = ((bytesR p.r).take (till - at_)).drop (fr - at_) := by
  have hn := h.n
  unfold nB at hn
  unfold one1
  by_cases c : fr - at_ < min (till - at_) p.n
  · rw [if_pos c, lab_cons]
    show _ ++ [] = _
    rw [List.append_nil, (sli_ok h.g (fr - at_) (min (till - at_) p.n) (by omega)).2]
    by_cases d : till - at_ ≤ p.n
    · rw [Nat.min_eq_left d]
    · rw [Nat.min_eq_right (by omega), List.take_of_length_le (by omega), List.take_of_length_le (by omega)]
  · rw [if_neg c, List.drop_eq_nil_of_le (by rw [List.length_take]; omega)]
    rfl
theorem someC_txt {ad : List Int} (fr till : Nat) : ∀ (l : List Co) (at_ : Nat), (∀ p, p ∈ l → GoodP ad.length p) → txt ad (someC fr till at_ l) = ((txt ad l).take (till - at_)).drop (fr - at_)
  | [], at_, _ => by simp [someC, txt]
  | p :: l, at_, h => by
    have hp := h p (List.mem_cons_self ..)
    rw [someC, txt_append, one_txt hp, someC_txt fr till l (at_ + p.n) (fun q hq => h q (List.mem_cons_of_mem _ hq)), txt_cons, cut_app, goodP_len hp, Nat.sub_sub, Nat.sub_sub]
theorem someC_lab {N : Nat} (fr till : Nat) : ∀ (l : List Co) (at_ : Nat), (∀ p, p ∈ l → GoodP N p) → lab (someC fr till at_ l) = ((lab l).take (till - at_)).drop (fr - at_)
  | [], at_, _ => by simp [someC, lab]
  | p :: l, at_, h => by
    have hp := h p (List.mem_cons_self ..)
    have hn := hp.n
    unfold nB at hn
    rw [someC, lab_append, one_lab hp, someC_lab fr till l (at_ + p.n) (fun q hq => h q (List.mem_cons_of_mem _ hq)), lab_cons, cut_app, hn, Nat.sub_sub, Nat.sub_sub]
theorem someC_good {N : Nat} (fr till : Nat) : ∀ (l : List Co) (at_ : Nat), (∀ p, p ∈ l → GoodP N p) → ∀ q, q ∈ someC fr till at_ l → GoodP N q
  | [], _, _, q, hq => (List.not_mem_nil hq).elim
  | p :: l, at_, h, q, hq => by
    rcases List.mem_append.1 hq with hq | hq
    · exact one_good (h p (List.mem_cons_self ..)) fr till at_ q hq
    · exact someC_good fr till l (at_ + p.n) (fun q hq => h q (List.mem_cons_of_mem _ hq)) q hq
theorem txt_more {ad y : List Int} : ∀ {l : List Co}, (∀ p, p ∈ l → GoodP ad.length p) → txt (ad ++ y) l = txt ad l
  | [], _ => rfl
  | p :: l, h => by
    have hf := (h p (List.mem_cons_self ..)).f
    rw [txt_cons, txt_cons, txt_more (fun q hq => h q (List.mem_cons_of_mem _ hq)), List.drop_append, List.take_append, List.length_drop, show p.n - (ad.length - p.f) = 0 from by omega, List.take_zero, List.append_nil]
theorem tot_len : ∀ {N : Nat} {l : List Co}, (∀ p, p ∈ l → GoodP N p) → l.length ≤ tot l
  | _, [], _ => Nat.le_refl _
  | N, p :: l, h => by
    have := (h p (List.mem_cons_self ..)).p
    have := tot_len (fun q hq => h q (List.mem_cons_of_mem _ hq))
    simp only [List.length_cons, tot]
    omega
/-- The pieces tell a text. -/
structure PS (ad : List Int) (l : List Co) (s : ByteArray) (rl : List Rn) : Prop where
  g : ∀ p, p ∈ l → GoodP ad.length p
  t : txt ad l = bytesOf s
  l : lab l = bytesR rl
  gt : goodT s rl = true
theorem PS.tot {ad : List Int} {l : List Co} {s : ByteArray} {rl : List Rn} (h : PS ad l s rl) : tot l = s.size := by
  rw [← tot_txt h.g, h.t, bytesOf_length]
theorem bytesOf_ext (s : ByteArray) (a b : Nat) : bytesOf (s.extract a b) = ((bytesOf s).take b).drop a := by
  unfold bytesOf
  rw [ext_list, List.map_drop, List.map_take]
theorem bytesOf_sS (s x : ByteArray) (a b : Nat) (hb : b ≤ s.size) : bytesOf (sS s a b x) = (bytesOf s).take a ++ bytesOf x ++ (bytesOf s).drop b := by
  unfold bytesOf
  rw [sS_list s x a b hb, List.map_append, List.map_append, List.map_take, List.map_drop]
theorem PS.cut {ad : List Int} {l : List Co} {s : ByteArray} {rl : List Rn} (h : PS ad l s rl) (a b : Nat) (hab : a ≤ b) : txt ad (someC a b 0 l) = bytesOf (s.extract a b) ∧ lab (someC a b 0 l) = bytesR (sli rl a b) := by
  have hg := (goodT_good h.gt).1
  rw [someC_txt a b l 0 h.g, someC_lab a b l 0 h.g, h.t, h.l, Nat.sub_zero, Nat.sub_zero, bytesOf_ext, (sli_ok hg a b hab).2]
  exact ⟨rfl, rfl⟩
def midC (n : Nat) (x : ByteArray) (m : List Rn) : List Co := if 0 < x.size then [⟨n, x.size, m⟩] else []
theorem bytesR_len {x : ByteArray} {m : List Rn} (h : goodT x m = true) : (bytesR m).length = x.size := (goodT_good h).2
theorem PS.put {ad : List Int} {l : List Co} {s : ByteArray} {rl : List Rn} (h : PS ad l s rl) {x : ByteArray} {m : List Rn} (hx : goodT x m = true) (a b : Nat) (hab : a ≤ b) (hb : b ≤ s.size) (h4 : s.size - (b - a) + x.size ≤ 4096) : PS (ad ++ bytesOf x) (someC 0 a 0 l ++ midC ad.length x m ++ someC b s.size 0 l) (sS s a b x) (spl rl a b m) := by
  have hg := (goodT_good h.gt).1
  have hm := (goodT_good hx).1
  have hn := (goodT_good h.gt).2
  have hxl := bytesR_len hx
  have hl : (bytesOf s).length = s.size := bytesOf_length s
  have hlr : (bytesR rl).length = s.size := hn
  have g1 := someC_good 0 a l 0 h.g
  have g2 := someC_good b s.size l 0 h.g
  have hlen : (ad ++ bytesOf x).length = ad.length + x.size := by rw [List.length_append, bytesOf_length]
  have mono : ∀ p, GoodP ad.length p → GoodP (ad ++ bytesOf x).length p := fun p hp => ⟨by have := hp.f; omega, hp.g, hp.n, hp.p⟩
  have gm : ∀ p, p ∈ midC ad.length x m → GoodP (ad ++ bytesOf x).length p := by
    intro p hp
    unfold midC at hp
    by_cases c : 0 < x.size
    · rw [if_pos c] at hp
      obtain rfl := List.mem_singleton.1 hp
      exact ⟨by rw [hlen]; exact Nat.le_refl _, hm, hxl, c⟩
    · rw [if_neg c] at hp
      exact (List.not_mem_nil hp).elim
  have tm : txt (ad ++ bytesOf x) (midC ad.length x m) = bytesOf x := by
    unfold midC
    by_cases c : 0 < x.size
    · rw [if_pos c, txt_cons]
      show _ ++ [] = _
      rw [List.append_nil, List.drop_append_of_le_length (Nat.le_refl _), List.drop_length, List.nil_append, List.take_of_length_le (by rw [bytesOf_length]; exact Nat.le_refl _)]
    · rw [if_neg c]
      exact (List.eq_nil_of_length_eq_zero (by rw [bytesOf_length]; omega)).symm
  have lm : lab (midC ad.length x m) = bytesR m := by
    unfold midC
    by_cases c : 0 < x.size
    · rw [if_pos c, lab_cons]
      exact List.append_nil _
    · rw [if_neg c]
      exact (List.eq_nil_of_length_eq_zero (by omega)).symm
  refine ⟨fun p hp => ?_, ?_, ?_, splice_good h.gt hx hab hb h4⟩
  · rcases List.mem_append.1 hp with hp | hp
    · rcases List.mem_append.1 hp with hp | hp
      · exact mono p (g1 p hp)
      · exact gm p hp
    · exact mono p (g2 p hp)
  · rw [txt_append, txt_append, txt_more g1, txt_more g2, tm, someC_txt 0 a l 0 h.g, someC_txt b s.size l 0 h.g, h.t, bytesOf_sS s x a b hb, Nat.sub_zero, Nat.sub_zero, Nat.sub_zero, Nat.sub_zero, List.drop_zero, List.take_of_length_le (Nat.le_of_eq hl)]
  · rw [lab_append, lab_append, lm, someC_lab 0 a l 0 h.g, someC_lab b s.size l 0 h.g, h.l, (spl_ok hg hm a b hab (by rw [hn]; exact hb)).2, Nat.sub_zero, Nat.sub_zero, Nat.sub_zero, Nat.sub_zero, List.drop_zero, List.take_of_length_le (Nat.le_of_eq hlr)]
theorem bO_len (s : ByteArray) : (bytesOf s).length = s.size := bytesOf_length s
theorem nums_str (xs : List Int) (y : ByteArray) : nums .u8 (xs ++ bytesOf y) = nums .u8 xs ++ Lib.strCells y := by
  rw [nums_append]
  congr 1
  simp [nums, bytesOf, Lib.strCells]

end Go.Proofs.Ytgaggoglbkcomaa.Ext

set_option linter.unusedVariables false
set_option linter.unusedSimpArgs false
namespace Go.Proofs.Ytgaggoglbkcomaa.Ext
open Go.RowKit Go.Lib Go.Proofs.YtgaggoglbkcomaaW.PrintWords Go.Proofs.YtgaggoglbkcomaaW.PrintMore Go.Proofs.Ytgaggoglbkcomaa.XRR

theorem copy_runs (w : World) (dT sT ty elem : TypeId) (g n dCap : Nat) (a : Addr) (sCap : Nat) (cur : Array Value) (t : TypeId) (cs : List Value)
    (hu : Try.prog.underlying dT = some (.slice elem)) (hs : (Try.prog.info? elem).map (·.size) = some 2)
    (hg : w.heap[g]? = some (.cells cur t (0, 0))) (hn : cs.length = n * 2)
    (hsrc : ∀ j v, cs[j]? = some v → w.cell? (a.add j) = some v) (hfit : cur.size = n * 2) (h1 : ∀ v ∈ cs, v.oneCell' = true) :
    (Builtin.copy_ #[dT, sT] ty #[.slice (some ⟨g, 0, none⟩) n dCap, .slice (some a) n sCap]).run Try.prog w = .ok (goInt n) (w.setRow g cs.toArray) := by
  have hl := run_loadCells_list (P := Try.prog) w a cs hsrc
  have hst := run_storeCells_at Try.prog g 0 t cs 0 cur w hg (by omega) h1
  have hc : (cur.toList.take (0 + 0) ++ cs ++ cur.toList.drop (0 + 0 + cs.length)).toArray = cs.toArray := by
    rw [show 0 + 0 + cs.length = cur.toList.length from by have h := Array.length_toList (xs := cur); omega, List.drop_length]
    simp
  rw [hc] at hst
  rw [hn] at hl
  cases hq : Try.prog.info? elem with
  | none => simp [hq] at hs
  | some i =>
    have hi : i.size = 2 := by simpa [hq] using hs
    simp [Builtin.copy_, run_underlying hu, Builtin.lenOf, Builtin.firstCells, sizeOf, typeInfo, hq, hi, hl, hst]
theorem runs_of_copy {w0 w' : World} {base g : Nat} {m : List Rn} {news : List Value} (hg : w'.heap[g]? = some (.cells news.toArray 29 (0, 0))) (hb : base ≤ g) (hr : Reps (k29.K w0) 2 m news) (hn : news.length = m.length * 2) (hl : m.length ≤ 100000) : RR w' base (.slice (some ⟨g, 0, none⟩) m.length m.length) m := by
  refine ⟨fun _ _ => trivial, news, ⟨hn, .inr ⟨g, m.length, news.toArray, rfl, hb, hg, Nat.le_refl _, by unfold maxLen; omega, (show news.toArray.size = m.length * 2 by rw [List.size_toArray]; exact hn), ?_⟩⟩, hr.imp_ (fun _ _ h => h)⟩
  show List.take (m.length * 2) news.toArray.toList = news
  rw [← hn]
  simp
theorem splZ_end {l m : List Rn} (hl : goodB l = true) (hm : goodB m = true) (h4 : nB l + nB m ≤ 4096) : splZ l (nB l) (nB l) m = (spl l (nB l) (nB l) m, 0) := by
  have hw : withinB l (nB l) (nB l) = true := by
    unfold withinB
    rw [hl, decide_eq_true (by omega), decide_eq_true (by omega)]
    rfl
  unfold splZ
  rw [hw, hm, if_pos (by rfl), if_neg (by omega)]
set_option maxRecDepth 100000 in
set_option maxHeartbeats 4000000 in
theorem CatR_w (w : World) (A A2 : Option Addr) (c c2 : Nat) (l m : List Rn) (hr : CC w A l) (hc : l.length ≤ c) (hr2 : CC w A2 m) (hc2 : m.length ≤ c2) (hl : goodB l = true) (hm : goodB m = true) (h4 : nB l + nB m ≤ 4096) :
    Calls Try.prog 40 #[sv A l c, sv A2 m c2] w fun e w' => ∃ A' c', e = .returned (.tuple #[sv A' (spl l (nB l) (nB l) m) c', .int .i64 0]) ∧ RR w' w.heap.size (sv A' (spl l (nB l) (nB l) m) c') (spl l (nB l) (nB l) m) ∧ Below w.heap.size w w' := by
  have e1 := good_len hl
  have e2 := good_len hm
  have HG1 := Aside0.mk (fun (W : World) (hb : Below w.heap.size w W) => runs_Good.calls (l.length + 2 + l.length) A c l true W (Kd.C_below hr hb) hc (by rw [Good_k l (by omega) _ (Nat.le_refl _), hl]))
  have HG2 := Aside0.mk (fun (W : World) (hb : Below w.heap.size w W) => runs_Good.calls (m.length + 2 + m.length) A2 c2 m true W (Kd.C_below hr2 hb) hc2 (by rw [Good_k m (by omega) _ (Nat.le_refl _), hm]))
  have HT := Aside0.mk (fun (W : World) (hb : Below w.heap.size w W) => runs_Total.calls (l.length + 1) A c l (nB l : Nat) W (Kd.C_below hr hb) hc (by rw [Total_k l (by omega) _ (Nat.le_refl _), good_tot hl]))
  have HSP : Aside0 (∀ (W : World), Below w.heap.size w W → Calls Try.prog 47 #[sv A l c, .int .i64 (nB l : Nat), .int .i64 (nB l : Nat), sv A2 m c2] W fun e w' => ∃ A' c', e = .returned (.tuple #[sv A' (spl l (nB l) (nB l) m) c', .int .i64 0]) ∧ RR w' W.heap.size (sv A' (spl l (nB l) (nB l) m) c') (spl l (nB l) (nB l) m) ∧ Below W.heap.size W w') := ⟨fun W hb => (Splice_w W A A2 c c2 l m (nB l) (nB l) (Kd.C_below hr hb) hc (Kd.C_below hr2 hb) hc2 (by omega) (by omega)).mono fun e w' ⟨v0, he, hR, hB⟩ => by
    rw [splZ_end hl hm h4] at he hR
    obtain ⟨A', c', rfl⟩ := Kd.R_slice hR
    exact ⟨A', c', he, hR, hB⟩⟩
  have HB := Aside0.mk (Below.refl w.heap.size w)
  clear hr hr2 hc hc2 hl hm h4 e1 e2
  generalize nB l = n at *
  go_enter Try.func40, Try.ntmps40
  go_wp2_with (first | (go_at_call 50; (with_reducible first | refine (HG1.out _ HB.out).mono ?_ | refine (HG2.out _ HB.out).mono ?_); rintro e w1 ⟨rfl, hb1⟩; have HB := Aside0.mk (below_step HB.out hb1); clear hb1) | (go_at_call 51; (with_reducible refine (HT.out _ HB.out).mono ?_); rintro e w1 ⟨rfl, hb1⟩; have HB := Aside0.mk (below_step HB.out hb1); clear hb1) | (go_at_call 47; (with_reducible refine (HSP.out _ HB.out).mono ?_); rintro e w1 ⟨A', c', rfl, hR, hb1⟩; have HR := Aside0.mk (Kd.R_lower hR HB.out.size : RR w1 w.heap.size _ _); have HB := Aside0.mk (below_step HB.out hb1); clear hb1 hR))
  go_ret2
  exact ⟨A', c', rfl, HR.out, HB.out⟩

end Go.Proofs.Ytgaggoglbkcomaa.Ext
