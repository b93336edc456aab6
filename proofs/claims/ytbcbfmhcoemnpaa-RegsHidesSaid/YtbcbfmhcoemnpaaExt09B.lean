/- regs: good and put, by their walks. -/
import Derived.Test.YtbcbfmhcoemnpaaExt09A
import Derived.Test.YtbcbfmhcoemnpaaXRRx2
import Derived.Test.YtbcbfmhcoemnpaaXRRx3
import Derived.Test.YtbcbfmhcoemnpaaXRRx4
import Derived.Test.YtbcbfmhcoemnpaaXRRx0
import Derived.Test.YtbcbfmhcoemnpaaWMore
import Derived.WalkKit
import Derived.WalkMore
import Derived.Below
import Derived.KernelRfl
import Derived.LoopTactic
import Derived.Deep.RegionWith
import Derived.Deep.RegionHeld3
import Derived.IntWalk
import Derived.Deep.DeepCutAuto
import Derived.Deep.CutBlock
import Derived.BigQuiet
import Derived.Laws.RangeString
import Derived.Laws.RangeAny
import Derived.Laws.Rows
import Derived.Laws.Runes
import Derived.Lib.OthersKept
import Derived.OpenShut
set_option linter.unusedVariables false
set_option linter.unusedSimpArgs false
namespace Go.Proofs.Ytbcbfmhcoemnpaa.Ext
open Go.RowKit Go.Lib Go.Proofs.YtbcbfmhcoemnpaaW.PrintWords Go.Proofs.YtbcbfmhcoemnpaaW.PrintMore Go.Proofs.Ytbcbfmhcoemnpaa.XRR

variable {bs : Nat}
/-- An entry. -/
structure En where
  s : ByteArray
  l : List Rn
  b : Bool
abbrev hv (x : En) : Hs := ⟨true, x.s, x.l, x.b⟩
abbrev eV (s : ByteArray) (v : Value) (b : Bool) : Value := .agg #[.string s, v, .bool b]
def putM (g : List Hs) (x : En) (ks : List Nat) : List Hs := ks.foldl (fun g k => g.set k (hv x)) g
theorem own_w (w : World) (s : ByteArray) (A : Option Addr) (c : Nat) (l : List Rn) (b : Bool) (hr : Kd.C k58 w A l.length l) (hc : l.length ≤ c) (hl : l.length ≤ 100000) :
    Calls Try.prog 27 #[eV s (.slice A l.length c) b] w fun e w' => ∃ v : Value, e = .returned (eV s v b) ∧ Kd.R k58 58 w' w.heap.size (fun _ => True) v l ∧ Below w.heap.size w w' :=
  regs_own.calls s A c l b s l b w hr hc (by
    unfold regs_own.f
    rw [if_pos (show ([] : List Rn).length + l.length < 8796093022208 by rw [List.length_nil]; omega), List.nil_append])
theorem good_w (w : World) (B : Nat) (g : List Hs) (vs : List Value) (h : RG bs w B g vs) :
    Calls Try.prog 26 #[.pointer (some ⟨B, 0, none⟩)] w fun e w' => e = .returned (.bool true) ∧ w = w' := by
  have c0 := h.made
  have f0 := h.free 0
  have lb := h.lt
  clear h
  go_enter Try.func26, Try.ntmps26
  go_wp2
  go_ret
  exact ⟨rfl, rfl⟩
theorem good_nil (w : World) : Calls Try.prog 26 #[.pointer none] w fun e w' => e = .returned (.bool false) ∧ w = w' := by
  go_enter Try.func26, Try.ntmps26
  go_wp2
  go_ret
  exact ⟨rfl, rfl⟩
theorem good_zero (w : World) (B : Nat) (c0 : w.cell? ⟨B, 0, none⟩ = some (.bool false)) (f0 : w.frozen? ⟨B, 0, none⟩ = false) :
    Calls Try.prog 26 #[.pointer (some ⟨B, 0, none⟩)] w fun e w' => e = .returned (.bool false) ∧ w = w' := by
  go_enter Try.func26, Try.ntmps26
  go_wp2
  go_ret
  exact ⟨rfl, rfl⟩
/-- A box that holds an entry. -/
structure EX (w : World) (p : Nat) (s : ByteArray) (v : Value) (b : Bool) : Prop where
  x : w.heap[p]? = some (.cells #[.string s, v, .bool b] 33 (0, 0))
theorem EX.below {w w' : World} {p : Nat} {s : ByteArray} {v : Value} {b : Bool} (h : EX w p s v b) (hb : Below w.heap.size w w') : EX w' p s v b := ⟨(hb.block p (blk_lt h.x)).trans h.x⟩
theorem EX.far {w w' : World} {p B : Nat} {s : ByteArray} {v : Value} {b : Bool} (h : EX w p s v b) (hg : w.grownBy w' (some B)) (hne : p ≠ B) : EX w' p s v b := ⟨blk_grown h.x hg (fun e => hne (by injection e))⟩
theorem EX.cells {w : World} {p : Nat} {s : ByteArray} {v : Value} {b : Bool} (h : EX w p s v b) : w.cell? ⟨p, 0, none⟩ = some (.string s) ∧ w.cell? ⟨p, 1, none⟩ = some v ∧ w.cell? ⟨p, 2, none⟩ = some (.bool b) ∧ w.frozen? ⟨p, 0, none⟩ = false ∧ w.frozen? ⟨p, 1, none⟩ = false ∧ w.frozen? ⟨p, 2, none⟩ = false :=
  ⟨cell_of_row w p 0 _ _ _ h.x, cell_of_row w p 1 _ _ _ h.x, cell_of_row w p 2 _ _ _ h.x, frozen_of_row w p 0 _ _ h.x, frozen_of_row w p 1 _ _ h.x, frozen_of_row w p 2 _ _ h.x⟩
theorem EX.put {w : World} {p B : Nat} {s : ByteArray} {v : Value} {b : Bool} (h : EX w p s v b) (hne : p ≠ B) (i : Nat) (x : Hs) (u : Value) : EX (put4 w B i x u) p s v b := ⟨(put4_far w B i x u p hne).trans h.x⟩
theorem put4_grown (w : World) (B i : Nat) (x : Hs) (v : Value) : w.grownBy (put4 w B i x v) (some B) := ⟨rfl, rfl, rfl, by simp [put4], fun k hk hne => put4_far w B i x v k (fun e => hne (by rw [e]))⟩
theorem EX.limbs {w : World} {p : Nat} {s : ByteArray} {v : Value} {b : Bool} (h : EX w p s v b) : w.cell? ⟨p, 0, none⟩ = some (.string s) ∧ w.cell? ⟨p, 1, none⟩ = some v ∧ w.cell? ⟨p, 2, none⟩ = some (.bool b) := ⟨h.cells.1, h.cells.2.1, h.cells.2.2.1⟩
theorem two_grown {w w1 w2 : World} {B : Nat} (h : w.grownBy w1 (some B)) (h2 : w1.grownBy w2 (some B)) : w.grownBy w2 (some B) := ⟨h2.os.trans h.os, h2.tape.trans h.tape, h2.output.trans h.output, Nat.le_trans h.size h2.size, fun k hk hne => (h2.block k (Nat.lt_of_lt_of_le hk h.size) hne).trans (h.block k hk hne)⟩
theorem next_i {j n : Nat} (hj : j < n) (hn : n ≤ 4611686018427387904) : wrap64 ((j : Int) + 1) = ((j + 1 : Nat) : Int) ∧ n - (intOf (.int .i64 (wrap64 ((j : Int) + 1)))).toNat < n - (intOf (.int .i64 (j : Int))).toNat := by
  have e : wrap64 ((j : Int) + 1) = ((j + 1 : Nat) : Int) := by rw [IntWalk.wrap64_in _ ⟨by omega, by omega⟩]; omega
  refine ⟨e, ?_⟩
  rw [e]
  simp only [intOf, Int.toNat_natCast]
  omega
theorem EX.new (w : World) (s : ByteArray) (v : Value) (b : Bool) : EX (w.alloc (.cells #[.string s, v, .bool b] 33)) w.heap.size s v b := ⟨heap_alloc_new _ _⟩
set_option maxRecDepth 100000 in
set_option maxHeartbeats 8000000 in
theorem put_w (w : World) (B D : Nat) (g : List Hs) (vs : List Value) (x : En) (A : Option Addr) (c k m : Nat) (h : RG bs w B g vs) (hr : Kd.C k58 w A x.l.length x.l) (hrB : ∀ w', w.grownBy w' (some B) → Kd.C k58 w' A x.l.length x.l) (hc : x.l.length ≤ c) (hl : x.l.length ≤ 100000) (hk : w.heap[D]? = some (.cells #[.int .i64 (k : Int), .int .i64 (m : Int)] 3 (0, 0))) (h38 : k < 38) (hm38 : m < 38) :
    Calls Try.prog 22 #[.pointer (some ⟨B, 0, none⟩), eV x.s (.slice A x.l.length c) x.b, .slice (some ⟨D, 0, none⟩) 2 2] w fun e w' => e = .returned (.tuple #[]) ∧ (∃ vs', RG bs w' B (putM g x [k, m]) vs') ∧ w.grownBy w' (some B) := by
  have lB := h.lt
  have lD := blk_lt hk
  go_enter Try.func22, Try.ntmps22
  go_wp2
  have hb1 : Below w.heap.size w (w.alloc (.cells #[.string x.s, .slice A x.l.length c, .bool x.b] 33)) := below_alloc (Below.refl _ _) _
  go_loopw [10] (fun i wr => ∃ j : Nat, ∃ vs', j ≤ 2 ∧ i = .int .i64 j ∧ Aside0 (RG bs wr B (putM g x ([k, m].take j)) vs' ∧ w.grownBy wr (some B) ∧ EX wr w.heap.size x.s (.slice A x.l.length c) x.b)) (fun i _ => 2 - (intOf i).toNat)
  case atStart => exact ⟨0, vs, by omega, rfl, ⟨h.below hb1, grown_of_below hb1 _, EX.new _ _ _ _⟩⟩
  case round =>
    obtain ⟨j, vs', hj, rfl, ⟨hG, hW, hE⟩⟩ := hrel
    have HW := Aside0.mk hW
    have hne : w.heap.size ≠ B := by omega
    have hdr : wr.heap[D]? = some (.cells #[.int .i64 (k : Int), .int .i64 (m : Int)] 3 (0, 0)) := blk_grown hk hW (fun e => by
      injection e with e
      subst e
      rw [h.x] at hk
      cases hk)
    have hrr : Kd.C k58 wr A x.l.length x.l := hrB wr hW
    by_cases hlt : j < 2
    · obtain ⟨q, hq38, hq, dq⟩ : ∃ q : Nat, q < 38 ∧ putM g x ([k, m].take (j + 1)) = (putM g x ([k, m].take j)).set q (hv x) ∧ wr.cell? ⟨D, j, none⟩ = some (.int .i64 (q : Int)) := by
        obtain rfl | rfl : j = 0 ∨ j = 1 := by omega
        · exact ⟨k, h38, rfl, cell_of_row wr D 0 _ _ _ hdr⟩
        · exact ⟨m, hm38, rfl, cell_of_row wr D 1 _ _ _ hdr⟩
      obtain ⟨a0, a1, a2, -, -, -⟩ := hE.cells
      have HOW := Aside0.mk (fun (w1 : World) (hb : Below wr.heap.size wr w1) => own_w w1 x.s A c x.l x.b (Kd.C_below hrr hb) hc hl)
      have HG := Aside0.mk hG
      have HE := Aside0.mk hE
      have HQ := Aside0.mk hq
      have q0 : (0 : Int) ≤ (q : Int) := by omega
      have q1 : (q : Int) < 38 := by omega
      have j0 : (0 : Int) ≤ (j : Int) := by omega
      have j1 : (j : Int) < 2 := by omega
      clear hb1 h hr hk hW hG hE hdr hrr hrB hq hc hl h38 hm38
      go_wp2
      have HJ := Aside0.mk hlt
      clear dq hj hlt j0 j1
      go_region_held3 (fun w' => w'.cell? ⟨w.heap.size, 0, none⟩ = some (.string x.s) ∧ w'.cell? ⟨w.heap.size, 1, none⟩ = some (.slice A x.l.length c) ∧ w'.cell? ⟨w.heap.size, 2, none⟩ = some (.bool x.b)) (first | exact ⟨a0, a1, a2⟩ | exact HP7.out) (first | (go_at_call 27; (with_reducible refine (HOW.out _ ?sb).mono ?_); (case sb => exact (by repeat (first | (with_reducible first | exact Below.refl _ _ | apply pw_below_drewN | apply below_alloc | apply below_drew) | exact Below.refl _ _))); rintro e w7 ⟨v7, rfl, hr7, hb7⟩; obtain ⟨A7, c7, e7⟩ := Kd.R_slice hr7; subst e7; have HR7 := Aside0.mk hr7; have HB7 := Aside0.mk (below_step (by repeat (first | (with_reducible first | exact Below.refl _ _ | apply pw_below_drewN | apply below_alloc | apply below_drew) | exact Below.refl _ _)) hb7 : Below wr.heap.size wr w7); have HG7 := Aside0.mk (HG.out.below HB7.out); have HE7 := Aside0.mk (HE.out.below HB7.out); have HP7 := Aside0.mk (EX.limbs (HE7.out.put hne q (hv x) (.slice A7 x.l.length c7))); clear a0 a1 a2; obtain ⟨a0, a1, a2, -, -, -⟩ := HE7.out.cells; obtain ⟨s0, s1, s2, s3⟩ := HG7.out.cells q hq38; have q0 := HG7.out.free (1 + q * 4); have q1 := HG7.out.free (1 + q * 4 + 1); have q2 := HG7.out.free (1 + q * 4 + 2); have q3 := HG7.out.free (1 + q * 4 + 3); have lb7 := HG7.out.lt; clear hr7 hb7))
      all_goals (
        have HN : Aside0 (RG bs (put4 w7 B q (hv x) (.slice A7 x.l.length c7)) B (putM g x ([k, m].take (j + 1))) (vs'.set q (.slice A7 x.l.length c7)) ∧ w.grownBy (put4 w7 B q (hv x) (.slice A7 x.l.length c7)) (some B) ∧ EX (put4 w7 B q (hv x) (.slice A7 x.l.length c7)) w.heap.size x.s (.slice A x.l.length c) x.b) := ⟨by rw [HQ.out]; exact HG7.out.put q hq38 (hv x) _ (Kd.R_lower HR7.out HG.out.lb), two_grown HW.out (two_grown (grown_of_below HB7.out _) (put4_grown _ _ _ _ _)), HE7.out.put hne q (hv x) _⟩
        have hj2 : Aside0 (j < 2) := HJ
        refine (?_ : Exit.inBlock _ _ _ _ (put4 w7 B q (hv x) (.slice A7 x.l.length c7)))
        generalize put4 w7 B q (hv x) (.slice A7 x.l.length c7) = w8 at HN ⊢
        generalize vs'.set q (.slice A7 x.l.length c7) = vs8 at HN
        clear HW HG HE HQ HR7 HB7 HG7 HE7 HP7 a0 a1 a2 s0 s1 s2 s3 q0 q1 q2 q3 lb7 HOW
        go_wp2
        have hj2 := hj2.out
        exact ⟨⟨j + 1, vs8, hj2, congrArg (Value.int .i64) (next_i hj2 (by decide)).1, HN⟩, (next_i hj2 (by decide)).2⟩)
    · have hj2 : j = 2 := by omega
      subst hj2
      have HH := Aside0.mk (⟨hG, hW⟩ : _ ∧ _)
      clear hb1 h hr hk hW hG hE hdr hrr hrB
      go_wp2
      go_end0
      exact ⟨rfl, ⟨vs', HH.out.1⟩, HH.out.2⟩

end Go.Proofs.Ytbcbfmhcoemnpaa.Ext
