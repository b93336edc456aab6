/- The law WholeReplays, by its walk. -/
import Derived.Test.YtgaggoglbkcomaaExtSF
import Derived.Test.YtgaggoglbkcomaaExtSE
import Derived.Test.YtgaggoglbkcomaaXWRx1
import Derived.Test.YtgaggoglbkcomaaXRRx3
import Derived.Test.YtgaggoglbkcomaaXRRx5
import Derived.Test.YtgaggoglbkcomaaXRRx0
import Derived.Test.YtgaggoglbkcomaaXWLx0
import Derived.Test.YtgaggoglbkcomaaWMore
import Derived.WalkKit
import Derived.WalkMore
import Derived.Below
import Derived.KernelRfl
import Derived.LoopTactic
import Derived.Deep.RegionWith
import Derived.Deep.RegionHeld3
import Derived.IntWalk
import Derived.Deep.DeepCutAuto
import Derived.Deep.CutBlock
import Derived.BigQuiet
import Derived.Laws.RangeString
import Derived.Laws.RangeAny
import Derived.Laws.Rows
import Derived.Laws.Runes
import Derived.Lib.OthersKept
import Derived.OpenShut
set_option linter.unusedVariables false
set_option linter.unusedSimpArgs false
namespace Go.Proofs.Ytgaggoglbkcomaa.Ext
open Go.RowKit Go.Lib Go.Proofs.YtgaggoglbkcomaaW.PrintWords Go.Proofs.YtgaggoglbkcomaaW.PrintMore Go.Proofs.Ytgaggoglbkcomaa.XRR Go.Proofs.Ytgaggoglbkcomaa.XWL Go.Proofs.Ytgaggoglbkcomaa.XWR

abbrev sAB : ByteArray := ⟨#[97, 98]⟩
abbrev lAB : List Rn := [⟨1, 2⟩]
def eAB : Ed := ⟨1, 2, ⟨#[]⟩, []⟩
theorem okAB : EdOk sAB lAB eAB := ⟨by decide, by decide, by decide, by decide, by decide⟩
theorem folAB : edit_Follow.f 10000 eAB.a (sAB.extract eAB.a eAB.b) (sli lAB eAB.a eAB.b) eAB.x eAB.m 2 = some 1 := by
  unfold edit_Follow.f
  rw [ed_good okAB 10000 (Nat.le_refl _), Option.bind_some, if_pos rfl, if_neg (by decide)]
  rw [show (10000 : Nat) = 9999 + 1 from rfl, fol_j, ext_size (by decide) (by decide)]
  decide +kernel
abbrev A3 (w : World) (s0 : ByteArray) (v0 : Value) : World := ((w.alloc (.cells #[.string s0, v0] 24)).alloc (.cells #[.int .u64 1, .int .i64 2] 29)).alloc (.cells #[.string sAB, .slice (some ⟨w.heap.size + 1, 0, none⟩) 1 1] 24)
structure P1 (w wr : World) (s0 : ByteArray) (v0 : Value) : Prop where
  b : Below w.heap.size w wr
  t : BX wr w.heap.size s0 v0
  a : BX wr (w.heap.size + 1 + 1) sAB (.slice (some ⟨w.heap.size + 1, 0, none⟩) 1 1)
  c : CC wr (some ⟨w.heap.size + 1, 0, none⟩) lAB
theorem P1.below {w wr w' : World} {s0 : ByteArray} {v0 : Value} (h : P1 w wr s0 v0) (hb : Below wr.heap.size wr w') : P1 w w' s0 v0 := ⟨below_step h.b hb, h.t.below hb, h.a.below hb, Kd.C_below h.c hb⟩
theorem A3_facts (w : World) (s0 : ByteArray) (v0 : Value) : P1 w (A3 w s0 v0) s0 v0 := by
  have e1 : (w.alloc (.cells #[.string s0, v0] 24)).heap.size = w.heap.size + 1 := by simp
  have e2 : ((w.alloc (.cells #[.string s0, v0] 24)).alloc (.cells #[.int .u64 1, .int .i64 2] 29)).heap.size = w.heap.size + 1 + 1 := by simp
  refine ⟨below_alloc (below_alloc (below_alloc (Below.refl _ _) _) _) _, ⟨?_⟩, ⟨?_⟩, C_lit ?_⟩
  · rw [Below.heap_alloc _ _ _ (by omega), Below.heap_alloc _ _ _ (by omega)]
    exact heap_alloc_new _ _
  · have := heap_alloc_new ((w.alloc (.cells #[.string s0, v0] 24)).alloc (.cells #[.int .u64 1, .int .i64 2] 29)) (.cells #[.string sAB, .slice (some ⟨w.heap.size + 1, 0, none⟩) 1 1] 24)
    rwa [e2] at this
  · rw [Below.heap_alloc _ _ _ (by omega)]
    have := heap_alloc_new (w.alloc (.cells #[.string s0, v0] 24)) (.cells #[.int .u64 1, .int .i64 2] 29)
    rwa [e1] at this
abbrev oA : ByteArray := sAB.extract eAB.a eAB.b
abbrev lA : List Rn := sli lAB eAB.a eAB.b
structure P2 (w wr : World) (s0 : ByteArray) (v0 : Value) (p : Nat) (Ao : Option Addr) (co : Nat) (Am : Option Addr) (cm : Nat) : Prop where
  p1 : P1 w wr s0 v0
  e : EB wr p eAB.a oA (sv Ao lA co) eAB.x (sv Am eAB.m cm)
  o : RR wr w.heap.size (sv Ao lA co) lA
  m : RR wr w.heap.size (sv Am eAB.m cm) eAB.m
theorem P2.below {w wr w' : World} {s0 : ByteArray} {v0 : Value} {p : Nat} {Ao : Option Addr} {co : Nat} {Am : Option Addr} {cm : Nat} (h : P2 w wr s0 v0 p Ao co Am cm) (hb : Below wr.heap.size wr w') : P2 w w' s0 v0 p Ao co Am cm := ⟨h.p1.below hb, h.e.below hb, Kd.R_below h.o hb, Kd.R_below h.m hb⟩
theorem P2.mk' {w W w2 : World} {s0 : ByteArray} {v0 : Value} {Ao : Option Addr} {co : Nat} {Am : Option Addr} {cm : Nat} (h : P1 w W s0 v0) (ho : RR w2 W.heap.size (sv Ao lA co) lA) (hm : RR w2 W.heap.size (sv Am eAB.m cm) eAB.m) (hb : Below W.heap.size W w2) : P2 w (w2.alloc (.cells #[.int .i64 (eAB.a : Int), .string oA, sv Ao lA co, .string eAB.x, sv Am eAB.m cm] 31)) s0 v0 w2.heap.size Ao co Am cm :=
  ⟨(h.below hb).below (below_alloc (Below.refl _ _) _), ⟨heap_alloc_new _ _⟩, Kd.R_below (Kd.R_lower ho h.b.size) (below_alloc (Below.refl _ _) _), Kd.R_below (Kd.R_lower hm h.b.size) (below_alloc (Below.refl _ _) _)⟩
theorem WL.start {w wr : World} {s0 : ByteArray} {l0 : List Rn} {A0 : Option Addr} {c0 : Nat} {p : Nat} {Ao : Option Addr} {co : Nat} {Am : Option Addr} {cm : Nat} (h : P2 w wr s0 (sv A0 l0 c0) p Ao co Am cm) (hr : CC w A0 l0) (hc : l0.length ≤ c0) : WL w (wr.alloc (.cells #[.string s0, sv A0 l0 c0] 24)) w.heap.size wr.heap.size s0 (sv A0 l0 c0) s0 l0 A0 c0 [] (.slice none 0 0) :=
  ⟨below_alloc h.p1.b _, h.p1.t.below (below_alloc (Below.refl _ _) _), ⟨heap_alloc_new _ _⟩, ⟨hc, .inl hr⟩, Kd.R_nil _ _ _ _ _, fun d hd => (List.not_mem_nil hd).elim, Nat.ne_of_lt h.p1.t.lt, h.p1.b.size⟩
/-- The text turned, the edit still in its box. -/
structure X3 (w wr : World) (T N8 : Nat) (s0 : ByteArray) (v0 : Value) (s : ByteArray) (l : List Rn) (A : Option Addr) (c : Nat) (D : List De) (vd : Value) (d : De) (p : Nat) : Prop where
  L : WL w wr T N8 s0 v0 s l A c D vd
  eb : EB wr p d.e.a (d.s.extract d.e.a d.e.b) (sv d.Ao (sli d.l d.e.a d.e.b) d.co) d.e.x (sv d.Am d.e.m d.cm)
  o : Rd w wr d.Ao d.co (sli d.l d.e.a d.e.b)
  m : Rd w wr d.Am d.cm d.e.m
theorem X3.below {w wr w' : World} {T N8 : Nat} {s0 : ByteArray} {v0 : Value} {s : ByteArray} {l : List Rn} {A : Option Addr} {c : Nat} {D : List De} {vd : Value} {d : De} {p : Nat} (h : X3 w wr T N8 s0 v0 s l A c D vd d p) (hb : Below wr.heap.size wr w') : X3 w w' T N8 s0 v0 s l A c D vd d p := ⟨h.L.below hb, h.eb.below hb, h.o.below hb, h.m.below hb⟩
theorem X3.put {w wr : World} {T N8 : Nat} {s0 : ByteArray} {v0 : Value} {s : ByteArray} {l : List Rn} {A : Option Addr} {c : Nat} {D : List De} {vd : Value} {e : Ed} {p : Nat} {Ao : Option Addr} {co : Nat} {Am : Option Addr} {cm p8 : Nat} {A8 : Option Addr} {c8 : Nat} (h : X2 w wr T N8 s0 v0 s l A c D vd e p Ao co Am cm p8 A8 c8) : X3 w ((wr.setCell ⟨N8, 0, none⟩ (.string (sS s e.a e.b e.x))).setCell ⟨N8, 1, none⟩ (sv A8 (spl l e.a e.b e.m) c8)) T N8 s0 v0 (sS s e.a e.b e.x) (spl l e.a e.b e.m) A8 c8 D vd ⟨e, s, l, Ao, co, Am, cm⟩ p := by
  have hne : p ≠ N8 := fun hc => by
    have h1 := h.X.eb.x
    rw [hc, h.X.L.n.x] at h1
    cases h1
  refine ⟨h.X.L.put h.r, ⟨?_⟩, h.X.o.box h.X.L.n _ _, h.X.m.box h.X.L.n _ _⟩
  rw [heap_setCell_other _ _ _ _ (by exact hne), heap_setCell_other _ _ _ _ (by exact hne)]
  exact h.X.eb.x
/-- An edit was turned about. -/
structure Y0 (w wr : World) (T N8 : Nat) (s0 : ByteArray) (v0 : Value) (s : ByteArray) (l : List Rn) (A : Option Addr) (c : Nat) (D : List De) (vd : Value) (d : De) (A2 : Option Addr) (c2 : Nat) (A4 : Option Addr) (c4 : Nat) : Prop where
  L : WL w wr T N8 s0 v0 s l A c D vd
  x : Rd w wr A2 c2 d.e.m
  o : Rd w wr A4 c4 (sli d.l d.e.a d.e.b)
theorem Y0.below {w wr w' : World} {T N8 : Nat} {s0 : ByteArray} {v0 : Value} {s : ByteArray} {l : List Rn} {A : Option Addr} {c : Nat} {D : List De} {vd : Value} {d : De} {A2 : Option Addr} {c2 : Nat} {A4 : Option Addr} {c4 : Nat} (h : Y0 w wr T N8 s0 v0 s l A c D vd d A2 c2 A4 c4) (hb : Below wr.heap.size wr w') : Y0 w w' T N8 s0 v0 s l A c D vd d A2 c2 A4 c4 := ⟨h.L.below hb, h.x.below hb, h.o.below hb⟩
/-- What it left lies in a box. -/
structure Y1 (w wr : World) (T N8 : Nat) (s0 : ByteArray) (v0 : Value) (s : ByteArray) (l : List Rn) (A : Option Addr) (c : Nat) (D : List De) (vd : Value) (s' : ByteArray) (l' : List Rn) (p : Nat) (A9 : Option Addr) (c9 : Nat) : Prop where
  L : WL w wr T N8 s0 v0 s l A c D vd
  x : BX wr p s' (sv A9 l' c9)
  r : Rd w wr A9 c9 l'
theorem Y1.new {w wr w2 : World} {T N8 : Nat} {s0 : ByteArray} {v0 : Value} {s : ByteArray} {l : List Rn} {A : Option Addr} {c : Nat} {D : List De} {vd : Value} {s' : ByteArray} {l' : List Rn} {A9 : Option Addr} {c9 base : Nat} (h : WL w wr T N8 s0 v0 s l A c D vd) (hr : RR w2 base (sv A9 l' c9) l') (hs : w.heap.size ≤ base) (hb : Below wr.heap.size wr w2) : Y1 w (w2.alloc (.cells #[.string s', sv A9 l' c9] 24)) T N8 s0 v0 s l A c D vd s' l' w2.heap.size A9 c9 :=
  ⟨(h.below hb).below (below_alloc (Below.refl _ _) _), ⟨heap_alloc_new _ _⟩, (Rd.mk' hr hs).below (below_alloc (Below.refl _ _) _)⟩
theorem Y1.old {w wr w2 : World} {T N8 : Nat} {s0 : ByteArray} {v0 : Value} {s : ByteArray} {l : List Rn} {A : Option Addr} {c : Nat} {D : List De} {vd : Value} {s' : ByteArray} {l' : List Rn} {A9 : Option Addr} {c9 base p : Nat} {z0 : ByteArray} {z1 : Value} (h : WL w wr T N8 s0 v0 s l A c D vd) (hr : RR w2 base (sv A9 l' c9) l') (hs : w.heap.size ≤ base) (hb : Below wr.heap.size wr w2) (hp : wr.heap.size ≤ p) (hx : BX w2 p z0 z1) : Y1 w ((w2.setCell ⟨p, 0, none⟩ (.string s')).setCell ⟨p, 1, none⟩ (sv A9 l' c9)) T N8 s0 v0 s l A c D vd s' l' p A9 c9 := by
  have h1 := heap_setCell_same w2 p 0 _ _ (.string s') hx.x
  exact ⟨h.below (two_set hb hp), ⟨heap_setCell_same _ p 1 _ _ (sv A9 l' c9) h1⟩, (Rd.mk' hr hs).box hx _ _⟩
theorem ga0 {x : Oper} {l : List Oper} : (x :: l).toArray[0]? = some x := rfl
theorem gaS {x y : Oper} {l : List Oper} {n : Nat} (h : l.toArray[n]? = some y) : (x :: l).toArray[n + 1]? = some y := by
  simpa using h
theorem X1.old' {w wr w2 : World} {T N8 : Nat} {s0 : ByteArray} {v0 : Value} {s : ByteArray} {l : List Rn} {A : Option Addr} {c : Nat} {D : List De} {vd : Value} {e : Ed} {Ao : Option Addr} {co : Nat} {Am : Option Addr} {cm p base : Nat} {z0 z1 z2 z3 z4 : Value} (h : WL w wr T N8 s0 v0 s l A c D vd) (hb : Below wr.heap.size wr w2) (hp : wr.heap.size ≤ p) (hs : w.heap.size ≤ base) (hx : w2.heap[p]? = some (.cells #[z0, z1, z2, z3, z4] 31 (0, 0))) (ho : RR w2 base (sv Ao (sli l e.a e.b) co) (sli l e.a e.b)) (hm : RR w2 base (sv Am e.m cm) e.m) : X1 w (set5 w2 p (.int .i64 (e.a : Int)) (.string (s.extract e.a e.b)) (sv Ao (sli l e.a e.b) co) (.string e.x) (sv Am e.m cm)) T N8 s0 v0 s l A c D vd e p Ao co Am cm :=
  ⟨h.below (set5_below hb hp), ⟨set5_heap hx⟩, Rd.mk' (set5_R hx ho) hs, Rd.mk' (set5_R hx hm) hs⟩
theorem old5 {W1 w7 : World} {p : Nat} {z0 z1 z2 z3 z4 : Value} (hb : Below W1.heap.size W1 w7) (hx : W1.heap[p]? = some (.cells #[z0, z1, z2, z3, z4] 31 (0, 0))) : w7.heap[p]? = some (.cells #[z0, z1, z2, z3, z4] 31 (0, 0)) ∧ w7.cell? ⟨p, 0, none⟩ = some z0 ∧ w7.cell? ⟨p, 1, none⟩ = some z1 ∧ w7.cell? ⟨p, 2, none⟩ = some z2 ∧ w7.cell? ⟨p, 3, none⟩ = some z3 ∧ w7.cell? ⟨p, 4, none⟩ = some z4 ∧ w7.frozen? ⟨p, 0, none⟩ = false ∧ w7.frozen? ⟨p, 1, none⟩ = false ∧ w7.frozen? ⟨p, 2, none⟩ = false ∧ w7.frozen? ⟨p, 3, none⟩ = false ∧ w7.frozen? ⟨p, 4, none⟩ = false := by
  have h := (hb.block p (Array.getElem?_eq_some_iff.1 hx).1).trans hx
  exact ⟨h, cell_of_row w7 p 0 _ _ _ h, cell_of_row w7 p 1 _ _ _ h, cell_of_row w7 p 2 _ _ _ h, cell_of_row w7 p 3 _ _ _ h, cell_of_row w7 p 4 _ _ _ h, frozen_of_row _ p 0 _ _ h, frozen_of_row _ p 1 _ _ h, frozen_of_row _ p 2 _ _ h, frozen_of_row _ p 3 _ _ h, frozen_of_row _ p 4 _ _ h⟩
theorem old2 {W1 w7 : World} {p : Nat} {z0 z1 : Value} (hb : Below W1.heap.size W1 w7) (hx : W1.heap[p]? = some (.cells #[z0, z1] 24 (0, 0))) : w7.heap[p]? = some (.cells #[z0, z1] 24 (0, 0)) ∧ w7.cell? ⟨p, 0, none⟩ = some z0 ∧ w7.cell? ⟨p, 1, none⟩ = some z1 ∧ w7.frozen? ⟨p, 0, none⟩ = false ∧ w7.frozen? ⟨p, 1, none⟩ = false := by
  have h := (hb.block p (Array.getElem?_eq_some_iff.1 hx).1).trans hx
  exact ⟨h, cell_of_row w7 p 0 _ _ _ h, cell_of_row w7 p 1 _ _ _ h, frozen_of_row _ p 0 _ _ h, frozen_of_row _ p 1 _ _ h⟩
theorem WL.elem' {w wr : World} {T N8 : Nat} {s0 : ByteArray} {v0 : Value} {s : ByteArray} {l : List Rn} {A : Option Addr} {c : Nat} {D : List De} {ad : Addr} {n cd : Nat} (h : WL w wr T N8 s0 v0 s l A c D (.slice (some ad) n cd)) (p : Nat) (d : De) (hp : D[p]? = some d) : wr.cell? (ad.add (p * 5)) = some (.int .i64 d.e.a) ∧ wr.cell? ⟨(ad.add (p * 5)).block, (ad.add (p * 5)).off + 1, none⟩ = some (.string (d.s.extract d.e.a d.e.b)) ∧ wr.cell? ⟨(ad.add (p * 5)).block, (ad.add (p * 5)).off + 2, none⟩ = some (sv d.Ao (sli d.l d.e.a d.e.b) d.co) ∧ wr.cell? ⟨(ad.add (p * 5)).block, (ad.add (p * 5)).off + 3, none⟩ = some (.string d.e.x) ∧ wr.cell? ⟨(ad.add (p * 5)).block, (ad.add (p * 5)).off + 4, none⟩ = some (sv d.Am d.e.m d.cm) := by
  obtain ⟨ad', cd', e, r⟩ := h.elem p d hp
  cases e
  exact r
set_option maxRecDepth 100000 in
set_option maxHeartbeats 16000000 in
theorem Replays_w (s0 : ByteArray) (A0 A1 : Option Addr) (c0 c1 : Nat) (l0 : List Rn) (L : List XWL.S40) (w : World) (hr0 : CC w A0 l0) (hc0 : l0.length ≤ c0) (hr1 : Kd.C XWL.k40 w A1 L.length L) (hc1 : L.length ≤ c1) (hl0 : l0.length ≤ 9223372036854775807) (hl : ∀ x, x ∈ L → x.f2.f1.length ≤ 9223372036854775807) :
    Calls Try.prog 3 #[vT s0 (sv A0 l0 c0), .slice A1 L.length c1] w fun e w' => e = .returned (.bool true) ∧ Below w.heap.size w w' := by
  have HR0 := Aside0.mk hr0
  have HR1 := Aside0.mk hr1
  have HP := Aside0.mk (A3_facts w s0 (sv A0 l0 c0))
  have HO0 : Aside0 (∀ W, P1 w W s0 (sv A0 l0 c0) → Calls Try.prog 9 #[vT sAB (.slice (some ⟨w.heap.size + 1, 0, none⟩) 1 1), .int .i64 1, .int .i64 2, vT ⟨#[]⟩ (.slice none 0 0)] W fun E w' => ∃ Ao co Am cm, E = .returned (.tuple #[eV eAB.a oA (sv Ao lA co) eAB.x (sv Am eAB.m cm), .int .i64 0]) ∧ RR w' W.heap.size (sv Ao lA co) lA ∧ RR w' W.heap.size (sv Am eAB.m cm) eAB.m ∧ Below W.heap.size W w') := ⟨fun W h => of_ok okAB W (some ⟨w.heap.size + 1, 0, none⟩) none 1 0 h.c (by decide) (Kd.C_nil _ _) (by decide)⟩
  have HCH : Aside0 (∀ W p Ao co Am cm, P2 w W s0 (sv A0 l0 c0) p Ao co Am cm → Calls Try.prog 10 #[vT sAB (.slice (some ⟨w.heap.size + 1, 0, none⟩) 1 1), eV eAB.a oA (sv Ao lA co) eAB.x (sv Am eAB.m cm)] W fun E w' => E = .returned (.int .i64 0) ∧ Below W.heap.size W w') := ⟨fun W p Ao co Am cm h => check_ok okAB W (some ⟨w.heap.size + 1, 0, none⟩) Ao Am 1 co cm h.p1.c (by decide) (Kd.R_reads' h.o).2.2 (Kd.R_reads' h.o).2.1 (Kd.R_reads' h.m).2.2 (Kd.R_reads' h.m).2.1⟩
  have HFO : Aside0 (∀ W p Ao co Am cm, P2 w W s0 (sv A0 l0 c0) p Ao co Am cm → Calls Try.prog 11 #[eV eAB.a oA (sv Ao lA co) eAB.x (sv Am eAB.m cm), .int .i64 2] W fun E w' => E = .returned (.int .i64 1) ∧ Below W.heap.size W w') := ⟨fun W p Ao co Am cm h => fol_ok okAB 2 1 folAB W Ao Am co cm (Kd.R_reads' h.o).2.2 (Kd.R_reads' h.o).2.1 (Kd.R_reads' h.m).2.2 (Kd.R_reads' h.m).2.1⟩
  have HF0 := Aside0.mk (fun (W : World) (p : Nat) (Ao : Option Addr) (co : Nat) (Am : Option Addr) (cm : Nat) (h : P2 w W s0 (sv A0 l0 c0) p Ao co Am cm) => bureaulaw04_Fits.calls s0 A0 c0 l0 _ W (Kd.C_below hr0 h.p1.b) hc0 (fit_f s0 l0))
  have HG0 := Aside0.mk (fun (W : World) (p : Nat) (Ao : Option Addr) (co : Nat) (Am : Option Addr) (cm : Nat) (h : P2 w W s0 (sv A0 l0 c0) p Ao co Am cm) => bureauref04_Good.calls (2 * l0.length + 5000) s0 A0 c0 l0 _ W (Kd.C_below hr0 h.p1.b) hc0 (dGood4 s0 l0 hl0 _ (Nat.le_refl _)))
  clear hr0 hr1
  cases hfi : fitB s0 l0
  · rw [hfi] at HF0
    clear hl hc0 hc1 hl0 hfi
    go_enter Try.func3, Try.ntmps3
    go_wp2_with (first | (go_at_call 9; (with_reducible refine (HO0.out _ HP.out).mono ?_); rintro e w2 ⟨Ao, co, Am, cm, rfl, ho2, hm2, hb2⟩; have HP2 := Aside0.mk (P2.mk' HP.out ho2 hm2 hb2); clear ho2 hm2 hb2; obtain ⟨a0, a1, -, -⟩ := HP2.out.p1.a.cells; obtain ⟨e0, e1, e2, e3, e4⟩ := HP2.out.e.cells; obtain ⟨t0, t1, -, -⟩ := HP2.out.p1.t.cells) | (go_at_call 10; (with_reducible refine (HCH.out _ _ _ _ _ _ HP2.out).mono ?_); rintro e w3 ⟨rfl, hb3⟩; have HP2 := Aside0.mk (HP2.out.below hb3); clear hb3 a0 a1 e0 e1 e2 e3 e4 t0 t1; obtain ⟨a0, a1, -, -⟩ := HP2.out.p1.a.cells; obtain ⟨e0, e1, e2, e3, e4⟩ := HP2.out.e.cells; obtain ⟨t0, t1, -, -⟩ := HP2.out.p1.t.cells) | (go_at_call 11; (with_reducible refine (HFO.out _ _ _ _ _ _ HP2.out).mono ?_); rintro e w3 ⟨rfl, hb3⟩; have HP2 := Aside0.mk (HP2.out.below hb3); clear hb3 a0 a1 e0 e1 e2 e3 e4 t0 t1; obtain ⟨a0, a1, -, -⟩ := HP2.out.p1.a.cells; obtain ⟨e0, e1, e2, e3, e4⟩ := HP2.out.e.cells; obtain ⟨t0, t1, -, -⟩ := HP2.out.p1.t.cells) | (go_at_call 12; (with_reducible refine (HF0.out _ _ _ _ _ _ HP2.out).mono ?_); rintro e w4 ⟨rfl, hb4⟩; have HP2 := Aside0.mk (HP2.out.below hb4); clear hb4 a0 a1 e0 e1 e2 e3 e4 t0 t1; obtain ⟨t0, t1, -, -⟩ := HP2.out.p1.t.cells))
    go_ret
    exact ⟨rfl, HP2.out.p1.b⟩
  rw [hfi] at HF0
  cases hgd : goodT s0 l0
  · rw [hgd] at HG0
    clear hl hc0 hc1 hl0 hfi hgd
    go_enter Try.func3, Try.ntmps3
    go_wp2_with (first | (go_at_call 9; (with_reducible refine (HO0.out _ HP.out).mono ?_); rintro e w2 ⟨Ao, co, Am, cm, rfl, ho2, hm2, hb2⟩; have HP2 := Aside0.mk (P2.mk' HP.out ho2 hm2 hb2); clear ho2 hm2 hb2; obtain ⟨a0, a1, -, -⟩ := HP2.out.p1.a.cells; obtain ⟨e0, e1, e2, e3, e4⟩ := HP2.out.e.cells; obtain ⟨t0, t1, -, -⟩ := HP2.out.p1.t.cells) | (go_at_call 10; (with_reducible refine (HCH.out _ _ _ _ _ _ HP2.out).mono ?_); rintro e w3 ⟨rfl, hb3⟩; have HP2 := Aside0.mk (HP2.out.below hb3); clear hb3 a0 a1 e0 e1 e2 e3 e4 t0 t1; obtain ⟨a0, a1, -, -⟩ := HP2.out.p1.a.cells; obtain ⟨e0, e1, e2, e3, e4⟩ := HP2.out.e.cells; obtain ⟨t0, t1, -, -⟩ := HP2.out.p1.t.cells) | (go_at_call 11; (with_reducible refine (HFO.out _ _ _ _ _ _ HP2.out).mono ?_); rintro e w3 ⟨rfl, hb3⟩; have HP2 := Aside0.mk (HP2.out.below hb3); clear hb3 a0 a1 e0 e1 e2 e3 e4 t0 t1; obtain ⟨a0, a1, -, -⟩ := HP2.out.p1.a.cells; obtain ⟨e0, e1, e2, e3, e4⟩ := HP2.out.e.cells; obtain ⟨t0, t1, -, -⟩ := HP2.out.p1.t.cells) | (go_at_call 12; (with_reducible refine (HF0.out _ _ _ _ _ _ HP2.out).mono ?_); rintro e w4 ⟨rfl, hb4⟩; have HP2 := Aside0.mk (HP2.out.below hb4); clear hb4 a0 a1 e0 e1 e2 e3 e4 t0 t1; obtain ⟨t0, t1, -, -⟩ := HP2.out.p1.t.cells) | (go_at_call 13; (with_reducible refine (HG0.out _ _ _ _ _ _ HP2.out).mono ?_); rintro e w5 ⟨rfl, hb5⟩; have HP2 := Aside0.mk (HP2.out.below hb5); clear hb5 t0 t1; obtain ⟨t0, t1, -, -⟩ := HP2.out.p1.t.cells))
    go_ret
    exact ⟨rfl, HP2.out.p1.b⟩
  rw [hgd] at HG0
  have HGD := Aside0.mk hgd
  have HC0 := Aside0.mk hc0
  clear hfi hgd hc0 hc1 hl0
  go_enter Try.func3, Try.ntmps3
  go_wp2_with (first | (go_at_call 9; (with_reducible refine (HO0.out _ HP.out).mono ?_); rintro e w2 ⟨Ao, co, Am, cm, rfl, ho2, hm2, hb2⟩; have HP2 := Aside0.mk (P2.mk' HP.out ho2 hm2 hb2); clear ho2 hm2 hb2; obtain ⟨a0, a1, -, -⟩ := HP2.out.p1.a.cells; obtain ⟨e0, e1, e2, e3, e4⟩ := HP2.out.e.cells; obtain ⟨t0, t1, -, -⟩ := HP2.out.p1.t.cells) | (go_at_call 10; (with_reducible refine (HCH.out _ _ _ _ _ _ HP2.out).mono ?_); rintro e w3 ⟨rfl, hb3⟩; have HP2 := Aside0.mk (HP2.out.below hb3); clear hb3 a0 a1 e0 e1 e2 e3 e4 t0 t1; obtain ⟨a0, a1, -, -⟩ := HP2.out.p1.a.cells; obtain ⟨e0, e1, e2, e3, e4⟩ := HP2.out.e.cells; obtain ⟨t0, t1, -, -⟩ := HP2.out.p1.t.cells) | (go_at_call 11; (with_reducible refine (HFO.out _ _ _ _ _ _ HP2.out).mono ?_); rintro e w3 ⟨rfl, hb3⟩; have HP2 := Aside0.mk (HP2.out.below hb3); clear hb3 a0 a1 e0 e1 e2 e3 e4 t0 t1; obtain ⟨a0, a1, -, -⟩ := HP2.out.p1.a.cells; obtain ⟨e0, e1, e2, e3, e4⟩ := HP2.out.e.cells; obtain ⟨t0, t1, -, -⟩ := HP2.out.p1.t.cells) | (go_at_call 12; (with_reducible refine (HF0.out _ _ _ _ _ _ HP2.out).mono ?_); rintro e w4 ⟨rfl, hb4⟩; have HP2 := Aside0.mk (HP2.out.below hb4); clear hb4 a0 a1 e0 e1 e2 e3 e4 t0 t1; obtain ⟨t0, t1, -, -⟩ := HP2.out.p1.t.cells) | (go_at_call 13; (with_reducible refine (HG0.out _ _ _ _ _ _ HP2.out).mono ?_); rintro e w5 ⟨rfl, hb5⟩; have HP2 := Aside0.mk (HP2.out.below hb5); clear hb5 t0 t1; obtain ⟨t0, t1, -, -⟩ := HP2.out.p1.t.cells))
  have HL := Aside0.mk (WL.start HP2.out HR0.out HC0.out)
  generalize w5.heap.size = N8 at HL ⊢
  clear HP2 HP HO0 HCH HFO HF0 HG0 t0 t1
  go_loopw [9, 10] (fun vv ii wr => ∃ (q : Nat) (s : ByteArray) (l : List Rn) (A : Option Addr) (c : Nat) (D : List De) (vq : Value), vq = vv ∧ ii = .int .i64 q ∧ q ≤ L.length ∧ q ≤ 30 ∧ D.length ≤ q ∧ Aside0 (Hist s0 l0 D s l) ∧ Aside0 (WL w wr w.heap.size N8 s0 (sv A0 l0 c0) s l A c D vq)) (fun _ ii _ => L.length - (intOf ii).toNat)
  case atStart => exact ⟨0, s0, l0, A0, c0, [], _, rfl, rfl, Nat.zero_le _, by decide, Nat.zero_le _, ⟨.nil⟩, HL⟩
  case round =>
    obtain ⟨q, s, l, A, c, D, vv, rfl, rfl, hq, hq30, hDq, HH, HL⟩ := hrel
    by_cases hex : q < L.length ∧ q < 30
    · obtain ⟨hql, hq3⟩ := hex
      obtain ⟨ad, A3, c3, eA, y0, y1, y2, y3, hc3, hC3⟩ := XWL.at_T40 HR1.out (q : Int) (by omega) (by omega)
      cases eA
      rw [Int.toNat_natCast] at y0 y1 y2 y3
      have hmx : (XWL.rd_T40 L (q : Int)).f2.f1.length ≤ 9223372036854775807 := hl _ (by
        unfold XWL.rd_T40
        rw [Int.toNat_natCast, List.getD_eq_getElem?_getD, List.getElem?_eq_getElem hql]
        exact List.getElem_mem _)
      generalize XWL.rd_T40 L (q : Int) = y at *
      obtain ⟨f, t, x, m⟩ := y
      simp only at y0 y1 y2 y3 hc3 hC3 hmx
      have HZ := Aside0.mk (fun (W : World) (hb : Below w.heap.size w W) => (⟨cell_old hb y0, cell_old hb y1, cell_old hb y2, cell_old hb y3⟩ : _ ∧ _ ∧ _ ∧ _))
      have HFI := Aside0.mk (fun (W : World) (h : WL w W w.heap.size N8 s0 (sv A0 l0 c0) s l A c D vv) => bureaulaw04_Fits.calls x A3 c3 m _ W (Kd.C_below hC3 h.b) hc3 (fit_f x m))
      obtain ⟨n0, n1, n2, n3⟩ := HL.out.n.cells; have ln := HL.out.n.lt; obtain ⟨z0, z1, z2, z3⟩ := HZ.out _ HL.out.b
      have hgs := HH.out.good HGD.out
      have hls := good_short hgs
      clear y0 y1 y2 y3
      cases hfi : fitB x m
      · rw [hfi] at HFI
        clear hfi hgs hls hC3
        go_wp2_with (first | (go_at_call 12; (with_reducible refine (HFI.out _ HL.out).mono ?_); rintro e w6 ⟨rfl, hb6⟩; have HL := Aside0.mk (HL.out.below hb6); clear hb6; clear n0 n1 n2 n3 ln z0 z1 z2 z3; obtain ⟨n0, n1, n2, n3⟩ := HL.out.n.cells; have ln := HL.out.n.lt; obtain ⟨z0, z1, z2, z3⟩ := HZ.out _ HL.out.b))
        exact ⟨⟨q + 1, s, l, A, c, D, _, rfl, by go_num, by omega, by omega, by omega, HH, HL⟩, by simp [intOf]; omega⟩
      have hml : x.size ≤ 5000 ∧ m.length ≤ 5000 := of_decide_eq_true hfi
      rw [hfi] at HFI
      by_cases hsp : (splT s l f t x m).2.2 = 0
      · obtain ⟨e, rfl, rfl, rfl, rfl, hE⟩ := ed_of_spl hsp
        have HE := Aside0.mk hE
        have HOF := Aside0.mk (fun (W : World) (h : WL w W w.heap.size N8 s0 (sv A0 l0 c0) s l A c D vv) => of_ok hE W A A3 c c3 (h.r.read h.b) h.r.hc (Kd.C_below hC3 h.b) hc3)
        have HAP := Aside0.mk (fun (W : World) (p : Nat) (Ao : Option Addr) (co : Nat) (Am : Option Addr) (cm : Nat) (h : X1 w W w.heap.size N8 s0 (sv A0 l0 c0) s l A c D vv e p Ao co Am cm) => apply_ok hE W A Ao Am c co cm (h.L.r.read h.L.b) h.L.r.hc (h.o.read h.L.b) h.o.hc (h.m.read h.L.b) h.m.hc)
        have HFA := Aside0.mk (fun (W : World) (p : Nat) (Ao : Option Addr) (co : Nat) (Am : Option Addr) (cm p8 : Nat) (A8 : Option Addr) (c8 : Nat) (h : X2 w W w.heap.size N8 s0 (sv A0 l0 c0) s l A c D vv e p Ao co Am cm p8 A8 c8) => fol_ok hE 0 0 (ed_Follow0 hE 10000 (Nat.le_refl _)) W Ao Am co cm (h.X.o.read h.X.L.b) h.X.o.hc (h.X.m.read h.X.L.b) h.X.m.hc)
        have HFB := Aside0.mk (fun (W : World) (p : Nat) (Ao : Option Addr) (co : Nat) (Am : Option Addr) (cm p8 : Nat) (A8 : Option Addr) (c8 : Nat) (h : X2 w W w.heap.size N8 s0 (sv A0 l0 c0) s l A c D vv e p Ao co Am cm p8 A8 c8) => fol_ok hE s.size _ (ed_FollowE hE 10000 (Nat.le_refl _)) W Ao Am co cm (h.X.o.read h.X.L.b) h.X.o.hc (h.X.m.read h.X.L.b) h.X.m.hc)
        clear hsp hE hfi hml hgs hls hC3
        have HQ := Aside0.mk (fun (w' : World) (h : WL w w' w.heap.size N8 s0 (sv A0 l0 c0) s l A c D vv) => (⟨⟨h.n.cells.1, h.n.cells.2.1⟩, HZ.out _ h.b⟩ : (w'.cell? ⟨N8, 0, none⟩ = some (.string s) ∧ w'.cell? ⟨N8, 1, none⟩ = some (sv A l c)) ∧ w'.cell? (ad.add (q * 4)) = some (.int .i64 e.a) ∧ w'.cell? ⟨(ad.add (q * 4)).block, (ad.add (q * 4)).off + 1, none⟩ = some (.int .i64 e.b) ∧ w'.cell? ⟨(ad.add (q * 4)).block, (ad.add (q * 4)).off + 2, none⟩ = some (.string e.x) ∧ w'.cell? ⟨(ad.add (q * 4)).block, (ad.add (q * 4)).off + 3, none⟩ = some (sv A3 e.m c3)))
        go_upto_region 13 with (first | (go_at_call 12; (with_reducible refine (HFI.out _ HL.out).mono ?_); rintro e w6 ⟨rfl, hb6⟩; have HL := Aside0.mk (HL.out.below hb6); clear hb6; clear n0 n1 n2 n3 ln z0 z1 z2 z3; obtain ⟨n0, n1, n2, n3⟩ := HL.out.n.cells; have ln := HL.out.n.lt; obtain ⟨z0, z1, z2, z3⟩ := HZ.out _ HL.out.b))
        generalize w6 = wr6 at *
        go_cut [11, 12] (fun v11 v12 wc => ∃ (W9 : World) (p : Nat) (Ao : Option Addr) (co : Nat) (Am : Option Addr) (cm : Nat), W9 = wc ∧ v11 = .pointer (some ⟨p, 0, none⟩) ∧ v12 = .int .i64 0 ∧ Aside0 (X1 w W9 w.heap.size N8 s0 (sv A0 l0 c0) s l A c D vv e p Ao co Am cm))
        case first =>
          go_region_held3 (fun w' => (w'.cell? ⟨N8, 0, none⟩ = some (.string s) ∧ w'.cell? ⟨N8, 1, none⟩ = some (sv A l c)) ∧ w'.cell? (ad.add (q * 4)) = some (.int .i64 e.a) ∧ w'.cell? ⟨(ad.add (q * 4)).block, (ad.add (q * 4)).off + 1, none⟩ = some (.int .i64 e.b) ∧ w'.cell? ⟨(ad.add (q * 4)).block, (ad.add (q * 4)).off + 2, none⟩ = some (.string e.x) ∧ w'.cell? ⟨(ad.add (q * 4)).block, (ad.add (q * 4)).off + 3, none⟩ = some (sv A3 e.m c3)) (first | (with_reducible exact ⟨⟨n0, n1⟩, z0, z1, z2, z3⟩) | (with_reducible exact HP7.out) | (refine HQ.out _ (HL.out.below ?_); (with_reducible first | exact below_alloc HB6.out _ | exact set5_below HB6.out (Nat.le_refl _) | exact below_drew (Below.refl _ _) | exact below_alloc (Below.refl _ _) _ | exact below_drew (below_alloc (Below.refl _ _) _) | exact below_alloc (below_drew (Below.refl _ _)) _))) (first | (go_at_call 9; (with_reducible refine (HOF.out _ (HL.out.below ?sb)).mono ?_); (case sb => exact (by repeat (first | (with_reducible first | exact Below.refl _ _ | apply pw_below_drewN | apply below_alloc | apply below_drew) | exact Below.refl _ _))); rintro e w7 ⟨Ao, co, Am, cm, rfl, ho7, hm7, hb7⟩; have HO7 := Aside0.mk ho7; have HM7 := Aside0.mk hm7; (try obtain ⟨hx7, k0, k1, k2, k3, k4, g0, g1, g2, g3, g4⟩ := old5 (p := wr6.heap.size) hb7 (heap_alloc_new _ _)); have HB7 := Aside0.mk hb7; have HB6 := Aside0.mk (below_step (by repeat (first | (with_reducible first | exact Below.refl _ _ | apply pw_below_drewN | apply below_alloc | apply below_drew) | exact Below.refl _ _)) hb7 : Below wr6.heap.size wr6 w7); have HL7 := HL.out.below HB6.out; have HP7 := Aside0.mk (⟨⟨HL7.n.cells.1, HL7.n.cells.2.1⟩, HZ.out _ HL7.b⟩ : (_ ∧ _) ∧ _); clear ho7 hm7 hb7 HL7))
          all_goals (go_wp2; go_meet)
          · exact ⟨_, _, Ao, co, Am, cm, rfl, rfl, rfl, ⟨X1.new HL.out HO7.out HM7.out HB6.out⟩⟩
          · exact ⟨_, _, Ao, co, Am, cm, rfl, rfl, rfl, ⟨X1.old' HL.out HB6.out (Nat.le_refl _) (Nat.le_trans HL.out.b.size (by simp)) hx7 HO7.out HM7.out⟩⟩
        case rest =>
          obtain ⟨W9, p, Ao, co, Am, cm, rfl, rfl, rfl, HX⟩ := hcut
          clear HL HFI HOF HZ HQ n0 n1 n2 n3 ln z0 z1 z2 z3
          obtain ⟨n0, n1, n2, n3⟩ := HX.out.L.n.cells; have ln := HX.out.L.n.lt; obtain ⟨e0, e1, e2, e3, e4⟩ := HX.out.eb.cells
          go_upto_region 16 with (first | (go_at_call 14; (with_reducible refine (HAP.out _ _ _ _ _ _ HX.out).mono ?_); rintro e w8 ⟨A8, c8, rfl, h8, hb8⟩; have HX := Aside0.mk (X2.new HX.out h8 hb8); clear h8 hb8; clear n0 n1 n2 n3 ln e0 e1 e2 e3 e4; obtain ⟨n0, n1, n2, n3⟩ := HX.out.X.L.n.cells; have ln := HX.out.X.L.n.lt; obtain ⟨e0, e1, e2, e3, e4⟩ := HX.out.X.eb.cells; obtain ⟨x0, x1, -, -⟩ := HX.out.x.cells))
          generalize w8.heap.size = p8 at *
          generalize World.alloc w8 _ = W8 at *
          go_cut [119] from 94 to 119 (fun bb wc => ∃ (wc1 : World), wc1 = wc ∧ bb = .bool false ∧ Aside0 (X2 w wc1 w.heap.size N8 s0 (sv A0 l0 c0) s l A c D vv e p Ao co Am cm p8 A8 c8))
          case first =>
            obtain ⟨sx, hsx⟩ : ∃ sx, sx = sS s e.a e.b e.x := ⟨_, rfl⟩
            rw [← hsx] at x0 HFB
            have HSX := Aside0.mk hsx
            clear hsx
            by_cases hq : (if e.a = s.size then (s.size : Int) else (sx.size : Int)) = (sx.size : Int)
            · rw [hq] at HFB
              clear hq
              refine wp_region_held_drew (S := fun w' => (w'.cell? ⟨N8, 0, none⟩ = some (.string s) ∧ w'.cell? ⟨N8, 1, none⟩ = some (sv A l c)) ∧ (w'.cell? ⟨p, 0, none⟩ = some (.int .i64 e.a) ∧ w'.cell? ⟨p, 1, none⟩ = some (.string (s.extract e.a e.b)) ∧ w'.cell? ⟨p, 2, none⟩ = some (sv Ao (sli l e.a e.b) co) ∧ w'.cell? ⟨p, 3, none⟩ = some (.string e.x) ∧ w'.cell? ⟨p, 4, none⟩ = some (sv Am e.m cm)) ∧ w'.cell? ⟨p8, 0, none⟩ = some (.string sx) ∧ w'.cell? ⟨p8, 1, none⟩ = some (sv A8 (spl l e.a e.b e.m) c8)) (by kernel_rfl) ?_ (fun hHeld => ?_)
              · exact ⟨⟨n0, n1⟩, ⟨e0, e1, e2, e3, e4⟩, x0, x1⟩
              refine wpAnyH_take (i := 0) (oi := _) (v := ?v0) (ga0) (by kernel_rfl) (by kernel_rfl) (by kernel_rfl) (fun _ _ _ h => h) (Or.inl ⟨by rfl, ?hy0⟩) (by assumption) ?rest0
              case hy0 => (intro w hSw; (try dsimp only at hSw); go_simp; try with_reducible rfl)
              (try simp only [Act.put, List.setIfInBounds_toArray, List.set_cons_zero, List.set_cons_succ])
              refine wpAnyH_take (i := 1) (oi := _) (v := ?v1) (gaS (ga0)) (by kernel_rfl) (by kernel_rfl) (by kernel_rfl) (fun _ _ _ h => h) (Or.inl ⟨by rfl, ?hy1⟩) (by assumption) ?rest1
              case hy1 => (intro w hSw; (try dsimp only at hSw); go_simp; try with_reducible rfl)
              (try simp only [Act.put, List.setIfInBounds_toArray, List.set_cons_zero, List.set_cons_succ])
              refine wpAnyH_take (i := 2) (oi := _) (v := ?v2) (gaS (gaS (ga0))) (by kernel_rfl) (by kernel_rfl) (by kernel_rfl) (fun _ _ _ h => h) (Or.inl ⟨by rfl, ?hy2⟩) (by assumption) ?rest2
              case hy2 => (intro w hSw; (try dsimp only at hSw); go_simp; try with_reducible rfl)
              (try simp only [Act.put, List.setIfInBounds_toArray, List.set_cons_zero, List.set_cons_succ])
              refine wpAnyH_take (i := 3) (oi := _) (v := ?v3) (gaS (gaS (gaS (ga0)))) (by kernel_rfl) (by kernel_rfl) (by kernel_rfl) (fun _ _ _ h => h) (Or.inl ⟨by rfl, ?hy3⟩) (by assumption) ?rest3
              case hy3 => (intro w hSw; (try dsimp only at hSw); go_simp; try with_reducible rfl)
              (try simp only [Act.put, List.setIfInBounds_toArray, List.set_cons_zero, List.set_cons_succ])
              refine wpAnyH_ready (rs := [4]) (by kernel_rfl) (by simp) ?_
              refine AllReadyH.cons (o := _) (gaS (gaS (gaS (gaS (ga0)))))  (fun K hK => ?_) AllReadyH.nil
              go_simp
              (go_at_call 11; (with_reducible refine (HFA.out _ _ _ _ _ _ _ _ _ (HX.out.below ?sb)).mono ?_); (case sb => exact (by repeat (first | (with_reducible first | exact Below.refl _ _ | apply pw_below_drewN | apply below_alloc | apply below_drew) | exact Below.refl _ _))); rintro e w9 ⟨rfl, hb9⟩; have HX := Aside0.mk (HX.out.below (below_step (by repeat (first | (with_reducible first | exact Below.refl _ _ | apply pw_below_drewN | apply below_alloc | apply below_drew) | exact Below.refl _ _)) hb9)); have HP9 := Aside0.mk (⟨⟨HX.out.X.L.n.cells.1, HX.out.X.L.n.cells.2.1⟩, HX.out.X.eb.cells, (HSX.out ▸ HX.out.x.cells.1), HX.out.x.cells.2.1⟩ : (_ ∧ _) ∧ (_ ∧ _ ∧ _ ∧ _ ∧ _) ∧ _ ∧ _); clear hb9)
              go_wp2_with fail
              refine hK.out _ _ HP9.out (fun hHeld => ?_)
              clear hK K
              (try simp only [Act.put, List.setIfInBounds_toArray, List.set_cons_zero, List.set_cons_succ])
              refine wpAnyH_take (i := 5) (oi := _) (v := ?v5) (gaS (gaS (gaS (gaS (gaS (ga0)))))) (by kernel_rfl) (by kernel_rfl) (by kernel_rfl) (fun _ _ _ h => h) (Or.inl ⟨by rfl, ?hy5⟩) (by assumption) ?rest5
              case hy5 => (intro w hSw; (try dsimp only at hSw); go_simp; try with_reducible rfl)
              (try simp only [Act.put, List.setIfInBounds_toArray, List.set_cons_zero, List.set_cons_succ])
              refine wpAnyH_take (i := 6) (oi := _) (v := ?v6) (gaS (gaS (gaS (gaS (gaS (gaS (ga0))))))) (by kernel_rfl) (by kernel_rfl) (by kernel_rfl) (fun _ _ _ h => h) (Or.inl ⟨by rfl, ?hy6⟩) (by assumption) ?rest6
              case hy6 => (intro w hSw; (try dsimp only at hSw); go_simp; try with_reducible rfl)
              (try simp only [Act.put, List.setIfInBounds_toArray, List.set_cons_zero, List.set_cons_succ])
              refine wpAnyH_take (i := 7) (oi := _) (v := ?v7) (gaS (gaS (gaS (gaS (gaS (gaS (gaS (ga0)))))))) (by kernel_rfl) (by kernel_rfl) (by kernel_rfl) (fun _ _ _ h => h) (Or.inl ⟨by rfl, ?hy7⟩) (by assumption) ?rest7
              case hy7 => (intro w hSw; (try dsimp only at hSw); go_simp; try with_reducible rfl)
              (try simp only [Act.put, List.setIfInBounds_toArray, List.set_cons_zero, List.set_cons_succ])
              refine wpAnyH_take (i := 8) (oi := _) (v := ?v8) (gaS (gaS (gaS (gaS (gaS (gaS (gaS (gaS (ga0))))))))) (by kernel_rfl) (by kernel_rfl) (by kernel_rfl) (fun _ _ _ h => h) (Or.inl ⟨by rfl, ?hy8⟩) (by assumption) ?rest8
              case hy8 => (intro w hSw; (try dsimp only at hSw); go_simp; try with_reducible rfl)
              (try simp only [Act.put, List.setIfInBounds_toArray, List.set_cons_zero, List.set_cons_succ])
              refine wpAnyH_take (i := 9) (oi := _) (v := ?v9) (gaS (gaS (gaS (gaS (gaS (gaS (gaS (gaS (gaS (ga0)))))))))) (by kernel_rfl) (by kernel_rfl) (by kernel_rfl) (fun _ _ _ h => h) (Or.inl ⟨by rfl, ?hy9⟩) (by assumption) ?rest9
              case hy9 => (intro w hSw; (try dsimp only at hSw); go_simp; try with_reducible rfl)
              (try simp only [Act.put, List.setIfInBounds_toArray, List.set_cons_zero, List.set_cons_succ])
              refine wpAnyH_take (i := 10) (oi := _) (v := ?v10) (gaS (gaS (gaS (gaS (gaS (gaS (gaS (gaS (gaS (gaS (ga0))))))))))) (by kernel_rfl) (by kernel_rfl) (by kernel_rfl) (fun _ _ _ h => h) (Or.inl ⟨by rfl, ?hy10⟩) (by assumption) ?rest10
              case hy10 => (intro w hSw; (try dsimp only at hSw); go_simp; try with_reducible rfl)
              (try simp only [Act.put, List.setIfInBounds_toArray, List.set_cons_zero, List.set_cons_succ])
              refine wpAnyH_take (i := 11) (oi := _) (v := ?v11) (gaS (gaS (gaS (gaS (gaS (gaS (gaS (gaS (gaS (gaS (gaS (ga0)))))))))))) (by kernel_rfl) (by kernel_rfl) (by kernel_rfl) (fun _ _ _ h => h) (Or.inl ⟨by rfl, ?hy11⟩) (by assumption) ?rest11
              case hy11 => (intro w hSw; (try dsimp only at hSw); go_simp; try with_reducible rfl)
              (try simp only [Act.put, List.setIfInBounds_toArray, List.set_cons_zero, List.set_cons_succ])
              refine wpAnyH_take (i := 13) (oi := _) (v := ?v13) (gaS (gaS (gaS (gaS (gaS (gaS (gaS (gaS (gaS (gaS (gaS (gaS (gaS (ga0)))))))))))))) (by kernel_rfl) (by kernel_rfl) (by kernel_rfl) (fun _ _ _ h => h) (Or.inl ⟨by rfl, ?hy13⟩) (by assumption) ?rest13
              case hy13 => (intro w hSw; (try dsimp only at hSw); go_simp; try with_reducible rfl)
              (try simp only [Act.put, List.setIfInBounds_toArray, List.set_cons_zero, List.set_cons_succ])
              refine wpAnyH_take (i := 14) (oi := _) (v := ?v14) (gaS (gaS (gaS (gaS (gaS (gaS (gaS (gaS (gaS (gaS (gaS (gaS (gaS (gaS (ga0))))))))))))))) (by kernel_rfl) (by kernel_rfl) (by kernel_rfl) (fun _ _ _ h => h) (Or.inl ⟨by rfl, ?hy14⟩) (by assumption) ?rest14
              case hy14 => (intro w hSw; (try dsimp only at hSw); go_simp; try with_reducible rfl)
              (try simp only [Act.put, List.setIfInBounds_toArray, List.set_cons_zero, List.set_cons_succ])
              refine wpAnyH_take (i := 15) (oi := _) (v := ?v15) (gaS (gaS (gaS (gaS (gaS (gaS (gaS (gaS (gaS (gaS (gaS (gaS (gaS (gaS (gaS (ga0)))))))))))))))) (by kernel_rfl) (by kernel_rfl) (by kernel_rfl) (fun _ _ _ h => h) (Or.inl ⟨by rfl, ?hy15⟩) (by assumption) ?rest15
              case hy15 => (intro w hSw; (try dsimp only at hSw); go_simp; try with_reducible rfl)
              (try simp only [Act.put, List.setIfInBounds_toArray, List.set_cons_zero, List.set_cons_succ])
              refine wpAnyH_ready (rs := [12]) (by kernel_rfl) (by simp) ?_
              refine AllReadyH.cons (o := _) (gaS (gaS (gaS (gaS (gaS (gaS (gaS (gaS (gaS (gaS (gaS (gaS (ga0)))))))))))))  (fun K hK => ?_) AllReadyH.nil
              go_simp
              (go_at_call 11; (with_reducible refine (HFB.out _ _ _ _ _ _ _ _ _ (HX.out.below ?sb)).mono ?_); (case sb => exact (by repeat (first | (with_reducible first | exact Below.refl _ _ | apply pw_below_drewN | apply below_alloc | apply below_drew) | exact Below.refl _ _))); rintro e w10 ⟨rfl, hb9⟩; have HX := Aside0.mk (HX.out.below (below_step (by repeat (first | (with_reducible first | exact Below.refl _ _ | apply pw_below_drewN | apply below_alloc | apply below_drew) | exact Below.refl _ _)) hb9)); have HP9 := Aside0.mk (⟨⟨HX.out.X.L.n.cells.1, HX.out.X.L.n.cells.2.1⟩, HX.out.X.eb.cells, (HSX.out ▸ HX.out.x.cells.1), HX.out.x.cells.2.1⟩ : (_ ∧ _) ∧ (_ ∧ _ ∧ _ ∧ _ ∧ _) ∧ _ ∧ _); clear hb9)
              go_wp2_with fail
              refine hK.out _ _ HP9.out (fun hHeld => ?_)
              clear hK K
              (try simp only [Act.put, List.setIfInBounds_toArray, List.set_cons_zero, List.set_cons_succ])
              refine wpAnyH_take (i := 16) (oi := _) (v := ?v16) (gaS (gaS (gaS (gaS (gaS (gaS (gaS (gaS (gaS (gaS (gaS (gaS (gaS (gaS (gaS (gaS (ga0))))))))))))))))) (by kernel_rfl) (by kernel_rfl) (by kernel_rfl) (fun _ _ _ h => h) (Or.inl ⟨by rfl, ?hy16⟩) (by assumption) ?rest16
              case hy16 => (intro w hSw; (try dsimp only at hSw); go_simp; try with_reducible rfl)
              (try simp only [Act.put, List.setIfInBounds_toArray, List.set_cons_zero, List.set_cons_succ])
              refine wpAnyH_take (i := 17) (oi := _) (v := ?v17) (gaS (gaS (gaS (gaS (gaS (gaS (gaS (gaS (gaS (gaS (gaS (gaS (gaS (gaS (gaS (gaS (gaS (ga0)))))))))))))))))) (by kernel_rfl) (by kernel_rfl) (by kernel_rfl) (fun _ _ _ h => h) (Or.inl ⟨by rfl, ?hy17⟩) (by assumption) ?rest17
              case hy17 => (intro w hSw; (try dsimp only at hSw); go_simp; try with_reducible rfl)
              (try simp only [Act.put, List.setIfInBounds_toArray, List.set_cons_zero, List.set_cons_succ])
              refine wpAnyH_take (i := 18) (oi := _) (v := undef) (gaS (gaS (gaS (gaS (gaS (gaS (gaS (gaS (gaS (gaS (gaS (gaS (gaS (gaS (gaS (gaS (gaS (gaS (ga0))))))))))))))))))) (by kernel_rfl) (by kernel_rfl) (by kernel_rfl) (fun _ _ _ h => h) (Or.inr ⟨by rfl, rfl⟩) (by assumption) ?_
              (try simp only [Act.put, List.setIfInBounds_toArray, List.set_cons_zero, List.set_cons_succ])
              refine wpAnyH_take (i := 19) (oi := _) (v := undef) (gaS (gaS (gaS (gaS (gaS (gaS (gaS (gaS (gaS (gaS (gaS (gaS (gaS (gaS (gaS (gaS (gaS (gaS (gaS (ga0)))))))))))))))))))) (by kernel_rfl) (by kernel_rfl) (by kernel_rfl) (fun _ _ _ h => h) (Or.inr ⟨by rfl, rfl⟩) (by assumption) ?_
              (try simp only [Act.put, List.setIfInBounds_toArray, List.set_cons_zero, List.set_cons_succ])
              refine wpAnyH_take (i := 20) (oi := _) (v := undef) (gaS (gaS (gaS (gaS (gaS (gaS (gaS (gaS (gaS (gaS (gaS (gaS (gaS (gaS (gaS (gaS (gaS (gaS (gaS (gaS (ga0))))))))))))))))))))) (by kernel_rfl) (by kernel_rfl) (by kernel_rfl) (fun _ _ _ h => h) (Or.inr ⟨by rfl, rfl⟩) (by assumption) ?_
              (try simp only [Act.put, List.setIfInBounds_toArray, List.set_cons_zero, List.set_cons_succ])
              refine wpAnyH_take (i := 21) (oi := _) (v := undef) (gaS (gaS (gaS (gaS (gaS (gaS (gaS (gaS (gaS (gaS (gaS (gaS (gaS (gaS (gaS (gaS (gaS (gaS (gaS (gaS (gaS (ga0)))))))))))))))))))))) (by kernel_rfl) (by kernel_rfl) (by kernel_rfl) (fun _ _ _ h => h) (Or.inr ⟨by rfl, rfl⟩) (by assumption) ?_
              (try simp only [Act.put, List.setIfInBounds_toArray, List.set_cons_zero, List.set_cons_succ])
              refine wpAnyH_take (i := 22) (oi := _) (v := undef) (gaS (gaS (gaS (gaS (gaS (gaS (gaS (gaS (gaS (gaS (gaS (gaS (gaS (gaS (gaS (gaS (gaS (gaS (gaS (gaS (gaS (gaS (ga0))))))))))))))))))))))) (by kernel_rfl) (by kernel_rfl) (by kernel_rfl) (fun _ _ _ h => h) (Or.inr ⟨by rfl, rfl⟩) (by assumption) ?_
              (try simp only [Act.put, List.setIfInBounds_toArray, List.set_cons_zero, List.set_cons_succ])
              refine wpAnyH_take (i := 23) (oi := _) (v := undef) (gaS (gaS (gaS (gaS (gaS (gaS (gaS (gaS (gaS (gaS (gaS (gaS (gaS (gaS (gaS (gaS (gaS (gaS (gaS (gaS (gaS (gaS (gaS (ga0)))))))))))))))))))))))) (by kernel_rfl) (by kernel_rfl) (by kernel_rfl) (fun _ _ _ h => h) (Or.inr ⟨by rfl, rfl⟩) (by assumption) ?_
              (try simp only [Act.put, List.setIfInBounds_toArray, List.set_cons_zero, List.set_cons_succ])
              refine wpAnyH_take (i := 24) (oi := _) (v := ?v24) (gaS (gaS (gaS (gaS (gaS (gaS (gaS (gaS (gaS (gaS (gaS (gaS (gaS (gaS (gaS (gaS (gaS (gaS (gaS (gaS (gaS (gaS (gaS (gaS (ga0))))))))))))))))))))))))) (by kernel_rfl) (by kernel_rfl) (by kernel_rfl) (fun _ _ _ h => h) (Or.inl ⟨by rfl, ?hy24⟩) (by assumption) ?rest24
              case hy24 => (intro w hSw; (try dsimp only at hSw); go_simp; try with_reducible rfl)
              (try simp only [Act.put, List.setIfInBounds_toArray, List.set_cons_zero, List.set_cons_succ])
              refine wpAnyH_take (i := 25) (oi := _) (v := ?v25) (gaS (gaS (gaS (gaS (gaS (gaS (gaS (gaS (gaS (gaS (gaS (gaS (gaS (gaS (gaS (gaS (gaS (gaS (gaS (gaS (gaS (gaS (gaS (gaS (gaS (ga0)))))))))))))))))))))))))) (by kernel_rfl) (by kernel_rfl) (by kernel_rfl) (fun _ _ _ h => h) (Or.inl ⟨by rfl, ?hy25⟩) (by assumption) ?rest25
              case hy25 => (intro w hSw; (try dsimp only at hSw); go_simp; try with_reducible rfl)
              (try simp only [Act.put, List.setIfInBounds_toArray, List.set_cons_zero, List.set_cons_succ])
              refine wpAnyH_done (by kernel_rfl) ?_ _
              all_goals (go_wp2; go_meet)
              all_goals exact ⟨_, rfl, rfl, HX⟩
            · have hea : e.a = s.size := by
                by_cases hc : e.a = s.size
                · exact hc
                · rw [if_neg hc] at hq
                  exact absurd rfl hq
              have hea' : ((s.size : Nat) : Int) = ((e.a : Nat) : Int) := by omega
              have hsz' : (((e.a : Nat) : Int) != ((sx.size : Nat) : Int)) = true := by
                rw [if_pos hea] at hq
                exact bne_iff_ne.2 (by omega)
              rw [if_pos hea, hea'] at HFB
              clear hea hq
              first | go_region_held3 (fun w' => (w'.cell? ⟨N8, 0, none⟩ = some (.string s) ∧ w'.cell? ⟨N8, 1, none⟩ = some (sv A l c)) ∧ (w'.cell? ⟨p, 0, none⟩ = some (.int .i64 e.a) ∧ w'.cell? ⟨p, 1, none⟩ = some (.string (s.extract e.a e.b)) ∧ w'.cell? ⟨p, 2, none⟩ = some (sv Ao (sli l e.a e.b) co) ∧ w'.cell? ⟨p, 3, none⟩ = some (.string e.x) ∧ w'.cell? ⟨p, 4, none⟩ = some (sv Am e.m cm)) ∧ w'.cell? ⟨p8, 0, none⟩ = some (.string sx) ∧ w'.cell? ⟨p8, 1, none⟩ = some (sv A8 (spl l e.a e.b e.m) c8)) (first | (with_reducible exact ⟨⟨n0, n1⟩, ⟨e0, e1, e2, e3, e4⟩, x0, x1⟩) | (with_reducible exact HP9.out) | exact HP9.out | exact ⟨⟨n0, n1⟩, ⟨e0, e1, e2, e3, e4⟩, x0, x1⟩ | go_keep) (first | (go_at_call 11; (with_reducible refine (HFA.out _ _ _ _ _ _ _ _ _ (HX.out.below ?sb)).mono ?_); (case sb => exact (by repeat (first | (with_reducible first | exact Below.refl _ _ | apply pw_below_drewN | apply below_alloc | apply below_drew) | exact Below.refl _ _))); rintro e w9 ⟨rfl, hb9⟩; have HX := Aside0.mk (HX.out.below (below_step (by repeat (first | (with_reducible first | exact Below.refl _ _ | apply pw_below_drewN | apply below_alloc | apply below_drew) | exact Below.refl _ _)) hb9)); have HP9 := Aside0.mk (⟨⟨HX.out.X.L.n.cells.1, HX.out.X.L.n.cells.2.1⟩, HX.out.X.eb.cells, (HSX.out ▸ HX.out.x.cells.1), HX.out.x.cells.2.1⟩ : (_ ∧ _) ∧ (_ ∧ _ ∧ _ ∧ _ ∧ _) ∧ _ ∧ _); clear hb9) | (go_at_call 11; (with_reducible refine (HFB.out _ _ _ _ _ _ _ _ _ (HX.out.below ?sb)).mono ?_); (case sb => exact (by repeat (first | (with_reducible first | exact Below.refl _ _ | apply pw_below_drewN | apply below_alloc | apply below_drew) | exact Below.refl _ _))); rintro e w10 ⟨rfl, hb9⟩; have HX := Aside0.mk (HX.out.below (below_step (by repeat (first | (with_reducible first | exact Below.refl _ _ | apply pw_below_drewN | apply below_alloc | apply below_drew) | exact Below.refl _ _)) hb9)); have HP9 := Aside0.mk (⟨⟨HX.out.X.L.n.cells.1, HX.out.X.L.n.cells.2.1⟩, HX.out.X.eb.cells, (HSX.out ▸ HX.out.x.cells.1), HX.out.x.cells.2.1⟩ : (_ ∧ _) ∧ (_ ∧ _ ∧ _ ∧ _ ∧ _) ∧ _ ∧ _); clear hb9)) | fail
              all_goals (go_wp2; go_meet)
              all_goals exact ⟨_, rfl, rfl, HX⟩
          case rest =>
            obtain ⟨W10, rfl, rfl, HX⟩ := hcut
            clear HFA HFB HAP x0 x1
            clear n0 n1 n2 n3 ln e0 e1 e2 e3 e4
            obtain ⟨n0, n1, n2, n3⟩ := HX.out.X.L.n.cells; have ln := HX.out.X.L.n.lt; obtain ⟨e0, e1, e2, e3, e4⟩ := HX.out.X.eb.cells; obtain ⟨x0, x1, -, -⟩ := HX.out.x.cells
            go_upto_region 19 with (fail)
            have HX := Aside0.mk (X3.put HX.out)
            clear x0 x1
            clear n0 n1 n2 n3 ln e0 e1 e2 e3 e4
            generalize World.setCell (World.setCell W10 _ _) _ _ = W11 at HX ⊢
            obtain ⟨n0, n1, n2, n3⟩ := HX.out.L.n.cells; have ln := HX.out.L.n.lt; obtain ⟨e0, e1, e2, e3, e4⟩ := HX.out.eb.cells
            go_wp2_with (first | ((with_reducible refine gate_builtin (b := .append) (xs := #[.tmp 121, .tmp 123]) rfl ?_); at_builtin; refine Kd.R_append (Kd.raw 5) (w0 := w) w.heap.size rfl (.tmp 121) (.tmp 123) 38 31 (.agg #[.int .i64 0, .string ⟨#[]⟩, .slice none 0 0, .string ⟨#[]⟩, .slice none 0 0]) 88 rfl Try.underlying38 (by kernel_rfl) rfl (by decide) (by omega) vv (D.map deR) (deR ⟨e, s, l, Ao, co, Am, cm⟩) [.int .i64 e.a, .string (s.extract e.a e.b), sv Ao (sli l e.a e.b) co, .string e.x, sv Am e.m cm] (fun _ => True) (fun _ => False) rfl ?aX ?aP (fun _ hk => hk.elim) ?aF ?aO ?aB ?aS ?aL ?_; (case aX => simp [Act.eval, deR, sv]); (case aP => exact ⟨rfl, rfl, fun u hu => by rcases List.mem_cons.1 hu with e | hu; (rw [e]; rfl); rcases List.mem_cons.1 hu with e | hu; (rw [e]; rfl); rcases List.mem_cons.1 hu with e | hu; (rw [e]; rfl); rcases List.mem_cons.1 hu with e | hu; (rw [e]; rfl); rcases List.mem_cons.1 hu with e | hu; (rw [e]; rfl); cases hu⟩); (case aB => exact HX.out.L.b); (case aF => exact fun _ _ => trivial); (case aO => exact HX.out.L.d); (case aS => exact HX.out.L.b.size); (case aL => rw [List.length_map]; omega); intro v1 w12 ho hb hg hat; have HL := Aside0.mk (HX.out.L.app ⟨e, s, l, Ao, co, Am, cm⟩ hg hb ho HX.out.o HX.out.m); clear ho hb hg hat n0 n1 n2 n3 ln e0 e1 e2 e3 e4))
            exact ⟨⟨q + 1, _, _, A8, c8, D ++ [⟨e, s, l, Ao, co, Am, cm⟩], _, rfl, by go_num, by omega, by omega, by rw [List.length_append, List.length_singleton]; omega, ⟨.snoc D ⟨e, s, l, Ao, co, Am, cm⟩ HH.out HE.out⟩, HL⟩, by simp [intOf]; omega⟩
      · have HOF := Aside0.mk (fun (W : World) (h : WL w W w.heap.size N8 s0 (sv A0 l0 c0) s l A c D vv) => of_no (by omega) (by omega) hsp W A A3 c c3 (h.r.read h.b) h.r.hc (Kd.C_below hC3 h.b) hc3)
        generalize (splT s l f t x m).2.2 = er at *
        clear hfi hgs hls hC3 hml
        have HQ := Aside0.mk (fun (w' : World) (h : WL w w' w.heap.size N8 s0 (sv A0 l0 c0) s l A c D vv) => (⟨⟨h.n.cells.1, h.n.cells.2.1⟩, HZ.out _ h.b⟩ : (w'.cell? ⟨N8, 0, none⟩ = some (.string s) ∧ w'.cell? ⟨N8, 1, none⟩ = some (sv A l c)) ∧ w'.cell? (ad.add (q * 4)) = some (.int .i64 f) ∧ w'.cell? ⟨(ad.add (q * 4)).block, (ad.add (q * 4)).off + 1, none⟩ = some (.int .i64 t) ∧ w'.cell? ⟨(ad.add (q * 4)).block, (ad.add (q * 4)).off + 2, none⟩ = some (.string x) ∧ w'.cell? ⟨(ad.add (q * 4)).block, (ad.add (q * 4)).off + 3, none⟩ = some (sv A3 m c3)))
        go_upto_region 13 with (first | (go_at_call 12; (with_reducible refine (HFI.out _ HL.out).mono ?_); rintro e w6 ⟨rfl, hb6⟩; have HL := Aside0.mk (HL.out.below hb6); clear hb6; clear n0 n1 n2 n3 ln z0 z1 z2 z3; obtain ⟨n0, n1, n2, n3⟩ := HL.out.n.cells; have ln := HL.out.n.lt; obtain ⟨z0, z1, z2, z3⟩ := HZ.out _ HL.out.b))
        generalize w6 = wr6 at *
        go_cut [11, 12] (fun v11 v12 wc => ∃ (W9 : World), W9 = wc ∧ v12 = .int .i64 er ∧ Aside0 (WL w W9 w.heap.size N8 s0 (sv A0 l0 c0) s l A c D vv))
        case first =>
          go_region_held3 (fun w' => (w'.cell? ⟨N8, 0, none⟩ = some (.string s) ∧ w'.cell? ⟨N8, 1, none⟩ = some (sv A l c)) ∧ w'.cell? (ad.add (q * 4)) = some (.int .i64 f) ∧ w'.cell? ⟨(ad.add (q * 4)).block, (ad.add (q * 4)).off + 1, none⟩ = some (.int .i64 t) ∧ w'.cell? ⟨(ad.add (q * 4)).block, (ad.add (q * 4)).off + 2, none⟩ = some (.string x) ∧ w'.cell? ⟨(ad.add (q * 4)).block, (ad.add (q * 4)).off + 3, none⟩ = some (sv A3 m c3)) (first | (with_reducible exact ⟨⟨n0, n1⟩, z0, z1, z2, z3⟩) | (with_reducible exact HP7.out) | (refine HQ.out _ (HL.out.below ?_); (with_reducible first | exact below_alloc HB6.out _ | exact set5_below HB6.out (Nat.le_refl _) | exact below_drew (Below.refl _ _) | exact below_alloc (Below.refl _ _) _ | exact below_drew (below_alloc (Below.refl _ _) _) | exact below_alloc (below_drew (Below.refl _ _)) _))) (first | (go_at_call 9; (with_reducible refine (HOF.out _ (HL.out.below ?sb)).mono ?_); (case sb => exact (by repeat (first | (with_reducible first | exact Below.refl _ _ | apply pw_below_drewN | apply below_alloc | apply below_drew) | exact Below.refl _ _))); rintro e w7 ⟨Ao, co, Am, cm, rfl, hb7⟩; (try obtain ⟨hx7, k0, k1, k2, k3, k4, g0, g1, g2, g3, g4⟩ := old5 (p := wr6.heap.size) hb7 (heap_alloc_new _ _)); have HB6 := Aside0.mk (below_step (by repeat (first | (with_reducible first | exact Below.refl _ _ | apply pw_below_drewN | apply below_alloc | apply below_drew) | exact Below.refl _ _)) hb7 : Below wr6.heap.size wr6 w7); have HL7 := HL.out.below HB6.out; have HP7 := Aside0.mk (⟨⟨HL7.n.cells.1, HL7.n.cells.2.1⟩, HZ.out _ HL7.b⟩ : (_ ∧ _) ∧ _); clear hb7 HL7))
          all_goals (go_wp2; go_meet)
          · exact ⟨_, rfl, rfl, ⟨HL.out.below (below_alloc HB6.out _)⟩⟩
          · exact ⟨_, rfl, rfl, ⟨HL.out.below (set5_below HB6.out (Nat.le_refl _))⟩⟩
        case rest =>
          obtain ⟨W9, rfl, rfl, HL⟩ := hcut
          clear HFI HOF HZ HQ n0 n1 n2 n3 ln z0 z1 z2 z3
          go_wp2
          exact ⟨⟨q + 1, s, l, A, c, D, _, rfl, by go_num, by omega, by omega, by omega, HH, HL⟩, by simp [intOf]; omega⟩
    · have hex2 : ¬ q < L.length ∨ (q < L.length ∧ ¬ q < 30) := by omega
      rcases hex2 with hx | ⟨hx, hx2⟩
      · have hx' : L.length ≤ q := by omega
        have hDl : D.length ≤ 30 := by omega
        clear hDq hl HR1
        obtain ⟨Ad, cd, hvd⟩ : ∃ Ad cd, vv = .slice Ad D.length cd := by
          obtain ⟨Ad, cd, h⟩ := Kd.R_slice HL.out.d
          rw [List.length_map] at h
          exact ⟨Ad, cd, h⟩
        subst hvd
        go_wp2
        go_loopw [15] (fun ii wr => ∃ (z : Int) (k : Nat) (s : ByteArray) (l : List Rn) (A : Option Addr) (c : Nat), ii = .int .i64 z ∧ z + 1 = k ∧ k ≤ D.length ∧ Aside0 (Hist s0 l0 (D.take k) s l) ∧ Aside0 (WL w wr w.heap.size N8 s0 (sv A0 l0 c0) s l A c D (.slice Ad D.length cd))) (fun ii _ => (intOf ii + 1).toNat)
        case atStart => exact ⟨_, D.length, s, l, A, c, rfl, by go_num, Nat.le_refl _, ⟨by rw [List.take_length]; exact HH.out⟩, HL⟩
        case round =>
          clear HL
          obtain ⟨z, k, s2, l2, A, c, rfl, hz, hk, HH, HL⟩ := hrel
          by_cases hk0 : k = 0
          · subst hk0
            obtain rfl : z = -1 := by omega
            have hend := Hist.end_ HH.out
            rw [hend.1, hend.2] at HL
            have hsh := good_short HGD.out
            have HSA := Aside0.mk (fun (W : World) (h : WL w W w.heap.size N8 s0 (sv A0 l0 c0) s0 l0 A c D (.slice Ad D.length cd)) => bureauref04_Same.calls (l0.length + 1) s0 A c l0 s0 A0 c0 l0 true W (h.r.read h.b) h.r.hc (Kd.C_below HR0.out h.b) HC0.out (same4 s0 l0 (by omega)))
            clear hend hsh HH
            obtain ⟨n0, n1, n2, n3⟩ := HL.out.n.cells; have ln := HL.out.n.lt
            obtain ⟨t0, t1, -, -⟩ := HL.out.t.cells
            go_wp2_with (first | (go_at_call 16; (with_reducible refine (HSA.out _ HL.out).mono ?_); rintro e w9 ⟨rfl, hb9⟩; have HL := Aside0.mk (HL.out.below hb9); clear hb9 t0 t1 n0 n1 n2 n3 ln))
            go_ret
            exact ⟨rfl, HL.out.b⟩
          · obtain ⟨k, rfl⟩ : ∃ j, k = j + 1 := ⟨k - 1, by omega⟩
            obtain rfl : z = (k : Int) := by omega
            have hbk := Hist.back HH.out k (by rw [List.length_take]; omega)
            obtain ⟨d, hd, rfl, rfl, hE, hH2⟩ := hbk
            rw [List.take_take, Nat.min_eq_left (Nat.le_succ k)] at hH2
            rw [List.getElem?_take, if_pos (Nat.lt_succ_self k)] at hd
            have HE := Aside0.mk hE
            have HH2 := Aside0.mk hH2
            have HM := Aside0.mk (List.mem_of_getElem? hd)
            have HD := Aside0.mk hd
            have hsl := HL.out.elem k d hd
            obtain ⟨ad, cd', hsl, -⟩ := hsl
            cases hsl
            obtain ⟨z0, z1, z2, z3, z4⟩ := HL.out.elem' k d hd
            have hkl : (k : Int) < (D.length : Int) := by omega
            have HQ := Aside0.mk (fun (w' : World) (h : WL w w' w.heap.size N8 s0 (sv A0 l0 c0) (sS d.s d.e.a d.e.b d.e.x) (spl d.l d.e.a d.e.b d.e.m) A c D (.slice (some ad) D.length cd)) => (⟨⟨h.n.cells.1, h.n.cells.2.1⟩, h.elem' k d HD.out⟩ : (w'.cell? ⟨N8, 0, none⟩ = some (.string (sS d.s d.e.a d.e.b d.e.x)) ∧ w'.cell? ⟨N8, 1, none⟩ = some (sv A (spl d.l d.e.a d.e.b d.e.m) c)) ∧ w'.cell? (ad.add (k * 5)) = some (.int .i64 d.e.a) ∧ w'.cell? ⟨(ad.add (k * 5)).block, (ad.add (k * 5)).off + 1, none⟩ = some (.string (d.s.extract d.e.a d.e.b)) ∧ w'.cell? ⟨(ad.add (k * 5)).block, (ad.add (k * 5)).off + 2, none⟩ = some (sv d.Ao (sli d.l d.e.a d.e.b) d.co) ∧ w'.cell? ⟨(ad.add (k * 5)).block, (ad.add (k * 5)).off + 3, none⟩ = some (.string d.e.x) ∧ w'.cell? ⟨(ad.add (k * 5)).block, (ad.add (k * 5)).off + 4, none⟩ = some (sv d.Am d.e.m d.cm)))
            have HIN := Aside0.mk (fun (W : World) (h : WL w W w.heap.size N8 s0 (sv A0 l0 c0) (sS d.s d.e.a d.e.b d.e.x) (spl d.l d.e.a d.e.b d.e.m) A c D (.slice (some ad) D.length cd)) => inv_ok HE.out W d.Ao d.Am d.co d.cm ((h.e d HM.out).1.read h.b) (h.e d HM.out).1.hc ((h.e d HM.out).2.read h.b) (h.e d HM.out).2.hc)
            have HUN := Aside0.mk (fun (W : World) (A2 : Option Addr) (c2 : Nat) (A4 : Option Addr) (c4 : Nat) (h : Y0 w W w.heap.size N8 s0 (sv A0 l0 c0) (sS d.s d.e.a d.e.b d.e.x) (spl d.l d.e.a d.e.b d.e.m) A c D (.slice (some ad) D.length cd) d A2 c2 A4 c4) => undo_ok HE.out W A A4 A2 c c4 c2 (h.L.r.read h.L.b) h.L.r.hc (h.o.read h.L.b) h.o.hc (h.x.read h.L.b) h.x.hc)
            clear hE hH2 hd HH
            obtain ⟨n0, n1, n2, n3⟩ := HL.out.n.cells; have ln := HL.out.n.lt
            go_upto_region 23 with (fail)
            generalize wr = wr2 at *
            go_cut [16, 17] (fun v16 v17 wc => ∃ (W9 : World) (p : Nat) (A9 : Option Addr) (c9 : Nat), W9 = wc ∧ v16 = .pointer (some ⟨p, 0, none⟩) ∧ v17 = .int .i64 0 ∧ Aside0 (Y1 w W9 w.heap.size N8 s0 (sv A0 l0 c0) (sS d.s d.e.a d.e.b d.e.x) (spl d.l d.e.a d.e.b d.e.m) A c D (.slice (some ad) D.length cd) d.s d.l p A9 c9))
            case first =>
              first | go_region_held3 (fun w' => (w'.cell? ⟨N8, 0, none⟩ = some (.string (sS d.s d.e.a d.e.b d.e.x)) ∧ w'.cell? ⟨N8, 1, none⟩ = some (sv A (spl d.l d.e.a d.e.b d.e.m) c)) ∧ w'.cell? (ad.add (k * 5)) = some (.int .i64 d.e.a) ∧ w'.cell? ⟨(ad.add (k * 5)).block, (ad.add (k * 5)).off + 1, none⟩ = some (.string (d.s.extract d.e.a d.e.b)) ∧ w'.cell? ⟨(ad.add (k * 5)).block, (ad.add (k * 5)).off + 2, none⟩ = some (sv d.Ao (sli d.l d.e.a d.e.b) d.co) ∧ w'.cell? ⟨(ad.add (k * 5)).block, (ad.add (k * 5)).off + 3, none⟩ = some (.string d.e.x) ∧ w'.cell? ⟨(ad.add (k * 5)).block, (ad.add (k * 5)).off + 4, none⟩ = some (sv d.Am d.e.m d.cm)) (first | (with_reducible exact ⟨⟨n0, n1⟩, z0, z1, z2, z3, z4⟩) | (with_reducible exact HP7.out) | (refine HQ.out _ (HL.out.below ?_); (with_reducible first | exact below_alloc HB6.out _ | exact two_set HB6.out (Nat.le_refl _) | exact two_set HB6.out HB5.out.size | exact below_drew (Below.refl _ _) | exact below_alloc (Below.refl _ _) _ | exact below_drew (below_alloc (Below.refl _ _) _) | exact below_alloc (below_drew (Below.refl _ _)) _)) | (trace_state; fail)) (first | (go_at_call 15; (with_reducible refine (HIN.out _ (HL.out.below ?sb)).mono ?_); (case sb => exact (by repeat (first | (with_reducible first | exact Below.refl _ _ | apply pw_below_drewN | apply below_alloc | apply below_drew) | exact Below.refl _ _))); rintro e w7 ⟨A2, c2, A4, c4, rfl, h2, h4, hb7⟩; (try obtain ⟨hx7, k0, k1, g0, g1⟩ := old2 (p := wr2.heap.size) hb7 (heap_alloc_new _ _)); have HB6 := Aside0.mk (below_step (by repeat (first | (with_reducible first | exact Below.refl _ _ | apply pw_below_drewN | apply below_alloc | apply below_drew) | exact Below.refl _ _)) hb7 : Below wr2.heap.size wr2 w7); have HB5 := Aside0.mk HB6.out; have HL7 := HL.out.below HB6.out; have HY := Aside0.mk (⟨HL7, Rd.mk' h2 (Nat.le_trans HL.out.b.size (by simp)), Rd.mk' h4 (Nat.le_trans HL.out.b.size (by simp))⟩ : Y0 w w7 w.heap.size N8 s0 (sv A0 l0 c0) (sS d.s d.e.a d.e.b d.e.x) (spl d.l d.e.a d.e.b d.e.m) A c D (.slice (some ad) D.length cd) d A2 c2 A4 c4); have HP7 := Aside0.mk (HQ.out _ HL7); clear hb7 h2 h4 HL7) | (go_at_call 14; (with_reducible refine (HUN.out _ _ _ _ _ (HY.out.below ?sb)).mono ?_); (case sb => exact (by repeat (first | (with_reducible first | exact Below.refl _ _ | apply pw_below_drewN | apply below_alloc | apply below_drew) | exact Below.refl _ _))); rintro e w8 ⟨A9, c9, rfl, h9, hb8⟩; (try (revert hx7; intro hx7; obtain ⟨hx8, k0, k1, g0, g1⟩ := old2 (p := wr2.heap.size) hb8 hx7)); (try obtain ⟨hx8, k0, k1, g0, g1⟩ := old2 (p := w7.heap.size) hb8 (heap_alloc_new _ _)); have HB7 := Aside0.mk (below_step (by repeat (first | (with_reducible first | exact Below.refl _ _ | apply pw_below_drewN | apply below_alloc | apply below_drew) | exact Below.refl _ _)) hb8 : Below w7.heap.size w7 w8); have HB6 := Aside0.mk (below_step HB6.out HB7.out); have HR9 := Aside0.mk (Kd.R_lower h9 (by simp) : RR w8 w7.heap.size _ _); have HP7 := Aside0.mk (HQ.out _ (HL.out.below HB6.out)); clear hb8 h9)) | fail
              all_goals (go_wp2; go_meet)
              all_goals first | exact ⟨_, _, A9, c9, rfl, rfl, rfl, ⟨Y1.new HL.out HR9.out HY.out.L.b.size HB6.out⟩⟩ | exact ⟨_, _, A9, c9, rfl, rfl, rfl, ⟨Y1.old HL.out HR9.out HY.out.L.b.size HB6.out (Nat.le_refl _) ⟨hx8⟩⟩⟩ | exact ⟨_, _, A9, c9, rfl, rfl, rfl, ⟨Y1.old HL.out HR9.out HY.out.L.b.size HB6.out HB5.out.size ⟨hx8⟩⟩⟩
            case rest =>
              obtain ⟨W9, p, A9, c9, rfl, rfl, rfl, HY⟩ := hcut
              clear HL HQ HIN HUN z0 z1 z2 z3 z4
              clear n0 n1 n2 n3 ln
              obtain ⟨n0, n1, n2, n3⟩ := HY.out.L.n.cells
              have ln := HY.out.L.n.lt
              obtain ⟨x0, x1, -, -⟩ := HY.out.x.cells
              go_wp2
              exact ⟨⟨(k : Int) - 1, k, d.s, d.l, A9, c9, by go_num, by omega, by omega, HH2, ⟨HY.out.L.put HY.out.r⟩⟩, by simp [intOf]⟩
      · have hx' : (q : Int) < (L.length : Int) := by omega
        have hx2' : (30 : Int) ≤ (q : Int) := by omega
        have hDl : D.length ≤ 30 := by omega
        clear hDq hl HR1
        obtain ⟨Ad, cd, hvd⟩ : ∃ Ad cd, vv = .slice Ad D.length cd := by
          obtain ⟨Ad, cd, h⟩ := Kd.R_slice HL.out.d
          rw [List.length_map] at h
          exact ⟨Ad, cd, h⟩
        subst hvd
        go_wp2
        go_loopw [15] (fun ii wr => ∃ (z : Int) (k : Nat) (s : ByteArray) (l : List Rn) (A : Option Addr) (c : Nat), ii = .int .i64 z ∧ z + 1 = k ∧ k ≤ D.length ∧ Aside0 (Hist s0 l0 (D.take k) s l) ∧ Aside0 (WL w wr w.heap.size N8 s0 (sv A0 l0 c0) s l A c D (.slice Ad D.length cd))) (fun ii _ => (intOf ii + 1).toNat)
        case atStart => exact ⟨_, D.length, s, l, A, c, rfl, by go_num, Nat.le_refl _, ⟨by rw [List.take_length]; exact HH.out⟩, HL⟩
        case round =>
          clear HL
          obtain ⟨z, k, s2, l2, A, c, rfl, hz, hk, HH, HL⟩ := hrel
          by_cases hk0 : k = 0
          · subst hk0
            obtain rfl : z = -1 := by omega
            have hend := Hist.end_ HH.out
            rw [hend.1, hend.2] at HL
            have hsh := good_short HGD.out
            have HSA := Aside0.mk (fun (W : World) (h : WL w W w.heap.size N8 s0 (sv A0 l0 c0) s0 l0 A c D (.slice Ad D.length cd)) => bureauref04_Same.calls (l0.length + 1) s0 A c l0 s0 A0 c0 l0 true W (h.r.read h.b) h.r.hc (Kd.C_below HR0.out h.b) HC0.out (same4 s0 l0 (by omega)))
            clear hend hsh HH
            obtain ⟨n0, n1, n2, n3⟩ := HL.out.n.cells; have ln := HL.out.n.lt
            obtain ⟨t0, t1, -, -⟩ := HL.out.t.cells
            go_wp2_with (first | (go_at_call 16; (with_reducible refine (HSA.out _ HL.out).mono ?_); rintro e w9 ⟨rfl, hb9⟩; have HL := Aside0.mk (HL.out.below hb9); clear hb9 t0 t1 n0 n1 n2 n3 ln))
            go_ret
            exact ⟨rfl, HL.out.b⟩
          · obtain ⟨k, rfl⟩ : ∃ j, k = j + 1 := ⟨k - 1, by omega⟩
            obtain rfl : z = (k : Int) := by omega
            have hbk := Hist.back HH.out k (by rw [List.length_take]; omega)
            obtain ⟨d, hd, rfl, rfl, hE, hH2⟩ := hbk
            rw [List.take_take, Nat.min_eq_left (Nat.le_succ k)] at hH2
            rw [List.getElem?_take, if_pos (Nat.lt_succ_self k)] at hd
            have HE := Aside0.mk hE
            have HH2 := Aside0.mk hH2
            have HM := Aside0.mk (List.mem_of_getElem? hd)
            have HD := Aside0.mk hd
            have hsl := HL.out.elem k d hd
            obtain ⟨ad, cd', hsl, -⟩ := hsl
            cases hsl
            obtain ⟨z0, z1, z2, z3, z4⟩ := HL.out.elem' k d hd
            have hkl : (k : Int) < (D.length : Int) := by omega
            have HQ := Aside0.mk (fun (w' : World) (h : WL w w' w.heap.size N8 s0 (sv A0 l0 c0) (sS d.s d.e.a d.e.b d.e.x) (spl d.l d.e.a d.e.b d.e.m) A c D (.slice (some ad) D.length cd)) => (⟨⟨h.n.cells.1, h.n.cells.2.1⟩, h.elem' k d HD.out⟩ : (w'.cell? ⟨N8, 0, none⟩ = some (.string (sS d.s d.e.a d.e.b d.e.x)) ∧ w'.cell? ⟨N8, 1, none⟩ = some (sv A (spl d.l d.e.a d.e.b d.e.m) c)) ∧ w'.cell? (ad.add (k * 5)) = some (.int .i64 d.e.a) ∧ w'.cell? ⟨(ad.add (k * 5)).block, (ad.add (k * 5)).off + 1, none⟩ = some (.string (d.s.extract d.e.a d.e.b)) ∧ w'.cell? ⟨(ad.add (k * 5)).block, (ad.add (k * 5)).off + 2, none⟩ = some (sv d.Ao (sli d.l d.e.a d.e.b) d.co) ∧ w'.cell? ⟨(ad.add (k * 5)).block, (ad.add (k * 5)).off + 3, none⟩ = some (.string d.e.x) ∧ w'.cell? ⟨(ad.add (k * 5)).block, (ad.add (k * 5)).off + 4, none⟩ = some (sv d.Am d.e.m d.cm)))
            have HIN := Aside0.mk (fun (W : World) (h : WL w W w.heap.size N8 s0 (sv A0 l0 c0) (sS d.s d.e.a d.e.b d.e.x) (spl d.l d.e.a d.e.b d.e.m) A c D (.slice (some ad) D.length cd)) => inv_ok HE.out W d.Ao d.Am d.co d.cm ((h.e d HM.out).1.read h.b) (h.e d HM.out).1.hc ((h.e d HM.out).2.read h.b) (h.e d HM.out).2.hc)
            have HUN := Aside0.mk (fun (W : World) (A2 : Option Addr) (c2 : Nat) (A4 : Option Addr) (c4 : Nat) (h : Y0 w W w.heap.size N8 s0 (sv A0 l0 c0) (sS d.s d.e.a d.e.b d.e.x) (spl d.l d.e.a d.e.b d.e.m) A c D (.slice (some ad) D.length cd) d A2 c2 A4 c4) => undo_ok HE.out W A A4 A2 c c4 c2 (h.L.r.read h.L.b) h.L.r.hc (h.o.read h.L.b) h.o.hc (h.x.read h.L.b) h.x.hc)
            clear hE hH2 hd HH
            obtain ⟨n0, n1, n2, n3⟩ := HL.out.n.cells; have ln := HL.out.n.lt
            go_upto_region 23 with (fail)
            generalize wr = wr2 at *
            go_cut [16, 17] (fun v16 v17 wc => ∃ (W9 : World) (p : Nat) (A9 : Option Addr) (c9 : Nat), W9 = wc ∧ v16 = .pointer (some ⟨p, 0, none⟩) ∧ v17 = .int .i64 0 ∧ Aside0 (Y1 w W9 w.heap.size N8 s0 (sv A0 l0 c0) (sS d.s d.e.a d.e.b d.e.x) (spl d.l d.e.a d.e.b d.e.m) A c D (.slice (some ad) D.length cd) d.s d.l p A9 c9))
            case first =>
              first | go_region_held3 (fun w' => (w'.cell? ⟨N8, 0, none⟩ = some (.string (sS d.s d.e.a d.e.b d.e.x)) ∧ w'.cell? ⟨N8, 1, none⟩ = some (sv A (spl d.l d.e.a d.e.b d.e.m) c)) ∧ w'.cell? (ad.add (k * 5)) = some (.int .i64 d.e.a) ∧ w'.cell? ⟨(ad.add (k * 5)).block, (ad.add (k * 5)).off + 1, none⟩ = some (.string (d.s.extract d.e.a d.e.b)) ∧ w'.cell? ⟨(ad.add (k * 5)).block, (ad.add (k * 5)).off + 2, none⟩ = some (sv d.Ao (sli d.l d.e.a d.e.b) d.co) ∧ w'.cell? ⟨(ad.add (k * 5)).block, (ad.add (k * 5)).off + 3, none⟩ = some (.string d.e.x) ∧ w'.cell? ⟨(ad.add (k * 5)).block, (ad.add (k * 5)).off + 4, none⟩ = some (sv d.Am d.e.m d.cm)) (first | (with_reducible exact ⟨⟨n0, n1⟩, z0, z1, z2, z3, z4⟩) | (with_reducible exact HP7.out) | (refine HQ.out _ (HL.out.below ?_); (with_reducible first | exact below_alloc HB6.out _ | exact two_set HB6.out (Nat.le_refl _) | exact two_set HB6.out HB5.out.size | exact below_drew (Below.refl _ _) | exact below_alloc (Below.refl _ _) _ | exact below_drew (below_alloc (Below.refl _ _) _) | exact below_alloc (below_drew (Below.refl _ _)) _)) | (trace_state; fail)) (first | (go_at_call 15; (with_reducible refine (HIN.out _ (HL.out.below ?sb)).mono ?_); (case sb => exact (by repeat (first | (with_reducible first | exact Below.refl _ _ | apply pw_below_drewN | apply below_alloc | apply below_drew) | exact Below.refl _ _))); rintro e w7 ⟨A2, c2, A4, c4, rfl, h2, h4, hb7⟩; (try obtain ⟨hx7, k0, k1, g0, g1⟩ := old2 (p := wr2.heap.size) hb7 (heap_alloc_new _ _)); have HB6 := Aside0.mk (below_step (by repeat (first | (with_reducible first | exact Below.refl _ _ | apply pw_below_drewN | apply below_alloc | apply below_drew) | exact Below.refl _ _)) hb7 : Below wr2.heap.size wr2 w7); have HB5 := Aside0.mk HB6.out; have HL7 := HL.out.below HB6.out; have HY := Aside0.mk (⟨HL7, Rd.mk' h2 (Nat.le_trans HL.out.b.size (by simp)), Rd.mk' h4 (Nat.le_trans HL.out.b.size (by simp))⟩ : Y0 w w7 w.heap.size N8 s0 (sv A0 l0 c0) (sS d.s d.e.a d.e.b d.e.x) (spl d.l d.e.a d.e.b d.e.m) A c D (.slice (some ad) D.length cd) d A2 c2 A4 c4); have HP7 := Aside0.mk (HQ.out _ HL7); clear hb7 h2 h4 HL7) | (go_at_call 14; (with_reducible refine (HUN.out _ _ _ _ _ (HY.out.below ?sb)).mono ?_); (case sb => exact (by repeat (first | (with_reducible first | exact Below.refl _ _ | apply pw_below_drewN | apply below_alloc | apply below_drew) | exact Below.refl _ _))); rintro e w8 ⟨A9, c9, rfl, h9, hb8⟩; (try (revert hx7; intro hx7; obtain ⟨hx8, k0, k1, g0, g1⟩ := old2 (p := wr2.heap.size) hb8 hx7)); (try obtain ⟨hx8, k0, k1, g0, g1⟩ := old2 (p := w7.heap.size) hb8 (heap_alloc_new _ _)); have HB7 := Aside0.mk (below_step (by repeat (first | (with_reducible first | exact Below.refl _ _ | apply pw_below_drewN | apply below_alloc | apply below_drew) | exact Below.refl _ _)) hb8 : Below w7.heap.size w7 w8); have HB6 := Aside0.mk (below_step HB6.out HB7.out); have HR9 := Aside0.mk (Kd.R_lower h9 (by simp) : RR w8 w7.heap.size _ _); have HP7 := Aside0.mk (HQ.out _ (HL.out.below HB6.out)); clear hb8 h9)) | fail
              all_goals (go_wp2; go_meet)
              all_goals first | exact ⟨_, _, A9, c9, rfl, rfl, rfl, ⟨Y1.new HL.out HR9.out HY.out.L.b.size HB6.out⟩⟩ | exact ⟨_, _, A9, c9, rfl, rfl, rfl, ⟨Y1.old HL.out HR9.out HY.out.L.b.size HB6.out (Nat.le_refl _) ⟨hx8⟩⟩⟩ | exact ⟨_, _, A9, c9, rfl, rfl, rfl, ⟨Y1.old HL.out HR9.out HY.out.L.b.size HB6.out HB5.out.size ⟨hx8⟩⟩⟩
            case rest =>
              obtain ⟨W9, p, A9, c9, rfl, rfl, rfl, HY⟩ := hcut
              clear HL HQ HIN HUN z0 z1 z2 z3 z4
              clear n0 n1 n2 n3 ln
              obtain ⟨n0, n1, n2, n3⟩ := HY.out.L.n.cells
              have ln := HY.out.L.n.lt
              obtain ⟨x0, x1, -, -⟩ := HY.out.x.cells
              go_wp2
              exact ⟨⟨(k : Int) - 1, k, d.s, d.l, A9, c9, by go_num, by omega, by omega, HH2, ⟨HY.out.L.put HY.out.r⟩⟩, by simp [intOf]⟩
def bureautop_WholeReplays.f (_s0 : ByteArray) (l0 : List Rn) (L : List XWL.S40) : Option Bool := if l0.length ≤ 9223372036854775807 ∧ ∀ x, x ∈ L → x.f2.f1.length ≤ 9223372036854775807 then some true else none
theorem bureautop_WholeReplays.calls (s0 : ByteArray) (A0 : Option Addr) (c0 : Nat) (l0 : List Rn) (A1 : Option Addr) (c1 : Nat) (L : List XWL.S40) (r : Bool) (w : World) (hr0 : Kd.C k29 w A0 l0.length l0) (hc0 : l0.length ≤ c0) (hr1 : Kd.C XWL.k40 w A1 L.length L) (hc1 : L.length ≤ c1) (h : bureautop_WholeReplays.f s0 l0 L = some r) :
    Calls Try.prog 3 #[.agg #[.string s0, .slice A0 l0.length c0], .slice A1 L.length c1] w fun e w' => e = .returned (.bool r) ∧ Below w.heap.size w w' := by
  unfold bureautop_WholeReplays.f at h
  by_cases hc : l0.length ≤ 9223372036854775807 ∧ ∀ x, x ∈ L → x.f2.f1.length ≤ 9223372036854775807
  · rw [if_pos hc] at h
    cases h
    exact Replays_w s0 A0 A1 c0 c1 l0 L w hr0 hc0 hr1 hc1 hc.1 hc.2
  · rw [if_neg hc] at h
    cases h

end Go.Proofs.Ytgaggoglbkcomaa.Ext
