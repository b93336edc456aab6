/- WholeReplays: what its calls leave, and its state. -/
import Derived.Test.YtgaggoglbkcomaaExtSE
import Derived.Test.YtgaggoglbkcomaaXWRx1
import Derived.Test.YtgaggoglbkcomaaXRRx3
import Derived.Test.YtgaggoglbkcomaaXRRx5
import Derived.Test.YtgaggoglbkcomaaXRRx0
import Derived.Test.YtgaggoglbkcomaaWMore
import Derived.WalkKit
import Derived.WalkMore
import Derived.Below
import Derived.KernelRfl
import Derived.LoopTactic
import Derived.Deep.RegionWith
import Derived.Deep.RegionHeld3
import Derived.IntWalk
import Derived.Deep.DeepCutAuto
import Derived.Deep.CutBlock
import Derived.BigQuiet
import Derived.Laws.RangeString
import Derived.Laws.RangeAny
import Derived.Laws.Rows
import Derived.Laws.Runes
import Derived.Lib.OthersKept
import Derived.OpenShut
set_option linter.unusedVariables false
set_option linter.unusedSimpArgs false
namespace Go.Proofs.Ytgaggoglbkcomaa.Ext
open Go.RowKit Go.Lib Go.Proofs.YtgaggoglbkcomaaW.PrintWords Go.Proofs.YtgaggoglbkcomaaW.PrintMore Go.Proofs.Ytgaggoglbkcomaa.XRR Go.Proofs.Ytgaggoglbkcomaa.XWR

abbrev RR (w : World) (base : Nat) (v : Value) (l : List Rn) : Prop := Kd.R k29 29 w base (fun _ => True) v l
abbrev CC (w : World) (A : Option Addr) (l : List Rn) : Prop := Kd.C k29 w A l.length l
abbrev sv (A : Option Addr) (l : List Rn) (c : Nat) : Value := .slice A l.length c
abbrev eV (a : Nat) (s : ByteArray) (u : Value) (x : ByteArray) (v : Value) : Value := .agg #[.int .i64 (a : Int), .string s, u, .string x, v]
theorem of_ok {s : ByteArray} {l : List Rn} {e : Ed} (h : EdOk s l e) (W : World) (A Ax : Option Addr) (c cx : Nat) (hr : CC W A l) (hc : l.length ≤ c) (hx : CC W Ax e.m) (hcx : e.m.length ≤ cx) :
    Calls Try.prog 9 #[vT s (sv A l c), .int .i64 e.a, .int .i64 e.b, vT e.x (sv Ax e.m cx)] W fun E w' => ∃ Ao co Am cm, E = .returned (.tuple #[eV e.a (s.extract e.a e.b) (sv Ao (sli l e.a e.b) co) e.x (sv Am e.m cm), .int .i64 0]) ∧ RR w' W.heap.size (sv Ao (sli l e.a e.b) co) (sli l e.a e.b) ∧ RR w' W.heap.size (sv Am e.m cm) e.m ∧ Below W.heap.size W w' :=
  (edit_Of.calls s A c l e.a e.b e.x Ax cx e.m _ _ _ _ _ _ W hr hc hx hcx (ed_Of h)).mono fun E w' ⟨v2, v4, hE, h2, h4, hb⟩ => by
    obtain ⟨Ao, co, e2⟩ := Kd.R_slice h2
    obtain ⟨Am, cm, e4⟩ := Kd.R_slice h4
    subst e2 e4
    exact ⟨Ao, co, Am, cm, hE, Kd.R_mono h2 (fun _ _ => trivial), Kd.R_mono h4 (fun _ _ => trivial), hb⟩
theorem of_no {s : ByteArray} {l : List Rn} {f t : Int} {x : ByteArray} {m : List Rn} (hl : l.length ≤ 100000) (hm : m.length ≤ 100000) (h : (splT s l f t x m).2.2 ≠ 0) (W : World) (A Ax : Option Addr) (c cx : Nat) (hr : CC W A l) (hc : l.length ≤ c) (hx : CC W Ax m) (hcx : m.length ≤ cx) :
    Calls Try.prog 9 #[vT s (sv A l c), .int .i64 f, .int .i64 t, vT x (sv Ax m cx)] W fun E w' => ∃ Ao co Am cm, E = .returned (.tuple #[eV 0 ⟨#[]⟩ (.slice Ao 0 co) ⟨#[]⟩ (.slice Am 0 cm), .int .i64 (splT s l f t x m).2.2]) ∧ Below W.heap.size W w' :=
  (edit_Of.calls s A c l f t x Ax cx m _ _ _ _ _ _ W hr hc hx hcx (ed_Of_no hl hm h)).mono fun E w' ⟨v2, v4, hE, h2, h4, hb⟩ => by
    obtain ⟨Ao, co, e2⟩ := Kd.R_slice h2
    obtain ⟨Am, cm, e4⟩ := Kd.R_slice h4
    subst e2 e4
    exact ⟨Ao, co, Am, cm, hE, hb⟩
theorem apply_ok {s : ByteArray} {l : List Rn} {e : Ed} (h : EdOk s l e) (W : World) (A Ao Am : Option Addr) (c co cm : Nat) (hr : CC W A l) (hc : l.length ≤ c) (ho : CC W Ao (sli l e.a e.b)) (hco : (sli l e.a e.b).length ≤ co) (hm : CC W Am e.m) (hcm : e.m.length ≤ cm) :
    Calls Try.prog 14 #[vT s (sv A l c), eV e.a (s.extract e.a e.b) (sv Ao (sli l e.a e.b) co) e.x (sv Am e.m cm)] W fun E w' => ∃ A1 c1, E = .returned (.tuple #[vT (sS s e.a e.b e.x) (sv A1 (spl l e.a e.b e.m) c1), .int .i64 0]) ∧ RR w' W.heap.size (sv A1 (spl l e.a e.b e.m) c1) (spl l e.a e.b e.m) ∧ Below W.heap.size W w' :=
  (edit_Apply.calls 10000 s A c l e.a (s.extract e.a e.b) Ao co (sli l e.a e.b) e.x Am cm e.m _ _ _ W hr hc ho hco hm hcm (ed_Apply h 10000 (Nat.le_refl _))).mono fun E w' ⟨v1, hE, h1, hb⟩ => by
    obtain ⟨A1, c1, e1⟩ := Kd.R_slice h1
    subst e1
    exact ⟨A1, c1, hE, h1, hb⟩
theorem undo_ok {s : ByteArray} {l : List Rn} {e : Ed} (h : EdOk s l e) (W : World) (A Ao Am : Option Addr) (c co cm : Nat) (hr : CC W A (spl l e.a e.b e.m)) (hc : (spl l e.a e.b e.m).length ≤ c) (ho : CC W Ao (sli l e.a e.b)) (hco : (sli l e.a e.b).length ≤ co) (hm : CC W Am e.m) (hcm : e.m.length ≤ cm) :
    Calls Try.prog 14 #[vT (sS s e.a e.b e.x) (sv A (spl l e.a e.b e.m) c), eV e.a e.x (sv Am e.m cm) (s.extract e.a e.b) (sv Ao (sli l e.a e.b) co)] W fun E w' => ∃ A1 c1, E = .returned (.tuple #[vT s (sv A1 l c1), .int .i64 0]) ∧ RR w' W.heap.size (sv A1 l c1) l ∧ Below W.heap.size W w' :=
  (edit_Apply.calls 10000 _ A c _ e.a e.x Am cm e.m (s.extract e.a e.b) Ao co (sli l e.a e.b) _ _ _ W hr hc hm hcm ho hco (ed_undo h 10000 (Nat.le_refl _))).mono fun E w' ⟨v1, hE, h1, hb⟩ => by
    obtain ⟨A1, c1, e1⟩ := Kd.R_slice h1
    subst e1
    exact ⟨A1, c1, hE, h1, hb⟩
theorem inv_ok {s : ByteArray} {l : List Rn} {e : Ed} (h : EdOk s l e) (W : World) (Ao Am : Option Addr) (co cm : Nat) (ho : CC W Ao (sli l e.a e.b)) (hco : (sli l e.a e.b).length ≤ co) (hm : CC W Am e.m) (hcm : e.m.length ≤ cm) :
    Calls Try.prog 15 #[eV e.a (s.extract e.a e.b) (sv Ao (sli l e.a e.b) co) e.x (sv Am e.m cm)] W fun E w' => ∃ A2 c2 A4 c4, E = .returned (eV e.a e.x (sv A2 e.m c2) (s.extract e.a e.b) (sv A4 (sli l e.a e.b) c4)) ∧ RR w' W.heap.size (sv A2 e.m c2) e.m ∧ RR w' W.heap.size (sv A4 (sli l e.a e.b) c4) (sli l e.a e.b) ∧ Below W.heap.size W w' :=
  (edit_Invert.calls e.a (s.extract e.a e.b) Ao co (sli l e.a e.b) e.x Am cm e.m _ _ _ _ _ W ho hco hm hcm (ed_Invert h)).mono fun E w' ⟨v2, v4, hE, h2, h4, hb⟩ => by
    obtain ⟨A2, c2, e2⟩ := Kd.R_slice h2
    obtain ⟨A4, c4, e4⟩ := Kd.R_slice h4
    subst e2 e4
    exact ⟨A2, c2, A4, c4, hE, Kd.R_mono h2 (fun _ _ => trivial), Kd.R_mono h4 (fun _ _ => trivial), hb⟩
theorem fol_ok {s : ByteArray} {l : List Rn} {e : Ed} (h : EdOk s l e) (p r : Int) (hf : edit_Follow.f 10000 e.a (s.extract e.a e.b) (sli l e.a e.b) e.x e.m p = some r) (W : World) (Ao Am : Option Addr) (co cm : Nat) (ho : CC W Ao (sli l e.a e.b)) (hco : (sli l e.a e.b).length ≤ co) (hm : CC W Am e.m) (hcm : e.m.length ≤ cm) :
    Calls Try.prog 11 #[eV e.a (s.extract e.a e.b) (sv Ao (sli l e.a e.b) co) e.x (sv Am e.m cm), .int .i64 p] W fun E w' => E = .returned (.int .i64 r) ∧ Below W.heap.size W w' :=
  edit_Follow.calls 10000 e.a (s.extract e.a e.b) Ao co (sli l e.a e.b) e.x Am cm e.m p r W ho hco hm hcm hf
theorem check_ok {s : ByteArray} {l : List Rn} {e : Ed} (h : EdOk s l e) (W : World) (A Ao Am : Option Addr) (c co cm : Nat) (hr : CC W A l) (hc : l.length ≤ c) (ho : CC W Ao (sli l e.a e.b)) (hco : (sli l e.a e.b).length ≤ co) (hm : CC W Am e.m) (hcm : e.m.length ≤ cm) :
    Calls Try.prog 10 #[vT s (sv A l c), eV e.a (s.extract e.a e.b) (sv Ao (sli l e.a e.b) co) e.x (sv Am e.m cm)] W fun E w' => E = .returned (.int .i64 0) ∧ Below W.heap.size W w' :=
  edit_Check.calls 10000 s A c l e.a (s.extract e.a e.b) Ao co (sli l e.a e.b) e.x Am cm e.m 0 W hr hc ho hco hm hcm (by unfold edit_Check.f; rw [ed_Apply h 10000 (Nat.le_refl _), Option.bind_some])
/-- Runs that may be read: of the walk's start, or the walk's own. -/
structure Rd (w wr : World) (A : Option Addr) (c : Nat) (l : List Rn) : Prop where
  hc : l.length ≤ c
  r : CC w A l ∨ RR wr w.heap.size (sv A l c) l
theorem Rd.read {w wr : World} {A : Option Addr} {c : Nat} {l : List Rn} (h : Rd w wr A c l) (hb : Below w.heap.size w wr) : CC wr A l := by
  rcases h.r with h | h
  · exact Kd.C_below h hb
  · exact (Kd.R_reads' h).2.2
theorem Rd.below {w wr w' : World} {A : Option Addr} {c : Nat} {l : List Rn} (h : Rd w wr A c l) (hb : Below wr.heap.size wr w') : Rd w w' A c l := ⟨h.hc, h.r.imp id (fun h => Kd.R_below h hb)⟩
theorem Rd.mk' {w wr : World} {base : Nat} {A : Option Addr} {c : Nat} {l : List Rn} (h : RR wr base (sv A l c) l) (hb : w.heap.size ≤ base) : Rd w wr A c l := ⟨(Kd.R_reads' h).2.1, .inr (Kd.R_lower h hb)⟩
theorem Rd.box {w wr : World} {A : Option Addr} {c : Nat} {l : List Rn} {T : Nat} {s : ByteArray} {u : Value} (h : Rd w wr A c l) (hx : BX wr T s u) (x y : Value) : Rd w ((wr.setCell ⟨T, 0, none⟩ x).setCell ⟨T, 1, none⟩ y) A c l := ⟨h.hc, h.r.imp id (fun h => R_two h hx x y)⟩
theorem own_ty {w : World} {base : Nat} {v : Value} {xs : List (List Value)} (hv : Kd.R (Kd.raw 5) 31 w base (fun _ => True) v xs) (k : Nat) (hk : v.ownBlock = some k) : ∃ cells, w.heap[k]? = some (.cells cells 31 (0, 0)) := by
  obtain ⟨-, -, -, q, hq, cells, hc⟩ := (Kd.R_bound hv).1 k hk
  rcases List.mem_cons.1 hq with e | e
  · subst e; exact ⟨cells, hc⟩
  · exact (List.not_mem_nil e).elim
theorem Rd.app {w wr w' : World} {A : Option Addr} {c : Nat} {l : List Rn} {base : Nat} {v : Value} {xs : List (List Value)} (h : Rd w wr A c l) (hv : Kd.R (Kd.raw 5) 31 wr base (fun _ => True) v xs) (hG : wr.grownBy w' v.ownBlock) : Rd w w' A c l :=
  ⟨h.hc, h.r.imp id (fun h => by
    cases e : v.ownBlock with
    | none =>
      rw [e] at hG
      exact Kd.R_step h (fun k _ hk => hG.block k hk (fun e => by cases e))
    | some p =>
      obtain ⟨cells, hc⟩ := own_ty hv p e
      rw [e] at hG
      exact Kd.R_mono (Kd.R_step (Kd.R_types h hc (fun q hq => by
        rcases List.mem_cons.1 hq with e | e
        · rw [e]; decide
        · exact (List.not_mem_nil e).elim)) (fun k hk hlt => hG.block k hlt (fun e => hk.2 (by injection e)))) (fun _ hk => hk.1))⟩
theorem BX.app {wr w' : World} {T : Nat} {s : ByteArray} {u : Value} {base : Nat} {v : Value} {xs : List (List Value)} (h : BX wr T s u) (hv : Kd.R (Kd.raw 5) 31 wr base (fun _ => True) v xs) (hG : wr.grownBy w' v.ownBlock) : BX w' T s u :=
  ⟨blk_grown h.x hG (fun e => by
    obtain ⟨cells, hc⟩ := own_ty hv T e.symm
    rw [h.x] at hc
    cases hc)⟩
/-- An edit that was done: of which text, and where its lists lie. -/
structure De where
  e : Ed
  s : ByteArray
  l : List Rn
  Ao : Option Addr
  co : Nat
  Am : Option Addr
  cm : Nat
def deR (d : De) : List Value := [.int .i64 d.e.a, .string (d.s.extract d.e.a d.e.b), sv d.Ao (sli d.l d.e.a d.e.b) d.co, .string d.e.x, sv d.Am d.e.m d.cm]
/-- What the edits that were done led through. -/
inductive Hist (s0 : ByteArray) (l0 : List Rn) : List De → ByteArray → List Rn → Prop
  | nil : Hist s0 l0 [] s0 l0
  | snoc (D : List De) (d : De) : Hist s0 l0 D d.s d.l → EdOk d.s d.l d.e → Hist s0 l0 (D ++ [d]) (sS d.s d.e.a d.e.b d.e.x) (spl d.l d.e.a d.e.b d.e.m)
theorem Hist.good {s0 s : ByteArray} {l0 l : List Rn} {D : List De} (h : Hist s0 l0 D s l) (h0 : goodT s0 l0 = true) : goodT s l = true := by
  cases h with
  | nil => exact h0
  | snoc D d _ he => exact he.next
theorem Hist.back {s0 s : ByteArray} {l0 l : List Rn} {D : List De} (h : Hist s0 l0 D s l) (p : Nat) (hp : D.length = p + 1) : ∃ d, D[p]? = some d ∧ s = sS d.s d.e.a d.e.b d.e.x ∧ l = spl d.l d.e.a d.e.b d.e.m ∧ EdOk d.s d.l d.e ∧ Hist s0 l0 (D.take p) d.s d.l := by
  cases h with
  | nil => simp at hp
  | snoc D d hh he =>
    have hl : D.length = p := by simpa using hp
    subst hl
    refine ⟨d, by simp, rfl, rfl, he, ?_⟩
    rw [List.take_left']
    · exact hh
    · rfl
theorem Hist.end_ {s0 s : ByteArray} {l0 l : List Rn} (h : Hist s0 l0 [] s l) : s = s0 ∧ l = l0 := by
  generalize hD : ([] : List De) = D at h
  cases h with
  | nil => exact ⟨rfl, rfl⟩
  | snoc D d _ _ => simp at hD
/-- The walk's state. -/
structure WL (w wr : World) (T N8 : Nat) (s0 : ByteArray) (v0 : Value) (s : ByteArray) (l : List Rn) (A : Option Addr) (c : Nat) (D : List De) (vd : Value) : Prop where
  b : Below w.heap.size w wr
  t : BX wr T s0 v0
  n : BX wr N8 s (sv A l c)
  r : Rd w wr A c l
  d : Kd.R (Kd.raw 5) 31 wr w.heap.size (fun _ => True) vd (D.map deR)
  e : ∀ d, d ∈ D → Rd w wr d.Ao d.co (sli d.l d.e.a d.e.b) ∧ Rd w wr d.Am d.cm d.e.m
  ne : T ≠ N8
  le : w.heap.size ≤ N8
theorem WL.below {w wr w' : World} {T N8 : Nat} {s0 : ByteArray} {v0 : Value} {s : ByteArray} {l : List Rn} {A : Option Addr} {c : Nat} {D : List De} {vd : Value} (h : WL w wr T N8 s0 v0 s l A c D vd) (hb : Below wr.heap.size wr w') : WL w w' T N8 s0 v0 s l A c D vd :=
  ⟨below_step h.b hb, h.t.below hb, h.n.below hb, h.r.below hb, Kd.R_below h.d hb, fun d hd => ⟨(h.e d hd).1.below hb, (h.e d hd).2.below hb⟩, h.ne, h.le⟩
theorem rows_two {w : World} {base T : Nat} {v : Value} {xs : List (List Value)} {s : ByteArray} {u : Value} (h : Kd.R (Kd.raw 5) 31 w base (fun _ => True) v xs) (hx : BX w T s u) (x y : Value) : Kd.R (Kd.raw 5) 31 ((w.setCell ⟨T, 0, none⟩ x).setCell ⟨T, 1, none⟩ y) base (fun _ => True) v xs := by
  have hq : ∀ q, q ∈ 31 :: (Kd.raw 5).E → q ≠ 24 := fun q hq => by
    rcases List.mem_cons.1 hq with e | e
    · rw [e]; decide
    · exact (List.not_mem_nil e).elim
  have h1 := Kd.R_set h hx.x hq 0 x
  exact Kd.R_set h1 (heap_setCell_same w T 0 _ _ x hx.x) hq 1 y
theorem WL.put {w wr : World} {T N8 : Nat} {s0 : ByteArray} {v0 : Value} {s : ByteArray} {l : List Rn} {A : Option Addr} {c : Nat} {D : List De} {vd : Value} (h : WL w wr T N8 s0 v0 s l A c D vd) {s' : ByteArray} {l' : List Rn} {A' : Option Addr} {c' : Nat} (hr : Rd w wr A' c' l') : WL w ((wr.setCell ⟨N8, 0, none⟩ (.string s')).setCell ⟨N8, 1, none⟩ (sv A' l' c')) T N8 s0 v0 s' l' A' c' D vd := by
  have h1 := heap_setCell_same wr N8 0 _ _ (.string s') h.n.x
  refine ⟨two_set h.b h.le, ⟨?_⟩, ⟨heap_setCell_same _ N8 1 _ _ (sv A' l' c') h1⟩, hr.box h.n _ _, rows_two h.d h.n _ _, fun d hd => ⟨(h.e d hd).1.box h.n _ _, (h.e d hd).2.box h.n _ _⟩, h.ne, h.le⟩
  rw [heap_setCell_other _ _ _ _ (by exact h.ne), heap_setCell_other _ _ _ _ (by exact h.ne)]
  exact h.t.x
theorem WL.app {w wr w' : World} {T N8 : Nat} {s0 : ByteArray} {v0 : Value} {s : ByteArray} {l : List Rn} {A : Option Addr} {c : Nat} {D : List De} {vd vd' : Value} (h : WL w wr T N8 s0 v0 s l A c D vd) (d : De) (hG : wr.grownBy w' vd.ownBlock) (hb : Below w.heap.size w w') (hr : Kd.R (Kd.raw 5) 31 w' w.heap.size (fun _ => True) vd' (D.map deR ++ [deR d])) (h1 : Rd w wr d.Ao d.co (sli d.l d.e.a d.e.b)) (h2 : Rd w wr d.Am d.cm d.e.m) : WL w w' T N8 s0 v0 s l A c (D ++ [d]) vd' := by
  refine ⟨hb, h.t.app h.d hG, h.n.app h.d hG, h.r.app h.d hG, ?_, fun x hx => ?_, h.ne, h.le⟩
  · rw [List.map_append, List.map_singleton]
    exact hr
  · rcases List.mem_append.1 hx with hx | hx
    · exact ⟨(h.e x hx).1.app h.d hG, (h.e x hx).2.app h.d hG⟩
    · rw [List.mem_singleton.1 hx]
      exact ⟨h1.app h.d hG, h2.app h.d hG⟩
theorem WL.elem {w wr : World} {T N8 : Nat} {s0 : ByteArray} {v0 : Value} {s : ByteArray} {l : List Rn} {A : Option Addr} {c : Nat} {D : List De} {vd : Value} (h : WL w wr T N8 s0 v0 s l A c D vd) (p : Nat) (d : De) (hp : D[p]? = some d) : ∃ ad cd, vd = .slice (some ad) D.length cd ∧ wr.cell? (ad.add (p * 5)) = some (.int .i64 d.e.a) ∧ wr.cell? ⟨(ad.add (p * 5)).block, (ad.add (p * 5)).off + 1, none⟩ = some (.string (d.s.extract d.e.a d.e.b)) ∧ wr.cell? ⟨(ad.add (p * 5)).block, (ad.add (p * 5)).off + 2, none⟩ = some (sv d.Ao (sli d.l d.e.a d.e.b) d.co) ∧ wr.cell? ⟨(ad.add (p * 5)).block, (ad.add (p * 5)).off + 3, none⟩ = some (.string d.e.x) ∧ wr.cell? ⟨(ad.add (p * 5)).block, (ad.add (p * 5)).off + 4, none⟩ = some (sv d.Am d.e.m d.cm) := by
  have hpl : p < D.length := (List.getElem?_eq_some_iff.1 hp).1
  obtain ⟨Av, cv, e, hc, hC⟩ := Kd.R_reads h.d
  subst e
  obtain ⟨ad, cs, eA, hl, hK, hcell⟩ := Kd.C_get hC [] (p : Int) (by omega) (by rw [List.length_map]; omega)
  rw [Int.toNat_natCast] at hK hcell
  have ep : (D.map deR).getD p [] = deR d := by
    rw [List.getD_eq_getElem?_getD, List.getElem?_map, hp]
    rfl
  rw [ep] at hK
  have ecs : cs = deR d := hK.1
  subst ecs
  refine ⟨ad, cv, by rw [eA, List.length_map], hcell 0 _ rfl, ?_, ?_, ?_, ?_⟩
  · rw [← add_field _ _ 1 (by omega)]
    exact hcell 1 _ rfl
  · rw [← add_field _ _ 2 (by omega)]
    exact hcell 2 _ rfl
  · rw [← add_field _ _ 3 (by omega)]
    exact hcell 3 _ rfl
  · rw [← add_field _ _ 4 (by omega)]
    exact hcell 4 _ rfl
/-- A row of one run, made here. -/
theorem C_lit {w : World} {p : Nat} {a b : Int} (h : w.heap[p]? = some (.cells #[.int .u64 a, .int .i64 b] 29 (0, 0))) : CC w (some ⟨p, 0, none⟩) [⟨a, b⟩] := C_one w p a b (cell_of_row w p 0 _ _ _ h) (cell_of_row w p 1 _ _ _ h)
/-- A box of an edit. -/
structure EB (w : World) (p : Nat) (a : Nat) (s : ByteArray) (u : Value) (x : ByteArray) (v : Value) : Prop where
  x : w.heap[p]? = some (.cells #[.int .i64 (a : Int), .string s, u, .string x, v] 31 (0, 0))
theorem EB.below {w w' : World} {p a : Nat} {s : ByteArray} {u : Value} {x : ByteArray} {v : Value} (h : EB w p a s u x v) (hb : Below w.heap.size w w') : EB w' p a s u x v := ⟨(hb.block p (Array.getElem?_eq_some_iff.1 h.x).1).trans h.x⟩
theorem EB.cells {w : World} {p a : Nat} {s : ByteArray} {u : Value} {x : ByteArray} {v : Value} (h : EB w p a s u x v) : w.cell? ⟨p, 0, none⟩ = some (.int .i64 (a : Int)) ∧ w.cell? ⟨p, 1, none⟩ = some (.string s) ∧ w.cell? ⟨p, 2, none⟩ = some u ∧ w.cell? ⟨p, 3, none⟩ = some (.string x) ∧ w.cell? ⟨p, 4, none⟩ = some v :=
  ⟨cell_of_row w p 0 _ _ _ h.x, cell_of_row w p 1 _ _ _ h.x, cell_of_row w p 2 _ _ _ h.x, cell_of_row w p 3 _ _ _ h.x, cell_of_row w p 4 _ _ _ h.x⟩
def fitB (s : ByteArray) (m : List Rn) : Bool := decide (s.size ≤ 5000 ∧ m.length ≤ 5000)
theorem fit_f (s : ByteArray) (m : List Rn) : bureaulaw04_Fits.f s m = some (fitB s m) := by
  unfold bureaulaw04_Fits.f fitB
  by_cases c : (s.size : Int) ≤ 5000
  · rw [if_pos c]
    congr 1
    exact decide_eq_decide.2 (by constructor <;> intro h <;> omega)
  · rw [if_neg c, decide_eq_false (by omega)]
theorem cell_old {w W : World} (hb : Below w.heap.size w W) {a : Addr} {v : Value} (h : w.cell? a = some v) : W.cell? a = some v := by
  rw [hb.cell (p := a) ?_]
  · exact h
  · unfold World.cell? at h
    cases e : w.heap[a.block]? with
    | none => rw [e] at h; cases h
    | some o => exact (Array.getElem?_eq_some_iff.1 e).1
/-- An edit was told. -/
structure X1 (w wr : World) (T N8 : Nat) (s0 : ByteArray) (v0 : Value) (s : ByteArray) (l : List Rn) (A : Option Addr) (c : Nat) (D : List De) (vd : Value) (e : Ed) (p : Nat) (Ao : Option Addr) (co : Nat) (Am : Option Addr) (cm : Nat) : Prop where
  L : WL w wr T N8 s0 v0 s l A c D vd
  eb : EB wr p e.a (s.extract e.a e.b) (sv Ao (sli l e.a e.b) co) e.x (sv Am e.m cm)
  o : Rd w wr Ao co (sli l e.a e.b)
  m : Rd w wr Am cm e.m
theorem X1.below {w wr w' : World} {T N8 : Nat} {s0 : ByteArray} {v0 : Value} {s : ByteArray} {l : List Rn} {A : Option Addr} {c : Nat} {D : List De} {vd : Value} {e : Ed} {p : Nat} {Ao : Option Addr} {co : Nat} {Am : Option Addr} {cm : Nat} (h : X1 w wr T N8 s0 v0 s l A c D vd e p Ao co Am cm) (hb : Below wr.heap.size wr w') : X1 w w' T N8 s0 v0 s l A c D vd e p Ao co Am cm := ⟨h.L.below hb, h.eb.below hb, h.o.below hb, h.m.below hb⟩
theorem X1.new {w wr w2 : World} {T N8 : Nat} {s0 : ByteArray} {v0 : Value} {s : ByteArray} {l : List Rn} {A : Option Addr} {c : Nat} {D : List De} {vd : Value} {e : Ed} {Ao : Option Addr} {co : Nat} {Am : Option Addr} {cm : Nat} (h : WL w wr T N8 s0 v0 s l A c D vd) (ho : RR w2 wr.heap.size (sv Ao (sli l e.a e.b) co) (sli l e.a e.b)) (hm : RR w2 wr.heap.size (sv Am e.m cm) e.m) (hb : Below wr.heap.size wr w2) : X1 w (w2.alloc (.cells #[.int .i64 (e.a : Int), .string (s.extract e.a e.b), sv Ao (sli l e.a e.b) co, .string e.x, sv Am e.m cm] 31)) T N8 s0 v0 s l A c D vd e w2.heap.size Ao co Am cm :=
  ⟨(h.below hb).below (below_alloc (Below.refl _ _) _), ⟨heap_alloc_new _ _⟩, (Rd.mk' ho h.b.size).below (below_alloc (Below.refl _ _) _), (Rd.mk' hm h.b.size).below (below_alloc (Below.refl _ _) _)⟩
/-- It was made. -/
structure X2 (w wr : World) (T N8 : Nat) (s0 : ByteArray) (v0 : Value) (s : ByteArray) (l : List Rn) (A : Option Addr) (c : Nat) (D : List De) (vd : Value) (e : Ed) (p : Nat) (Ao : Option Addr) (co : Nat) (Am : Option Addr) (cm p8 : Nat) (A8 : Option Addr) (c8 : Nat) : Prop where
  X : X1 w wr T N8 s0 v0 s l A c D vd e p Ao co Am cm
  x : BX wr p8 (sS s e.a e.b e.x) (sv A8 (spl l e.a e.b e.m) c8)
  r : Rd w wr A8 c8 (spl l e.a e.b e.m)
theorem X2.below {w wr w' : World} {T N8 : Nat} {s0 : ByteArray} {v0 : Value} {s : ByteArray} {l : List Rn} {A : Option Addr} {c : Nat} {D : List De} {vd : Value} {e : Ed} {p : Nat} {Ao : Option Addr} {co : Nat} {Am : Option Addr} {cm p8 : Nat} {A8 : Option Addr} {c8 : Nat} (h : X2 w wr T N8 s0 v0 s l A c D vd e p Ao co Am cm p8 A8 c8) (hb : Below wr.heap.size wr w') : X2 w w' T N8 s0 v0 s l A c D vd e p Ao co Am cm p8 A8 c8 := ⟨h.X.below hb, h.x.below hb, h.r.below hb⟩
theorem X2.new {w wr w2 : World} {T N8 : Nat} {s0 : ByteArray} {v0 : Value} {s : ByteArray} {l : List Rn} {A : Option Addr} {c : Nat} {D : List De} {vd : Value} {e : Ed} {p : Nat} {Ao : Option Addr} {co : Nat} {Am : Option Addr} {cm : Nat} {A8 : Option Addr} {c8 : Nat} (h : X1 w wr T N8 s0 v0 s l A c D vd e p Ao co Am cm) (hr : RR w2 wr.heap.size (sv A8 (spl l e.a e.b e.m) c8) (spl l e.a e.b e.m)) (hb : Below wr.heap.size wr w2) : X2 w (w2.alloc (.cells #[.string (sS s e.a e.b e.x), sv A8 (spl l e.a e.b e.m) c8] 24)) T N8 s0 v0 s l A c D vd e p Ao co Am cm w2.heap.size A8 c8 :=
  ⟨(h.below hb).below (below_alloc (Below.refl _ _) _), ⟨heap_alloc_new _ _⟩, (Rd.mk' hr h.L.b.size).below (below_alloc (Below.refl _ _) _)⟩
/-- The five stores of an edit. -/
abbrev set5 (w : World) (p : Nat) (a b c d e : Value) : World := ((((w.setCell ⟨p, 0, none⟩ a).setCell ⟨p, 1, none⟩ b).setCell ⟨p, 2, none⟩ c).setCell ⟨p, 3, none⟩ d).setCell ⟨p, 4, none⟩ e
theorem set5_heap {w : World} {p : Nat} {z0 z1 z2 z3 z4 a b c d e : Value} (h : w.heap[p]? = some (.cells #[z0, z1, z2, z3, z4] 31 (0, 0))) : (set5 w p a b c d e).heap[p]? = some (.cells #[a, b, c, d, e] 31 (0, 0)) := by
  have h1 := heap_setCell_same w p 0 _ _ a h
  have h2 := heap_setCell_same _ p 1 _ _ b h1
  have h3 := heap_setCell_same _ p 2 _ _ c h2
  have h4 := heap_setCell_same _ p 3 _ _ d h3
  have h5 := heap_setCell_same _ p 4 _ _ e h4
  exact h5
theorem set5_R {w : World} {p : Nat} {z0 z1 z2 z3 z4 a b c d e : Value} (h : w.heap[p]? = some (.cells #[z0, z1, z2, z3, z4] 31 (0, 0))) {base : Nat} {v : Value} {l : List Rn} (hr : RR w base v l) : RR (set5 w p a b c d e) base v l := by
  have h1 := heap_setCell_same w p 0 _ _ a h
  have h2 := heap_setCell_same _ p 1 _ _ b h1
  have h3 := heap_setCell_same _ p 2 _ _ c h2
  have h4 := heap_setCell_same _ p 3 _ _ d h3
  exact Kd.R_set (Kd.R_set (Kd.R_set (Kd.R_set (Kd.R_set hr h (by decide) 0 a) h1 (by decide) 1 b) h2 (by decide) 2 c) h3 (by decide) 3 d) h4 (by decide) 4 e
theorem set5_below {w0 w : World} {p : Nat} {a b c d e : Value} (hb : Below w0.heap.size w0 w) (hp : w0.heap.size ≤ p) : Below w0.heap.size w0 (set5 w p a b c d e) := below_set (below_set (below_set (below_set (below_set hb hp) hp) hp) hp) hp
theorem X1.old {w wr W1 w2 : World} {T N8 : Nat} {s0 : ByteArray} {v0 : Value} {s : ByteArray} {l : List Rn} {A : Option Addr} {c : Nat} {D : List De} {vd : Value} {e : Ed} {Ao : Option Addr} {co : Nat} {Am : Option Addr} {cm p : Nat} {z0 z1 z2 z3 z4 : Value} (h : WL w wr T N8 s0 v0 s l A c D vd) (h1 : Below wr.heap.size wr W1) (hp : wr.heap.size ≤ p) (hx : W1.heap[p]? = some (.cells #[z0, z1, z2, z3, z4] 31 (0, 0))) (ho : RR w2 W1.heap.size (sv Ao (sli l e.a e.b) co) (sli l e.a e.b)) (hm : RR w2 W1.heap.size (sv Am e.m cm) e.m) (hb : Below W1.heap.size W1 w2) : X1 w (set5 w2 p (.int .i64 (e.a : Int)) (.string (s.extract e.a e.b)) (sv Ao (sli l e.a e.b) co) (.string e.x) (sv Am e.m cm)) T N8 s0 v0 s l A c D vd e p Ao co Am cm := by
  have hx2 := (hb.block p (Array.getElem?_eq_some_iff.1 hx).1).trans hx
  have hle := Nat.le_trans h.b.size h1.size
  exact ⟨h.below (set5_below (below_step h1 hb) hp), ⟨set5_heap hx2⟩, Rd.mk' (set5_R hx2 ho) hle, Rd.mk' (set5_R hx2 hm) hle⟩

end Go.Proofs.Ytgaggoglbkcomaa.Ext
