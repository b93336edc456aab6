/- Many stores: what is done to one is not seen in the others. -/
import Derived.Test.YtgaggoglbkcomaaExt05JL
import Derived.Test.YtgaggoglbkcomaaExt05EI
import Derived.Test.YtgaggoglbkcomaaExt05AD
import Derived.Test.YtgaggoglbkcomaaExtSC
import Derived.Test.YtgaggoglbkcomaaXRRx5
import Derived.Test.YtgaggoglbkcomaaXRRx2
import Derived.Test.YtgaggoglbkcomaaXRRx3
import Derived.Test.YtgaggoglbkcomaaXRRx0
import Derived.Test.YtgaggoglbkcomaaXPCx0
import Derived.Test.YtgaggoglbkcomaaWMore
import Derived.WalkKit
import Derived.WalkMore
import Derived.Below
import Derived.KernelRfl
import Derived.LoopTactic
import Derived.Deep.RegionWith
import Derived.Deep.RegionHeld3
import Derived.IntWalk
import Derived.Deep.DeepCutAuto
import Derived.Deep.CutBlock
import Derived.BigQuiet
import Derived.Laws.RangeString
import Derived.Laws.RangeAny
import Derived.Laws.Rows
import Derived.Laws.Runes
import Derived.Lib.OthersKept
import Derived.OpenShut
set_option linter.unusedVariables false
set_option linter.unusedSimpArgs false
namespace Go.Proofs.Ytgaggoglbkcomaa.Ext
open Go.RowKit Go.Lib Go.Proofs.YtgaggoglbkcomaaW.PrintWords Go.Proofs.YtgaggoglbkcomaaW.PrintMore Go.Proofs.Ytgaggoglbkcomaa.XRR

theorem ST5.typ {w W : World} {P mo q : Nat} {va : Value} {s : ByteArray} {rl : List Rn} (h : ST5 w W P va mo s rl q) : (∃ c, W.heap[P]? = some (.cells c 71 (0, 0))) ∧ ∀ k, va.ownBlock = some k → (∃ c, W.heap[k]? = some (.cells c 5 (0, 0))) := by
  obtain ⟨⟨vs, ad, xs, h1, -⟩, -⟩ := h
  exact ⟨⟨_, h1.x⟩, own_typed h1.a⟩
/-- Another store beside one that a Put turned. -/
theorem ST5.beside {w W W' : World} {P P2 mo q q2 : Nat} {va va2 : Value} {s s2 : ByteArray} {rl rl2 : List Rn} (h : ST5 w W P va mo s rl q) (h2 : ST5 w W P2 va2 mo s2 rl2 q2) (hb : Below w.heap.size W W') (hk : KP5 P va W W') (hP : P2 ≠ P) (hv : ∀ k, va2.ownBlock = some k → va.ownBlock ≠ some k) : ST5 w W' P2 va2 mo s2 rl2 q2 := by
  obtain ⟨⟨c, tP⟩, tv⟩ := h.typ
  obtain ⟨⟨c2, tP2⟩, tv2⟩ := h2.typ
  obtain ⟨⟨vs, ad, xs, k1, k2, k3⟩, hm⟩ := h2
  refine ⟨⟨vs, ad, xs, k1.kp (S := fun k => k = P ∨ va.ownBlock = some k) hb hk ?_ ?_ ?_, k2, k3⟩, hm⟩
  · rintro (e | e)
    · exact hP e
    · obtain ⟨c', hc'⟩ := tv _ e
      rw [tP2] at hc'
      cases hc'
  · rintro g e (e' | e')
    · obtain ⟨c', hc'⟩ := tv2 g e
      rw [e', tP] at hc'
      cases hc'
    · exact hv g e e'
  · rintro g (e | e) cells q' hc
    · rw [e, tP] at hc
      cases hc
      exact ⟨by decide, by decide⟩
    · obtain ⟨c', hc'⟩ := tv _ e
      rw [hc'] at hc
      cases hc
      exact ⟨by decide, by decide⟩
/-- A row of another type grew. -/
theorem ST5.grown {w W W' : World} {P mo q : Nat} {va v : Value} {s : ByteArray} {rl : List Rn} {t : TypeId} (h : ST5 w W P va mo s rl q) (hb : Below w.heap.size W W') (hg : W.grownBy W' v.ownBlock) (ht : ∀ k, v.ownBlock = some k → ∃ c, W.heap[k]? = some (.cells c t (0, 0))) (h1 : t ≠ 71) (h2 : t ≠ 5) (h3 : t ≠ 83) (h4 : t ≠ 29) : ST5 w W' P va mo s rl q := by
  obtain ⟨⟨c, tP⟩, tv⟩ := h.typ
  obtain ⟨⟨vs, ad, xs, k1, k2, k3⟩, hm⟩ := h
  refine ⟨⟨vs, ad, xs, k1.kp (S := fun k => v.ownBlock = some k) hb (Kp.grown hg) ?_ ?_ ?_, k2, k3⟩, hm⟩
  · intro e
    obtain ⟨c', hc'⟩ := ht _ e
    rw [tP] at hc'
    injection hc' with hc'
    injection hc' with _ hc'
    exact h1 hc'.symm
  · intro g e e'
    obtain ⟨c', hc'⟩ := ht _ e'
    obtain ⟨c2, hc2⟩ := tv g e
    rw [hc2] at hc'
    injection hc' with hc'
    injection hc' with _ hc'
    exact h2 hc'.symm
  · intro g e cells q' hc
    obtain ⟨c', hc'⟩ := ht _ e
    rw [hc'] at hc
    injection hc with hc
    injection hc with _ hc
    subst hc
    exact ⟨h3, h4⟩
/-- A store, and the text that it had. -/
structure Ol where
  P : Nat
  va : Value
  s : ByteArray
  rl : List Rn
  q : Nat
structure Tl where
  s : ByteArray
  rl : List Rn
  A : Option Addr
  c : Nat
def olR (d : Ol) : List Value := [.pointer (some ⟨d.P, 0, none⟩)]
def tlR (d : Tl) : List Value := [.string d.s, sv d.A d.rl d.c]
abbrev OR (w : World) (base : Nat) (v : Value) (D : List Ol) : Prop := Kd.R (Kd.raw 1) 50 w base (fun _ => True) v (D.map olR)
abbrev TR (w : World) (base : Nat) (v : Value) (T : List Tl) : Prop := Kd.R (Kd.raw 2) 24 w base (fun _ => True) v (T.map tlR)
def SepO (d e : Ol) : Prop := d.P ≠ e.P ∧ ∀ k, d.va.ownBlock = some k → e.va.ownBlock ≠ some k
/-- All stores and all texts. -/
structure CL (w wr : World) (D : List Ol) (T : List Tl) (v4 v5 : Value) : Prop where
  b : Below w.heap.size w wr
  st : ∀ d, d ∈ D → ST5 w wr d.P d.va 4096 d.s d.rl d.q
  q : ∀ d, d ∈ D → d.q ≤ 900
  tx : ∀ t, t ∈ T → RR wr w.heap.size (sv t.A t.rl t.c) t.rl
  v5 : TR wr w.heap.size v5 T
  sep : D.Pairwise SepO
theorem SepO.symm {d e : Ol} (h : SepO d e) : SepO e d := ⟨fun x => h.1 x.symm, fun k hk hd => h.2 k hd hk⟩
theorem kd_ty {d : Kd (List Value)} {t : TypeId} (hd : d.E = []) {w : World} {base : Nat} {v : Value} {xs : List (List Value)} (hv : d.R t w base (fun _ => True) v xs) (k : Nat) (hk : v.ownBlock = some k) : ∃ cells, w.heap[k]? = some (.cells cells t (0, 0)) := by
  obtain ⟨-, -, -, q, hq, cells, hc⟩ := (Kd.R_bound hv).1 k hk
  rcases List.mem_cons.1 hq with e | e
  · subst e; exact ⟨cells, hc⟩
  · rw [hd] at e; exact (List.not_mem_nil e).elim
theorem TR.kt {w w' : World} {base : Nat} {v : Value} {T : List Tl} (h : TR w base v T) (k : Kt w w') : TR w' base v T :=
  R_keep h k.kp (fun g hg q hq cells hc => by
    obtain ⟨c, e⟩ := hg
    rcases List.mem_cons.1 hq with eq | eq
    · subst eq
      rcases e with e | e <;> (rw [hc] at e; cases e)
    · exact (List.not_mem_nil eq).elim)
theorem OR.kt {w w' : World} {base : Nat} {v : Value} {T : List Ol} (h : OR w base v T) (k : Kt w w') : OR w' base v T :=
  R_keep h k.kp (fun g hg q hq cells hc => by
    obtain ⟨c, e⟩ := hg
    rcases List.mem_cons.1 hq with eq | eq
    · subst eq
      rcases e with e | e <;> (rw [hc] at e; cases e)
    · exact (List.not_mem_nil eq).elim)
theorem CL.below {w wr w' : World} {D : List Ol} {T : List Tl} {v4 v5 : Value} (h : CL w wr D T v4 v5) (hb : Below wr.heap.size wr w') : CL w w' D T v4 v5 :=
  ⟨below_step h.b hb, fun d hd => (h.st d hd).below hb, h.q, fun t ht => Kd.R_below (h.tx t ht) hb, Kd.R_below h.v5 hb, h.sep⟩
theorem below_mid {B : Nat} {w a b : World} (h1 : Below B w a) (h2 : Below B w b) (hs : a.heap.size ≤ b.heap.size) (hb : ∀ i, i < B → b.heap[i]? = a.heap[i]?) : Below B a b := ⟨h2.os.trans h1.os.symm, h2.tape.trans h1.tape.symm, h2.output.trans h1.output.symm, hs, hb⟩
/-- Behind a Put on one of them. -/
theorem CL.put {w wr w' : World} {D1 D2 : List Ol} {d : Ol} {T : List Tl} {v4 v5 va' : Value} {s' : ByteArray} {rl' : List Rn} {q' : Nat} (h : CL w wr (D1 ++ d :: D2) T v4 v5) (hs : ST5 w w' d.P va' 4096 s' rl' q') (hq : q' ≤ 900) (hk : KP5 d.P d.va wr w') (ha : AtB va' d.va wr.heap.size) : CL w w' (D1 ++ ⟨d.P, va', s', rl', q'⟩ :: D2) T v4 v5 := by
  have hd : d ∈ D1 ++ d :: D2 := List.mem_append.2 (Or.inr (List.mem_cons_self ..))
  have hkt := KP5.kt hk (h.st d hd)
  have hbb : Below w.heap.size wr w' := by
    refine below_mid h.b hs.b hkt.size (fun i hi => hk.block i (Nat.lt_of_lt_of_le hi h.b.size) ?_)
    rintro (e | e)
    · have := (h.st d hd).le
      omega
    · obtain ⟨⟨vs, ad, xs, h1, -⟩, -⟩ := h.st d hd
      have := (h1.a.lt i e).1
      omega
  obtain ⟨p1, p2, p3⟩ := List.pairwise_append.1 h.sep
  obtain ⟨p4, p5⟩ := List.pairwise_cons.1 p2
  have sepd : ∀ e, e ∈ D1 ∨ e ∈ D2 → SepO d e := by
    rintro e (he | he)
    · exact (p3 e he d (List.mem_cons_self ..)).symm
    · exact p4 e he
  have blk : ∀ e, e ∈ D1 ++ d :: D2 → ∀ k, e.va.ownBlock = some k → k < wr.heap.size := fun e he k hk => by
    obtain ⟨c, hc⟩ := (h.st e he).typ.2 k hk
    exact (Array.getElem?_eq_some_iff.1 hc).1
  have sepn : ∀ e, e ∈ D1 ∨ e ∈ D2 → SepO ⟨d.P, va', s', rl', q'⟩ e := by
    intro e he
    have hm : e ∈ D1 ++ d :: D2 := by
      rcases he with he | he
      · exact List.mem_append.2 (Or.inl he)
      · exact List.mem_append.2 (Or.inr (List.mem_cons_of_mem _ he))
    refine ⟨(sepd e he).1, fun k hk hk2 => ?_⟩
    rcases ha with e1 | ⟨b, e1, hb⟩
    · exact (sepd e he).2 k (e1 ▸ hk) hk2
    · have h1 : va'.ownBlock = some k := hk
      rw [e1] at h1
      injection h1 with h1
      subst h1
      have := blk e hm _ hk2
      omega
  refine ⟨h.b.trans hbb, fun e he => ?_, fun e he => ?_, fun t ht => RR.kt (h.tx t ht) hkt, TR.kt h.v5 hkt, ?_⟩
  · rcases List.mem_append.1 he with he | he
    · exact ST5.beside (h.st d hd) (h.st e (List.mem_append.2 (Or.inl he))) hbb hk (fun x => (sepd e (Or.inl he)).1 x.symm) (fun k hk1 hk2 => (sepd e (Or.inl he)).2 k hk2 hk1)
    · rcases List.mem_cons.1 he with rfl | he
      · exact hs
      · exact ST5.beside (h.st d hd) (h.st e (List.mem_append.2 (Or.inr (List.mem_cons_of_mem _ he)))) hbb hk (fun x => (sepd e (Or.inr he)).1 x.symm) (fun k hk1 hk2 => (sepd e (Or.inr he)).2 k hk2 hk1)
  · rcases List.mem_append.1 he with he | he
    · exact h.q e (List.mem_append.2 (Or.inl he))
    · rcases List.mem_cons.1 he with rfl | he
      · exact hq
      · exact h.q e (List.mem_append.2 (Or.inr (List.mem_cons_of_mem _ he)))
  · exact List.pairwise_append.2 ⟨p1, List.pairwise_cons.2 ⟨fun e he => sepn e (Or.inr he), p5⟩, fun e he f hf => by
      rcases List.mem_cons.1 hf with rfl | hf
      · exact (sepn e (Or.inl he)).symm
      · exact p3 e he f (List.mem_cons_of_mem _ hf)⟩
/-- A store that is new since. -/
theorem CL.copy {w wr w' : World} {D : List Ol} {T : List Tl} {v4 v5 va' : Value} {C : Nat} {s : ByteArray} {rl : List Rn} {q : Nat} (h : CL w wr D T v4 v5) (hb : Below wr.heap.size wr w') (hs : ST5 w w' C va' 4096 s rl q) (hq : q ≤ 900) (hC : wr.heap.size ≤ C) (hv : ∀ k, va'.ownBlock = some k → wr.heap.size ≤ k) : CL w w' (D ++ [⟨C, va', s, rl, q⟩]) T v4 v5 := by
  have h' := h.below hb
  refine ⟨h'.b, fun d hd => ?_, fun d hd => ?_, h'.tx, h'.v5, ?_⟩
  · rcases List.mem_append.1 hd with hd | hd
    · exact h'.st d hd
    · rw [List.mem_singleton.1 hd]; exact hs
  · rcases List.mem_append.1 hd with hd | hd
    · exact h.q d hd
    · rw [List.mem_singleton.1 hd]; exact hq
  · refine List.pairwise_append.2 ⟨h.sep, List.pairwise_singleton _ _, fun e he f hf => ?_⟩
    rw [List.mem_singleton.1 hf]
    refine ⟨fun x => ?_, fun k hk hk2 => ?_⟩
    · have := (h.st e he).lt
      have h2 : e.P = C := x
      omega
    · obtain ⟨c, hc⟩ := (h.st e he).typ.2 k hk
      have h1 := (Array.getElem?_eq_some_iff.1 hc).1
      have h2 := hv k hk2
      omega
/-- A row of pointers, or of texts, grew. -/
theorem CL.rows {w wr w' : World} {D : List Ol} {T : List Tl} {v4 v5 v : Value} {t : TypeId} (h : CL w wr D T v4 v5) (hb : Below w.heap.size wr w') (hg : wr.grownBy w' v.ownBlock) (ht : ∀ k, v.ownBlock = some k → ∃ c, wr.heap[k]? = some (.cells c t (0, 0))) (h1 : t ≠ 71) (h2 : t ≠ 5) (h3 : t ≠ 83) (h4 : t ≠ 29) : (∀ d, d ∈ D → ST5 w w' d.P d.va 4096 d.s d.rl d.q) ∧ (∀ t, t ∈ T → RR w' w.heap.size (sv t.A t.rl t.c) t.rl) :=
  ⟨fun d hd => (h.st d hd).grown hb hg ht h1 h2 h3 h4, fun t' ht' => R_keep (h.tx t' ht') (Kp.grown hg) (fun k hk q hq cells hc => by
    obtain ⟨c', hc'⟩ := ht k hk
    rw [hc'] at hc
    injection hc with hc
    injection hc with _ hc
    rcases List.mem_cons.1 hq with e | e
    · subst e; exact h4 hc
    · exact (List.not_mem_nil e).elim)⟩
/-- The old stores' row and texts, and the store at hand. -/
structure CM (w wr : World) (D : List Ol) (d : Ol) (T : List Tl) (v4 v5 : Value) : Prop where
  c : CL w wr (D ++ [d]) T v4 v5
  v4 : OR wr w.heap.size v4 D
  e : D.map (fun x => (x.s, x.rl)) = T.map (fun x => (x.s, x.rl))
theorem CM.below {w wr w' : World} {D : List Ol} {d : Ol} {T : List Tl} {v4 v5 : Value} (h : CM w wr D d T v4 v5) (hb : Below wr.heap.size wr w') : CM w w' D d T v4 v5 := ⟨h.c.below hb, Kd.R_below h.v4 hb, h.e⟩
theorem CM.cur {w wr : World} {D : List Ol} {d : Ol} {T : List Tl} {v4 v5 : Value} (h : CM w wr D d T v4 v5) : ST5 w wr d.P d.va 4096 d.s d.rl d.q ∧ d.q ≤ 900 := ⟨h.c.st d (List.mem_append.2 (Or.inr (List.mem_singleton.2 rfl))), h.c.q d (List.mem_append.2 (Or.inr (List.mem_singleton.2 rfl)))⟩
theorem CM.put {w wr w' : World} {D : List Ol} {d : Ol} {T : List Tl} {v4 v5 va' : Value} {s' : ByteArray} {rl' : List Rn} {q' : Nat} (h : CM w wr D d T v4 v5) (hs : ST5 w w' d.P va' 4096 s' rl' q') (hq : q' ≤ 900) (hk : KP5 d.P d.va wr w') (ha : AtB va' d.va wr.heap.size) : CM w w' D ⟨d.P, va', s', rl', q'⟩ T v4 v5 :=
  ⟨CL.put h.c hs hq hk ha, OR.kt h.v4 (KP5.kt hk h.cur.1), h.e⟩
theorem below_mid2 {B : Nat} {w a b : World} (h1 : Below B w a) (h2 : Below B w b) (hs : a.heap.size ≤ b.heap.size) : Below B a b := below_mid h1 h2 hs (fun i hi => (h2.block i hi).trans (h1.block i hi).symm)
theorem kd_grown {α : Type} {d : Kd α} (hd : d.E = []) {w w' : World} {e base base2 : Nat} {v v2 : Value} {xs : List α} {ys : List (List Value)} {d2 : Kd (List Value)} {t : TypeId} (h : d.R e w base (fun _ => True) v xs) (hE : d2.E = []) (hv : d2.R t w base2 (fun _ => True) v2 ys) (hg : w.grownBy w' v2.ownBlock) (hne : t ≠ e) : d.R e w' base (fun _ => True) v xs :=
  R_keep h (Kp.grown hg) (fun k hk q hq cells hc => by
    obtain ⟨c', hc'⟩ := kd_ty hE hv k hk
    rw [hc'] at hc
    injection hc with hc
    injection hc with _ hc
    rcases List.mem_cons.1 hq with eq | eq
    · subst eq; exact hne hc
    · rw [hd] at eq; exact (List.not_mem_nil eq).elim)
theorem CL.app4 {w wr w2 : World} {DD D : List Ol} {T : List Tl} {v4 v4' v5 : Value} (h : CL w wr DD T v4 v5) (hv : OR wr w.heap.size v4 D) (hb2 : Below w.heap.size w w2) (hg : wr.grownBy w2 v4.ownBlock) : CL w w2 DD T v4' v5 := by
  have hb := below_mid2 h.b hb2 hg.size
  obtain ⟨r1, r2⟩ := h.rows hb hg (fun k hk => kd_ty (d := Kd.raw 1) rfl hv k hk) (by decide) (by decide) (by decide) (by decide)
  exact ⟨hb2, r1, h.q, r2, kd_grown rfl h.v5 rfl hv hg (by decide), h.sep⟩
theorem CL.app5 {w wr w2 : World} {DD : List Ol} {T : List Tl} {t : Tl} {v4 v5 v5' : Value} (h : CL w wr DD T v4 v5) (hb2 : Below w.heap.size w w2) (hg : wr.grownBy w2 v5.ownBlock) (h5 : TR w2 w.heap.size v5' (T ++ [t])) (hr : RR wr w.heap.size (sv t.A t.rl t.c) t.rl) : CL w w2 DD (T ++ [t]) v4 v5' := by
  have hb := below_mid2 h.b hb2 hg.size
  obtain ⟨r1, r2⟩ := h.rows hb hg (fun k hk => kd_ty (d := Kd.raw 2) rfl h.v5 k hk) (by decide) (by decide) (by decide) (by decide)
  refine ⟨hb2, r1, h.q, fun x hx => ?_, h5, h.sep⟩
  rcases List.mem_append.1 hx with hx | hx
  · exact r2 x hx
  · rw [List.mem_singleton.1 hx]
    exact kd_grown rfl hr rfl h.v5 hg (by decide)
theorem mem_last {α : Type} (D : List α) (d : α) : d ∈ D ++ [d] := List.mem_append.2 (Or.inr (List.mem_singleton.2 rfl))
theorem AX.grown {w w' : World} {p : Nat} {f t : Int} {x : ByteArray} {v v2 : Value} {k1 k2 : Bool} {base : Nat} {ys : List (List Value)} {d2 : Kd (List Value)} {t2 : TypeId} (h : AX w p f t x v k1 k2) (hE : d2.E = []) (hv : d2.R t2 w base (fun _ => True) v2 ys) (hg : w.grownBy w' v2.ownBlock) (hne : t2 ≠ 48) : AX w' p f t x v k1 k2 :=
  ⟨(hg.block p h.lt (fun e => by
    obtain ⟨c', hc'⟩ := kd_ty hE hv p e.symm
    rw [h.x] at hc'
    injection hc' with hc'
    injection hc' with _ hc'
    exact hne hc'.symm)).trans h.x⟩
theorem TR.elem {w : World} {base : Nat} {v : Value} {xs : List Tl} (h : TR w base v xs) (q : Nat) (p : Tl) (hp : xs[q]? = some p) : ∃ ad c, v = .slice (some ad) xs.length c ∧ w.cell? (ad.add (q * 2)) = some (.string p.s) ∧ w.cell? ⟨(ad.add (q * 2)).block, (ad.add (q * 2)).off + 1, none⟩ = some (sv p.A p.rl p.c) := by
  have hpl : q < xs.length := (List.getElem?_eq_some_iff.1 hp).1
  obtain ⟨Av, cv, e, hc, hC⟩ := Kd.R_reads h
  subst e
  obtain ⟨ad, cs, eA, hl, hK, hcell⟩ := Kd.C_get hC [] (q : Int) (by omega) (by rw [List.length_map]; omega)
  rw [Int.toNat_natCast] at hK hcell
  have ep : (xs.map tlR).getD q [] = tlR p := by
    rw [List.getD_eq_getElem?_getD, List.getElem?_map, hp]
    rfl
  rw [ep] at hK
  have ecs : cs = tlR p := hK.1
  subst ecs
  refine ⟨ad, cv, by rw [eA, List.length_map], hcell 0 _ rfl, ?_⟩
  rw [← add_field _ _ 1 (by omega)]
  exact hcell 1 _ rfl
theorem TR.elem' {w : World} {base n c : Nat} {ad : Addr} {xs : List Tl} (h : TR w base (.slice (some ad) n c) xs) (q : Nat) (p : Tl) (hp : xs[q]? = some p) : w.cell? (ad.add (q * 2)) = some (.string p.s) ∧ w.cell? ⟨(ad.add (q * 2)).block, (ad.add (q * 2)).off + 1, none⟩ = some (sv p.A p.rl p.c) := by
  obtain ⟨ad', c', e, r⟩ := h.elem q p hp
  cases e
  exact r
theorem OR.elem {w : World} {base : Nat} {v : Value} {xs : List Ol} (h : OR w base v xs) (q : Nat) (p : Ol) (hp : xs[q]? = some p) : ∃ ad c, v = .slice (some ad) xs.length c ∧ w.cell? (ad.add q) = some (.pointer (some ⟨p.P, 0, none⟩)) := by
  have hpl : q < xs.length := (List.getElem?_eq_some_iff.1 hp).1
  obtain ⟨Av, cv, e, hc, hC⟩ := Kd.R_reads h
  subst e
  obtain ⟨ad, cs, eA, hl, hK, hcell⟩ := Kd.C_get hC [] (q : Int) (by omega) (by rw [List.length_map]; omega)
  rw [Int.toNat_natCast] at hK hcell
  have ep : (xs.map olR).getD q [] = olR p := by
    rw [List.getD_eq_getElem?_getD, List.getElem?_map, hp]
    rfl
  rw [ep] at hK
  have ecs : cs = olR p := hK.1
  subst ecs
  have hc0 : w.cell? (ad.add (q * 1)) = some (.pointer (some ⟨p.P, 0, none⟩)) := hcell 0 _ rfl
  rw [Nat.mul_one] at hc0
  exact ⟨ad, cv, by rw [eA, List.length_map], hc0⟩
theorem OR.elem' {w : World} {base n c : Nat} {ad : Addr} {xs : List Ol} (h : OR w base (.slice (some ad) n c) xs) (q : Nat) (p : Ol) (hp : xs[q]? = some p) : w.cell? (ad.add q) = some (.pointer (some ⟨p.P, 0, none⟩)) := by
  obtain ⟨ad', c', e, r⟩ := h.elem q p hp
  cases e
  exact r
theorem last_eq {F : List Ol} {e : Ol} {T : List Tl} (h : (F ++ [e]).map (fun x => (x.s, x.rl)) = (T.take (F.length + 1)).map (fun x => (x.s, x.rl))) (hl : F.length + 1 ≤ T.length) : ∃ t, T[F.length]? = some t ∧ t.s = e.s ∧ t.rl = e.rl ∧ F.map (fun x => (x.s, x.rl)) = (T.take F.length).map (fun x => (x.s, x.rl)) := by
  have hlt : F.length < T.length := hl
  rw [List.take_succ_eq_append_getElem hlt, List.map_append, List.map_append] at h
  obtain ⟨h1, h2⟩ := List.append_inj h (by rw [List.length_map, List.length_map, List.length_take]; omega)
  simp only [List.map_cons, List.map_nil, List.cons.injEq, Prod.mk.injEq, and_true] at h2
  exact ⟨T[F.length], List.getElem?_eq_getElem hlt, h2.1.symm, h2.2.symm, h1⟩
/-- In the second loop: E1 still to be looked at, E2 emptied. -/
structure CE (w wr : World) (E1 E2 : List Ol) (d : Ol) (T : List Tl) (v4 v5 : Value) : Prop where
  c : CL w wr (E1 ++ (E2 ++ [d])) T v4 v5
  v4 : OR wr w.heap.size v4 (E1 ++ E2)
  e : E1.map (fun x => (x.s, x.rl)) = (T.take E1.length).map (fun x => (x.s, x.rl))
  q : ∀ x, x ∈ E1 → x.q ≤ 50
  z : ∀ x, x ∈ E2 → x.s.size = 0
theorem CE.below {w wr w' : World} {E1 E2 : List Ol} {d : Ol} {T : List Tl} {v4 v5 : Value} (h : CE w wr E1 E2 d T v4 v5) (hb : Below wr.heap.size wr w') : CE w w' E1 E2 d T v4 v5 := ⟨h.c.below hb, Kd.R_below h.v4 hb, h.e, h.q, h.z⟩
theorem CE.start {w wr : World} {D : List Ol} {d : Ol} {T : List Tl} {v4 v5 : Value} (h : CM w wr D d T v4 v5) (hl : T.length = D.length) (hq : ∀ e, e ∈ D → e.q ≤ 50) : CE w wr D [] d T v4 v5 :=
  ⟨h.c, by rw [List.append_nil]; exact h.v4, by rw [← hl, List.take_length]; exact h.e, hq, fun x hx => (List.not_mem_nil hx).elim⟩
theorem CE.st {w wr : World} {F E2 : List Ol} {e d : Ol} {T : List Tl} {v4 v5 : Value} (h : CE w wr (F ++ [e]) E2 d T v4 v5) : ST5 w wr e.P e.va 4096 e.s e.rl e.q ∧ e.q ≤ 50 := ⟨h.c.st e (List.mem_append.2 (Or.inl (mem_last F e))), h.q e (mem_last F e)⟩
theorem CE.empty {w wr w' : World} {F E2 : List Ol} {e d : Ol} {T : List Tl} {v4 v5 va' : Value} {s' : ByteArray} {rl' : List Rn} (h : CE w wr (F ++ [e]) E2 d T v4 v5) (hl : F.length + 1 ≤ T.length) (hs : ST5 w w' e.P va' 4096 s' rl' (e.q + 1)) (hz : s'.size = 0) (hk : KP5 e.P e.va wr w') (ha : AtB va' e.va wr.heap.size) : CE w w' F (⟨e.P, va', s', rl', e.q + 1⟩ :: E2) d T v4 v5 := by
  have h1 : CL w wr (F ++ e :: (E2 ++ [d])) T v4 v5 := by
    have := h.c
    rw [List.append_assoc] at this
    exact this
  have hq := h.st.2
  have h2 := h1.put hs (by omega) hk ha
  obtain ⟨t, -, -, -, h5⟩ := last_eq (by have := h.e; rw [List.length_append, List.length_singleton] at this; exact this) hl
  refine ⟨h2, ?_, h5, fun x hx => h.q x (List.mem_append.2 (Or.inl hx)), fun x hx => ?_⟩
  · have h4 := OR.kt h.v4 (KP5.kt hk h.st.1)
    have e1 : ((F ++ [e]) ++ E2).map olR = (F ++ ⟨e.P, va', s', rl', e.q + 1⟩ :: E2).map olR := by simp [olR]
    show Kd.R _ _ _ _ _ _ _
    rw [← e1]
    exact h4
  · rcases List.mem_cons.1 hx with rfl | hx
    · exact hz
    · exact h.z x hx
theorem emp_put {s : ByteArray} {rl : List Rn} (hg : goodT s rl = true) : (putM s rl 4096 0 (s.size : Int) ⟨#[]⟩ []).1.size = 0 := by
  have hs := goodT_sz hg
  have h0 : (0 : Int) = ((0 : Nat) : Int) := rfl
  unfold putM
  rw [if_pos ⟨by decide, by decide, by omega, by omega⟩, h0, Int.toNat_natCast, Int.toNat_natCast, if_pos (by show s.size - (s.size - 0) + 0 ≤ 4096; omega)]
  show (sS s 0 s.size ⟨#[]⟩).size = 0
  rw [sS_size s ⟨#[]⟩ 0 s.size (Nat.zero_le _) (Nat.le_refl _)]
  show s.size - (s.size - 0) + 0 = 0
  omega
theorem pcell {w w' : World} {F E2 : List Ol} {E' e d : Ol} {T : List Tl} {a4 : Addr} {n c : Nat} {v5 : Value} (h : CE w w' F (E' :: E2) d T (.slice (some a4) n c) v5) (he : E'.P = e.P) : w'.cell? (a4.add F.length) = some (.pointer (some ⟨e.P, 0, none⟩)) := by
  rw [← he]
  exact OR.elem' h.v4 F.length E' (by rw [List.getElem?_append_right (Nat.le_refl _), Nat.sub_self]; rfl)
theorem put_e {w u : World} {F E2 : List Ol} {e d : Ol} {T : List Tl} {v4 v5 : Value} (h : CE w u (F ++ [e]) E2 d T v4 v5) (hl : F.length + 1 ≤ T.length) :
    Calls Try.prog 19 #[.pointer (some ⟨e.P, 0, none⟩), .int .i64 0, .int .i64 (e.s.size : Nat), .agg #[.string ⟨#[]⟩, .slice none 0 0]] u fun e' w' => e' = .returned (.int .i64 (putM e.s e.rl 4096 0 (e.s.size : Int) ⟨#[]⟩ []).2.2) ∧ ∃ E' : Ol, E'.P = e.P ∧ CE w w' F (E' :: E2) d T v4 v5 := by
  have hq := h.st.2
  refine (put_s h.st.1 (by omega) (by decide) ⟨#[]⟩ [] none 0 (Kd.R_reads' (Kd.R_nil k29 29 u 0 (fun _ => True))).2.2 (Nat.le_refl _) (Nat.zero_le _) 0 (e.s.size : Int)).mono ?_
  rintro e' w' ⟨rfl, va', h1, h2, h3⟩
  exact ⟨rfl, ⟨e.P, va', _, _, e.q + 1⟩, rfl, h.empty hl h1 (emp_put h.st.1.good) h2 h3⟩
theorem CM.start {w w2 : World} {P : Nat} (h : ST5 w w2 P (.slice none 0 0) 4096 ⟨#[]⟩ [] 0) : CM w w2 [] ⟨P, .slice none 0 0, ⟨#[]⟩, [], 0⟩ [] (.slice none 0 0) (.slice none 0 0) :=
  ⟨⟨h.b, fun d hd => by rw [List.mem_singleton.1 hd]; exact h, fun d hd => by rw [List.mem_singleton.1 hd]; exact Nat.zero_le _, fun t ht => (List.not_mem_nil ht).elim, Kd.R_nil _ _ _ _ _, List.pairwise_singleton _ _⟩, Kd.R_nil _ _ _ _ _, rfl⟩
theorem fit_len {x : ByteArray} {m : List Rn} (h : fitB x m = true) : m.length ≤ 5000 := (of_decide_eq_true h : _ ∧ _).2
theorem CM.up {w wr : World} {D : List Ol} {d : Ol} {T : List Tl} {v4 v5 : Value} (h : CM w wr D d T v4 v5) (hq : d.q + 1 ≤ 900) : CM w wr D ⟨d.P, d.va, d.s, d.rl, d.q + 1⟩ T v4 v5 :=
  h.put h.cur.1.up hq ((Kp.refl (fun _ => False) wr).mono (fun _ h => h.elim)) (AtB.refl _ _)
theorem put_m {w u : World} {D : List Ol} {d : Ol} {T : List Tl} {v4 v5 : Value} (h : CM w u D d T v4 v5) (hq : d.q + 1 ≤ 900) (x : ByteArray) (m : List Rn) (A2 : Option Addr) (c2 : Nat) (hr : CC u A2 m) (hc : m.length ≤ c2) (hm5 : m.length ≤ 8000000000000000000) (f t : Int) :
    Calls Try.prog 19 #[.pointer (some ⟨d.P, 0, none⟩), .int .i64 f, .int .i64 t, vT x (sv A2 m c2)] u fun e w' => e = .returned (.int .i64 (putM d.s d.rl 4096 f t x m).2.2) ∧ ∃ va', CM w w' D ⟨d.P, va', (putM d.s d.rl 4096 f t x m).1, (putM d.s d.rl 4096 f t x m).2.1, d.q + 1⟩ T v4 v5 := by
  refine (put_s h.cur.1 (by omega) (by decide) x m A2 c2 hr hc hm5 f t).mono ?_
  rintro e w' ⟨rfl, va', h1, h2, h3⟩
  exact ⟨rfl, va', h.put h1 hq h2 h3⟩
set_option maxRecDepth 100000 in
set_option maxHeartbeats 16000000 in
theorem Copies_w (A0 : Option Addr) (c0 : Nat) (l : List XPC.S48) (w : World) (hr : Kd.C XPC.k48 w A0 l.length l) (hc : l.length ≤ c0) (hm : ∀ y, y ∈ l → y.f2.f1.length ≤ maxLen) :
    Calls Try.prog 7 #[.slice A0 l.length c0] w fun e w' => e = .returned (.bool true) ∧ Below w.heap.size w w' := by
  have HAL := Aside0.mk (alive_w w)
  have HR := Aside0.mk hr
  have HML := Aside0.mk hm
  clear hr hm
  have HNE : Aside0 (∀ u : World, Below w.heap.size w u → Calls Try.prog 18 #[.int .i64 4096] u fun e w' => e = .returned (.pointer (some ⟨u.heap.size, 0, none⟩)) ∧ ST5 w w' u.heap.size (.slice none 0 0) 4096 ⟨#[]⟩ [] 0) := ⟨fun u hb => (new_s hb 4096 (by decide)).mono fun e w' h => ⟨h.1, h.2.1⟩⟩
  go_enter Try.func7, Try.ntmps7
  go_wp2_with (first | (go_at_call 17; (with_reducible refine HAL.out.mono ?_); rintro e w1 ⟨rfl, hb1⟩; have HB1 := Aside0.mk hb1; clear hb1) | (go_at_call 18; (with_reducible refine (HNE.out _ HB1.out).mono ?_); rintro e w2 ⟨rfl, hs2⟩; have HS2 := Aside0.mk hs2; clear hs2))
  have HM0 := Aside0.mk (CM.start HS2.out)
  clear HS2 HB1
  go_loopw [3, 4, 5, 6] (fun pp aa bb ii wr => ∃ (q : Nat) (D : List Ol) (d : Ol) (T : List Tl) (wr1 : World), wr1 = wr ∧ pp = .pointer (some ⟨d.P, 0, none⟩) ∧ ii = .int .i64 q ∧ q ≤ l.length ∧ q ≤ 50 ∧ d.q ≤ q ∧ D.length ≤ 8 ∧ Aside0 (T.length = D.length) ∧ Aside0 (∀ e, e ∈ D → e.q ≤ 50) ∧ Aside0 (CM w wr1 D d T aa bb)) (fun _ _ _ ii _ => l.length - (RowKit.intOf ii).toNat)
  case atStart => exact ⟨0, [], _, [], _, rfl, rfl, rfl, Nat.zero_le _, by decide, Nat.le_refl _, by decide, ⟨rfl⟩, ⟨fun e he => (List.not_mem_nil he).elim⟩, HM0⟩
  case round =>
    obtain ⟨q, D, d, T, wr1, rfl, rfl, rfl, hq, hq50, hdq, hD8, HTD, HDQ, HM⟩ := hrel
    by_cases hex : q < l.length ∧ q < 50
    · obtain ⟨hql, hq5⟩ := hex
      obtain ⟨ad, A1, c1, eA, y0, y1, y2, y3, y4, y5, hc1, hC1⟩ := XPC.at_T48 HR.out (q : Int) (by omega) (by omega)
      cases eA
      rw [Int.toNat_natCast] at y0 y1 y2 y3 y4 y5
      have hml := HML.out (XPC.rd_T48 l (q : Int)) (by
        unfold XPC.rd_T48
        rw [Int.toNat_natCast, List.getD_eq_getElem?_getD, List.getElem?_eq_getElem hql]
        exact List.getElem_mem _)
      generalize XPC.rd_T48 l (q : Int) = y at *
      obtain ⟨f, t, ⟨x, m⟩, k1, k2⟩ := y
      simp only at y0 y1 y2 y3 y4 y5 hc1 hC1 hml
      have HC := Aside0.mk hC1
      have HZ := Aside0.mk (fun (W : World) (hb : Below w.heap.size w W) => (⟨cell_old hb y0, cell_old hb y1, cell_old hb y2, cell_old hb y3, cell_old hb y4, cell_old hb y5⟩ : _ ∧ _ ∧ _ ∧ _ ∧ _ ∧ _))
      have HFI := Aside0.mk (fun (W : World) (hb : Below w.heap.size w W) => fits_c x m W A1 c1 (Kd.C_below hC1 hb) hc1)
      clear y0 y1 y2 y3 y4 y5
      obtain ⟨z0, z1, z2, z3, z4, z5⟩ := HZ.out wr1 HM.out.c.b
      go_upto_region 12 with (fail)
      have HA : Aside0 (AX (wr1.alloc (.cells #[.int .i64 f, .int .i64 t, .string x, sv A1 m c1, .bool k1, .bool k2] 48)) wr1.heap.size f t x (sv A1 m c1) k1 k2) := ⟨⟨heap_alloc_new _ _⟩⟩
      have HM := Aside0.mk (HM.out.below (below_alloc (Below.refl _ _) (.cells #[.int .i64 f, .int .i64 t, .string x, sv A1 m c1, .bool k1, .bool k2] 48)))
      clear z0 z1 z2 z3 z4 z5 HZ
      generalize wr1.heap.size = pb at *
      generalize World.alloc wr1 _ = wr2 at *
      obtain ⟨x0, x1, x2, x3, x4, x5⟩ := HA.out.cells; have xl := HA.out.lt
      obtain ⟨A4, c4, e4⟩ := Kd.R_slice HM.out.v4
      rw [List.length_map] at e4
      subst e4
      obtain ⟨A5, c5, e5⟩ := Kd.R_slice HM.out.c.v5
      rw [List.length_map] at e5
      subst e5
      cases hfi : fitB x m
      · rw [hfi] at HFI
        clear hfi
        go_wp2_with (first | (go_at_call 12; (with_reducible refine (HFI.out _ HM.out.c.b).mono ?_); rintro e w3 ⟨rfl, hb3⟩; have HM := Aside0.mk (HM.out.below hb3); have HA := Aside0.mk (HA.out.below hb3); clear hb3; clear x0 x1 x2 x3 x4 x5 xl; obtain ⟨x0, x1, x2, x3, x4, x5⟩ := HA.out.cells; have xl := HA.out.lt))
        exact ⟨⟨q + 1, D, d, T, _, rfl, rfl, by go_num, by omega, by omega, by omega, hD8, HTD, HDQ, HM⟩, by simp [RowKit.intOf]; omega⟩
      · rw [hfi] at HFI
        have hm5 := fit_len hfi
        have HPU := Aside0.mk (fun (W : World) {D : List Ol} {d : Ol} {T : List Tl} {v4 v5 : Value} (h : CM w W D d T v4 v5) (hq : d.q + 1 ≤ 900) => put_m h hq x m A1 c1 (Kd.C_below HC.out h.c.b) hc1 (by omega) f t)
        clear hfi hm5
        have hq9 : d.q + 1 ≤ 900 := by omega
        cases k2
        · go_wp2_with (first | (go_at_call 12; (with_reducible refine (HFI.out _ HM.out.c.b).mono ?_); rintro e w3 ⟨rfl, hb3⟩; have HM := Aside0.mk (HM.out.below hb3); have HA := Aside0.mk (HA.out.below hb3); clear hb3; clear x0 x1 x2 x3 x4 x5 xl; obtain ⟨x0, x1, x2, x3, x4, x5⟩ := HA.out.cells; have xl := HA.out.lt) | (go_at_call 19; (with_reducible refine (HPU.out _ HM.out hq9).mono ?_); rintro e w5 ⟨rfl, va', hm5⟩; have HM := Aside0.mk hm5; clear hm5 HA; clear x0 x1 x2 x3 x4 x5 xl))
          exact ⟨⟨q + 1, D, ⟨d.P, va', (putM d.s d.rl 4096 f t x m).1, (putM d.s d.rl 4096 f t x m).2.1, d.q + 1⟩, T, _, rfl, rfl, by go_num, by omega, by omega, by show d.q + 1 ≤ q + 1; omega, hD8, HTD, HDQ, HM⟩, by simp [RowKit.intOf]; omega⟩
        · by_cases h8 : D.length < 8
          · have h8' : (D.length : Int) < 8 := by omega
            have HTE := Aside0.mk (fun (W : World) {DD : List Ol} {T : List Tl} {v4 v5 : Value} (h : CL w W DD T v4 v5) (hd : d ∈ DD) => text_s (h.st d hd) (by omega))
            have HCO := Aside0.mk (fun (W : World) {DD : List Ol} {T : List Tl} {v4 v5 : Value} (h : CL w W DD T v4 v5) (hd : d ∈ DD) => copy_s (h.st d hd) (by omega))
            go_upto_region 17 with (first | (go_at_call 12; (with_reducible refine (HFI.out _ HM.out.c.b).mono ?_); rintro e w3 ⟨rfl, hb3⟩; have HM := Aside0.mk (HM.out.below hb3); have HA := Aside0.mk (HA.out.below hb3); clear hb3; clear x0 x1 x2 x3 x4 x5 xl; obtain ⟨x0, x1, x2, x3, x4, x5⟩ := HA.out.cells; have xl := HA.out.lt) | ((with_reducible refine gate_builtin (b := .append) (xs := #[.tmp 39, .tmp 41]) rfl ?_); at_builtin; refine Kd.R_append (Kd.raw 1) (w0 := w) w.heap.size rfl (.tmp 39) (.tmp 41) 64 50 (.pointer none) 8 rfl Try.underlying64 (by kernel_rfl) rfl (by decide) (by omega) (.slice A4 D.length c4) (D.map olR) (olR d) [.pointer (some ⟨d.P, 0, none⟩)] (fun _ => True) (fun _ => False) rfl ?aX ?aP (fun _ hk => hk.elim) ?aF ?aO ?aB ?aS ?aL ?_; (case aX => simp [Act.eval]); (case aP => exact ⟨rfl, rfl, fun u hu => by rcases List.mem_cons.1 hu with e | hu; (rw [e]; rfl); cases hu⟩); (case aB => exact HM.out.c.b); (case aF => exact fun _ _ => trivial); (case aO => exact HM.out.v4); (case aS => exact HM.out.c.b.size); (case aL => rw [List.length_map]; omega); intro v41 w41 ho hb hg hat; have HL := Aside0.mk (HM.out.c.app4 (v4' := v41) HM.out.v4 hb hg); have H4 := Aside0.mk (show OR w41 w.heap.size v41 (D ++ [d]) from by show Kd.R _ _ _ _ _ _ _; rw [List.map_append, List.map_singleton]; exact ho); have HA := Aside0.mk (HA.out.grown rfl HM.out.v4 hg (by decide)); have HE := Aside0.mk HM.out.e; clear ho hb hg hat HM; clear x0 x1 x2 x3 x4 x5 xl; obtain ⟨x0, x1, x2, x3, x4, x5⟩ := HA.out.cells; have xl := HA.out.lt) | (go_at_call 20; (with_reducible refine (HTE.out _ HL.out (mem_last D d)).mono ?_); rintro e w42 ⟨A9, c9, rfl, hr9, hb9⟩; have HR9 := Aside0.mk (Kd.R_lower hr9 HL.out.b.size : RR w42 w.heap.size (sv A9 d.rl c9) d.rl); have HL := Aside0.mk (HL.out.below hb9); have H4 := Aside0.mk (Kd.R_below H4.out hb9); have HA := Aside0.mk (HA.out.below hb9); clear hr9 hb9; clear x0 x1 x2 x3 x4 x5 xl; obtain ⟨x0, x1, x2, x3, x4, x5⟩ := HA.out.cells; have xl := HA.out.lt) | ((with_reducible refine gate_builtin (b := .append) (xs := #[.tmp 43, .tmp 46]) rfl ?_); at_builtin; refine Kd.R_append (Kd.raw 2) (w0 := w) w.heap.size rfl (.tmp 43) (.tmp 46) 65 24 (.agg #[.string ⟨#[]⟩, .slice none 0 0]) 40 rfl Try.underlying65 (by kernel_rfl) rfl (by decide) (by omega) (.slice A5 T.length c5) (T.map tlR) (tlR ⟨d.s, d.rl, A9, c9⟩) [.string d.s, sv A9 d.rl c9] (fun _ => True) (fun _ => False) rfl ?bX ?bP (fun _ hk => hk.elim) ?bF ?bO ?bB ?bS ?bL ?_; (case bX => simp [Act.eval]); (case bP => exact ⟨rfl, rfl, fun u hu => by rcases List.mem_cons.1 hu with e | hu; (rw [e]; rfl); rcases List.mem_cons.1 hu with e | hu; (rw [e]; rfl); cases hu⟩); (case bB => exact HL.out.b); (case bF => exact fun _ _ => trivial); (case bO => exact HL.out.v5); (case bS => exact HL.out.b.size); (case bL => rw [List.length_map]; have := HTD.out; omega); intro v51 w51 ho hb hg hat; have ho' : TR w51 w.heap.size v51 (T ++ [⟨d.s, d.rl, A9, c9⟩]) := (by show Kd.R _ _ _ _ _ _ _; rw [List.map_append, List.map_singleton]; exact ho); have H4 := Aside0.mk (kd_grown (d := Kd.raw 1) rfl H4.out rfl HL.out.v5 hg (by decide)); have HA := Aside0.mk (HA.out.grown rfl HL.out.v5 hg (by decide)); have HL := Aside0.mk (HL.out.app5 (t := ⟨d.s, d.rl, A9, c9⟩) hb hg ho' HR9.out); clear ho ho' hb hg hat HR9; clear x0 x1 x2 x3 x4 x5 xl; obtain ⟨x0, x1, x2, x3, x4, x5⟩ := HA.out.cells; have xl := HA.out.lt) | (go_at_call 26; (with_reducible refine (HCO.out _ HL.out (mem_last D d)).mono ?_); rintro e w52 ⟨C, vaC, rfl, hs52, hC, hv52, hb52⟩; have HM := Aside0.mk (⟨HL.out.copy hb52 hs52 (by omega) hC hv52, Kd.R_below H4.out hb52, by rw [List.map_append, List.map_append, HE.out]; rfl⟩ : CM w w52 (D ++ [d]) ⟨C, vaC, d.s, d.rl, d.q⟩ (T ++ [⟨d.s, d.rl, A9, c9⟩]) v41 v51); have HA := Aside0.mk (HA.out.below hb52); clear hs52 hC hv52 hb52 HL H4 HE; clear x0 x1 x2 x3 x4 x5 xl; obtain ⟨x0, x1, x2, x3, x4, x5⟩ := HA.out.cells; have xl := HA.out.lt))
            obtain ⟨ad6, c6, e6, -⟩ := TR.elem HM.out.c.v5 T.length ⟨d.s, d.rl, A9, c9⟩ (by rw [List.getElem?_append_right (Nat.le_refl _), Nat.sub_self]; rfl)
            rw [List.length_append, List.length_singleton] at e6
            subst e6
            have HEL := Aside0.mk (fun (W : World) (h : CM w W (D ++ [d]) ⟨C, vaC, d.s, d.rl, d.q⟩ (T ++ [⟨d.s, d.rl, A9, c9⟩]) v41 (.slice (some ad6) (T.length + 1) c6)) => TR.elem' h.c.v5 T.length ⟨d.s, d.rl, A9, c9⟩ (by rw [List.getElem?_append_right (Nat.le_refl _), Nat.sub_self]; rfl))
            have HTX := Aside0.mk (fun (W : World) (h : CM w W (D ++ [d]) ⟨C, vaC, d.s, d.rl, d.q⟩ (T ++ [⟨d.s, d.rl, A9, c9⟩]) v41 (.slice (some ad6) (T.length + 1) c6)) => text_s h.cur.1 (by show d.q ≤ 1000; omega))
            have hdl := good_len (goodT_good HM.out.cur.1.good).1
            have HSG := Aside0.mk (fun (W : World) (Ae : Option Addr) (ce : Nat) (hr : RR W w.heap.size (sv Ae d.rl ce) d.rl) (h : CM w W (D ++ [d]) ⟨C, vaC, d.s, d.rl, d.q⟩ (T ++ [⟨d.s, d.rl, A9, c9⟩]) v41 (.slice (some ad6) (T.length + 1) c6)) => same_c d.s d.rl (by have : d.rl.length ≤ 4096 := hdl; omega) W Ae A9 ce c9 (Kd.R_reads' hr).2.2 (Kd.R_reads' hr).2.1 (Kd.R_reads' (h.c.tx _ (mem_last T ⟨d.s, d.rl, A9, c9⟩))).2.2 (Kd.R_reads' (h.c.tx _ (mem_last T ⟨d.s, d.rl, A9, c9⟩))).2.1)
            have hT8 : T.length ≤ 8 := by have := HTD.out; omega
            have hw1 : IntKind.i64.wrap ((T.length : Int) + 1 - 1) = (T.length : Int) := by rw [wrap_ok _ (by omega)]; omega
            have hw2 : IntKind.i64.wrap (((T.length + 1 : Nat) : Int) - 1) = (T.length : Int) := by rw [wrap_ok _ (by omega)]; omega
            have hw3 : IntKind.i64.wrap (T.length : Int) = (T.length : Int) := by rw [wrap_ok _ (by omega)]
            have hi0 : (0 : Int) ≤ (T.length : Int) := by omega
            have hi1 : (T.length : Int) < (T.length : Int) + 1 := by omega
            clear HTE HCO HFI h8'
            refine wp_region_held_drew (S := fun w' => w'.cell? (ad6.add (T.length * 2)) = some (.string d.s) ∧ w'.cell? ⟨(ad6.add (T.length * 2)).block, (ad6.add (T.length * 2)).off + 1, none⟩ = some (sv A9 d.rl c9)) (by kernel_rfl) ?_ (fun hHeld => ?_)
            · exact HEL.out _ (HM.out.below (below_drew (Below.refl _ _)))
            refine wpAnyH_take (i := 0) (oi := _) (v := ?v0u1) (ga0) (by kernel_rfl) (by kernel_rfl) (by kernel_rfl) (fun _ _ _ h => h) (Or.inl ⟨by rfl, ?hy0u1⟩) (by assumption) ?rest0u1
            case hy0u1 => (intro w hSw; (try dsimp only at hSw); go_simp; try with_reducible rfl)
            (try simp only [Act.put, List.setIfInBounds_toArray, List.set_cons_zero, List.set_cons_succ])
            refine wpAnyH_take (i := 1) (oi := _) (v := ?v1u1) (gaS (ga0)) (by kernel_rfl) (by kernel_rfl) (by kernel_rfl) (fun _ _ _ h => h) (Or.inl ⟨by rfl, ?hy1u1⟩) (by assumption) ?rest1u1
            case hy1u1 => (intro w hSw; (try dsimp only at hSw); go_simp; try with_reducible rfl)
            (try simp only [Act.put, List.setIfInBounds_toArray, List.set_cons_zero, List.set_cons_succ])
            refine wpAnyH_take (i := 2) (oi := _) (v := ?v2u1) (gaS (gaS (ga0))) (by kernel_rfl) (by kernel_rfl) (by kernel_rfl) (fun _ _ _ h => h) (Or.inl ⟨by rfl, ?hy2u1⟩) (by assumption) ?rest2u1
            case hy2u1 => (intro w hSw; (try dsimp only at hSw); go_simp; try with_reducible rfl)
            (try simp only [Act.put, List.setIfInBounds_toArray, List.set_cons_zero, List.set_cons_succ])
            refine wpAnyH_take (i := 3) (oi := _) (v := ?v3u1) (gaS (gaS (gaS (ga0)))) (by kernel_rfl) (by kernel_rfl) (by kernel_rfl) (fun _ _ _ h => h) (Or.inl ⟨by rfl, ?hy3u1⟩) (by assumption) ?rest3u1
            case hy3u1 => (intro w hSw; (try dsimp only at hSw); go_simp; try with_reducible rfl)
            (try simp only [Act.put, List.setIfInBounds_toArray, List.set_cons_zero, List.set_cons_succ])
            refine wpAnyH_take (i := 5) (oi := _) (v := ?v5u1) (gaS (gaS (gaS (gaS (gaS (ga0)))))) (by kernel_rfl) (by kernel_rfl) (by kernel_rfl) (fun _ _ _ h => h) (Or.inl ⟨by rfl, ?hy5u1⟩) (by assumption) ?rest5u1
            case hy5u1 => (intro w hSw; (try dsimp only at hSw); go_simp; try with_reducible rfl)
            (try simp only [Act.put, List.setIfInBounds_toArray, List.set_cons_zero, List.set_cons_succ])
            refine wpAnyH_take (i := 6) (oi := _) (v := ?v6u1) (gaS (gaS (gaS (gaS (gaS (gaS (ga0))))))) (by kernel_rfl) (by kernel_rfl) (by kernel_rfl) (fun _ _ _ h => h) (Or.inl ⟨by rfl, ?hy6u1⟩) (by assumption) ?rest6u1
            case hy6u1 => (intro w hSw; (try dsimp only at hSw); go_simp; try with_reducible rfl)
            (try simp only [Act.put, List.setIfInBounds_toArray, List.set_cons_zero, List.set_cons_succ])
            refine wpAnyH_take (i := 7) (oi := _) (v := ?v7u1) (gaS (gaS (gaS (gaS (gaS (gaS (gaS (ga0)))))))) (by kernel_rfl) (by kernel_rfl) (by kernel_rfl) (fun _ _ _ h => h) (Or.inl ⟨by rfl, ?hy7u1⟩) (by assumption) ?rest7u1
            case hy7u1 => (intro w hSw; (try dsimp only at hSw); go_simp; try with_reducible rfl)
            (try simp only [Act.put, List.setIfInBounds_toArray, List.set_cons_zero, List.set_cons_succ])
            refine wpAnyH_take (i := 8) (oi := _) (v := ?v8u1) (gaS (gaS (gaS (gaS (gaS (gaS (gaS (gaS (ga0))))))))) (by kernel_rfl) (by kernel_rfl) (by kernel_rfl) (fun _ _ _ h => h) (Or.inl ⟨by rfl, ?hy8u1⟩) (by assumption) ?rest8u1
            case hy8u1 => (intro w hSw; (try dsimp only at hSw); go_simp; try with_reducible rfl)
            (try simp only [Act.put, List.setIfInBounds_toArray, List.set_cons_zero, List.set_cons_succ])
            refine wpAnyH_take (i := 9) (oi := _) (v := ?v9u1) (gaS (gaS (gaS (gaS (gaS (gaS (gaS (gaS (gaS (ga0)))))))))) (by kernel_rfl) (by kernel_rfl) (by kernel_rfl) (fun _ _ _ h => h) (Or.inl ⟨by rfl, ?hy9u1⟩) (by assumption) ?rest9u1
            case hy9u1 => (intro w hSw; (try dsimp only at hSw); go_simp; try with_reducible rfl)
            (try simp only [Act.put, List.setIfInBounds_toArray, List.set_cons_zero, List.set_cons_succ])
            refine wpAnyH_take (i := 10) (oi := _) (v := ?v10u1) (gaS (gaS (gaS (gaS (gaS (gaS (gaS (gaS (gaS (gaS (ga0))))))))))) (by kernel_rfl) (by kernel_rfl) (by kernel_rfl) (fun _ _ _ h => h) (Or.inl ⟨by rfl, ?hy10u1⟩) (by assumption) ?rest10u1
            case hy10u1 => (intro w hSw; (try dsimp only at hSw); go_simp; try with_reducible rfl)
            (try simp only [Act.put, List.setIfInBounds_toArray, List.set_cons_zero, List.set_cons_succ])
            refine wpAnyH_ready (rs := [4]) (by kernel_rfl) (by simp) ?_
            refine AllReadyH.cons (o := _) (gaS (gaS (gaS (gaS (ga0))))) (fun K hK => ?_) AllReadyH.nil
            go_simp
            (go_at_call 20; (with_reducible refine (HTX.out _ (HM.out.below ?sb)).mono ?_); (case sb => exact (by repeat (first | (with_reducible first | exact Below.refl _ _ | apply pw_below_drewN | apply below_alloc | apply below_drew) | exact Below.refl _ _))); rintro e w53 ⟨Ae, ce, rfl, hre, hbe⟩; have HRE := Aside0.mk (Kd.R_lower hre HM.out.c.b.size); have HM := Aside0.mk (HM.out.below (below_step (by repeat (first | (with_reducible first | exact Below.refl _ _ | apply pw_below_drewN | apply below_alloc | apply below_drew) | exact Below.refl _ _)) hbe)); have HA := Aside0.mk (HA.out.below (below_step (by repeat (first | (with_reducible first | exact Below.refl _ _ | apply pw_below_drewN | apply below_alloc | apply below_drew) | exact Below.refl _ _)) hbe)); clear hre hbe)
            go_wp2_with fail
            refine hK.out _ _ (HEL.out _ HM.out) (fun hHeld => ?_)
            clear hK K
            (try simp only [Act.put, List.setIfInBounds_toArray, List.set_cons_zero, List.set_cons_succ])
            refine wpAnyH_ready (rs := [11]) (by kernel_rfl) (by simp) ?_
            refine AllReadyH.cons (o := _) (gaS (gaS (gaS (gaS (gaS (gaS (gaS (gaS (gaS (gaS (gaS (ga0)))))))))))) (fun K hK => ?_) AllReadyH.nil
            go_simp
            (go_at_call 16; (with_reducible refine (HSG.out _ _ _ HRE.out HM.out).mono ?_); rintro e w54 ⟨rfl, hbe⟩; have HM := Aside0.mk (HM.out.below hbe); have HA := Aside0.mk (HA.out.below hbe); clear hbe)
            go_wp2_with fail
            refine hK.out _ _ (HEL.out _ HM.out) (fun hHeld => ?_)
            clear hK K
            (try simp only [Act.put, List.setIfInBounds_toArray, List.set_cons_zero, List.set_cons_succ])
            refine wpAnyH_take (i := 12) (oi := _) (v := ?v12u1) (gaS (gaS (gaS (gaS (gaS (gaS (gaS (gaS (gaS (gaS (gaS (gaS (ga0))))))))))))) (by kernel_rfl) (by kernel_rfl) (by kernel_rfl) (fun _ _ _ h => h) (Or.inl ⟨by rfl, ?hy12u1⟩) (by assumption) ?rest12u1
            case hy12u1 => (intro w hSw; (try dsimp only at hSw); go_simp; try with_reducible rfl)
            (try simp only [Act.put, List.setIfInBounds_toArray, List.set_cons_zero, List.set_cons_succ])
            refine wpAnyH_take (i := 13) (oi := _) (v := ?v13u1) (gaS (gaS (gaS (gaS (gaS (gaS (gaS (gaS (gaS (gaS (gaS (gaS (gaS (ga0)))))))))))))) (by kernel_rfl) (by kernel_rfl) (by kernel_rfl) (fun _ _ _ h => h) (Or.inl ⟨by rfl, ?hy13u1⟩) (by assumption) ?rest13u1
            case hy13u1 => (intro w hSw; (try dsimp only at hSw); go_simp; try with_reducible rfl)
            (try simp only [Act.put, List.setIfInBounds_toArray, List.set_cons_zero, List.set_cons_succ])
            refine wpAnyH_done (by kernel_rfl) ?_ _
            clear x0 x1 x2 x3 x4 x5 xl
            obtain ⟨x0, x1, x2, x3, x4, x5⟩ := HA.out.cells; have xl := HA.out.lt
            go_wp2_with (first | (go_at_call 19; (with_reducible refine (HPU.out _ HM.out hq9).mono ?_); rintro e w5 ⟨rfl, va', hm5⟩; have HM := Aside0.mk hm5; clear hm5 HA; clear x0 x1 x2 x3 x4 x5 xl))
            exact ⟨⟨q + 1, D ++ [d], ⟨C, va', (putM d.s d.rl 4096 f t x m).1, (putM d.s d.rl 4096 f t x m).2.1, d.q + 1⟩, T ++ [⟨d.s, d.rl, A9, c9⟩], _, rfl, rfl, by go_num, by omega, by omega, by show d.q + 1 ≤ q + 1; omega, by rw [List.length_append, List.length_singleton]; omega, ⟨by rw [List.length_append, List.length_append, HTD.out]; rfl⟩, ⟨fun e he => by rcases List.mem_append.1 he with he | he; exact HDQ.out e he; rw [List.mem_singleton.1 he]; omega⟩, HM⟩, by simp [RowKit.intOf]; omega⟩
          · have h8' : (8 : Int) ≤ (D.length : Int) := by omega
            have h8'' : 8 ≤ D.length := by omega
            go_wp2_with (first | (go_at_call 12; (with_reducible refine (HFI.out _ HM.out.c.b).mono ?_); rintro e w3 ⟨rfl, hb3⟩; have HM := Aside0.mk (HM.out.below hb3); have HA := Aside0.mk (HA.out.below hb3); clear hb3; clear x0 x1 x2 x3 x4 x5 xl; obtain ⟨x0, x1, x2, x3, x4, x5⟩ := HA.out.cells; have xl := HA.out.lt) | (go_at_call 19; (with_reducible refine (HPU.out _ HM.out hq9).mono ?_); rintro e w5 ⟨rfl, va', hm5⟩; have HM := Aside0.mk hm5; clear hm5 HA; clear x0 x1 x2 x3 x4 x5 xl))
            exact ⟨⟨q + 1, D, ⟨d.P, va', (putM d.s d.rl 4096 f t x m).1, (putM d.s d.rl 4096 f t x m).2.1, d.q + 1⟩, T, _, rfl, rfl, by go_num, by omega, by omega, by show d.q + 1 ≤ q + 1; omega, hD8, HTD, HDQ, HM⟩, by simp [RowKit.intOf]; omega⟩
    · have hex2 : ¬ q < l.length ∨ (q < l.length ∧ ¬ q < 50) := by omega
      obtain ⟨A4, c4, e4⟩ := Kd.R_slice HM.out.v4
      rw [List.length_map] at e4
      subst e4
      obtain ⟨A5, c5, e5⟩ := Kd.R_slice HM.out.c.v5
      rw [List.length_map] at e5
      subst e5
      clear hex HR HML hc
      rcases hex2 with hx | ⟨hx, hx2⟩
      · have hx' : l.length ≤ q := by omega
        have hD8' : (D.length : Int) ≤ 8 := by omega
        go_wp2
        have HE0 := Aside0.mk (CE.start HM.out HTD.out HDQ.out)
        clear HM HDQ hx'
        go_loopw [8] (fun ii wr => ∃ (E1 E2 : List Ol) (wr1 : World), wr1 = wr ∧ ii = .int .i64 ((E1.length : Int) - 1) ∧ Aside0 (E1.length + E2.length = D.length) ∧ Aside0 (CE w wr1 E1 E2 d T (.slice A4 D.length c4) (.slice A5 T.length c5))) (fun ii _ => (RowKit.intOf ii + 1).toNat)
        case atStart => exact ⟨D, [], _, rfl, rfl, ⟨rfl⟩, HE0⟩
        case round =>
          clear HE0
          obtain ⟨E1, E2, wr3, rfl, rfl, HLn, HE⟩ := hrel
          rcases List.eq_nil_or_concat E1 with rfl | ⟨F, e, hFe⟩
          · have e1 : (([] : List Ol).length : Int) - 1 = -1 := rfl
            rw [e1]
            by_cases hD0 : D.length = 0
            · have hb0 : ((D.length : Int) == 0) = true := by rw [hD0]; rfl
              have hb1 : (D.length == 0) = true := by rw [hD0]; rfl
              have hn0 : (D.length : Int) = 0 := by rw [hD0]; rfl
              clear hD0
              go_wp2
              go_ret
              exact ⟨rfl, HE.out.c.b⟩
            · obtain ⟨z, E2', rfl⟩ : ∃ z E2', E2 = z :: E2' := by
                cases E2 with
                | nil => exact absurd HLn.out.symm (by simpa using hD0)
                | cons z E2' => exact ⟨z, E2', rfl⟩
              obtain ⟨a4, c4', e4, hz0⟩ := OR.elem HE.out.v4 0 z rfl
              obtain rfl : A4 = some a4 := by injection e4
              clear e4
              have hz1 := hz0
              have hz2 : wr3.cell? a4 = some (.pointer (some ⟨z.P, 0, none⟩)) := by simpa [Addr.add] using hz1
              have HLZ : Aside0 (∀ W, CE w W [] (z :: E2') d T (.slice (some a4) D.length c4) (.slice A5 T.length c5) → Calls Try.prog 24 #[.pointer (some ⟨z.P, 0, none⟩)] W fun e w' => e = .returned (.int .i64 0) ∧ Below W.heap.size W w') := ⟨fun W h => by
                have h1 := len_s (h.c.st z (List.mem_cons_self ..))
                rw [h.z z (List.mem_cons_self ..)] at h1
                exact h1⟩
              have hb0 : ((D.length : Int) == 0) = false := beq_eq_false_iff_ne.2 (by omega)
              have hb1 : (D.length == 0) = false := beq_eq_false_iff_ne.2 hD0
              have hpos : 0 < D.length := by omega
              have hpos' : (0 : Int) < (D.length : Int) := by omega
              clear hz0
              go_wp2_with (first | (go_at_call 24; (with_reducible refine (HLZ.out _ HE.out).mono ?_); rintro e' w57 ⟨rfl, hbe⟩; have HE := Aside0.mk (HE.out.below hbe); clear hbe))
              go_ret
              exact ⟨rfl, HE.out.c.b⟩
          · rw [List.concat_eq_append] at hFe
            subst hFe
            have e1 : (((F ++ [e]).length : Nat) : Int) - 1 = (F.length : Int) := by rw [List.length_append, List.length_singleton]; omega
            rw [e1]
            have hFl : F.length + 1 ≤ T.length := by have h1 := HLn.out; have h2 := HTD.out; rw [List.length_append, List.length_singleton] at h1; omega
            have hFD : F.length < D.length := by have h2 := HTD.out; omega
            obtain ⟨t, ht0, ht1, ht2, -⟩ := last_eq (by have := HE.out.e; rw [List.length_append, List.length_singleton] at this; exact this) hFl
            obtain ⟨ts, trl, tA, tc⟩ := t
            dsimp only at ht1 ht2
            subst ht1
            subst ht2
            have hge : ((F ++ [e]) ++ E2)[F.length]? = some e := by rw [List.append_assoc, List.getElem?_append_right (Nat.le_refl _), Nat.sub_self]; rfl
            obtain ⟨a4, c4', e4, -⟩ := OR.elem HE.out.v4 F.length e hge
            obtain rfl : A4 = some a4 := by injection e4
            clear e4
            obtain ⟨a5, c5', e5, -⟩ := TR.elem HE.out.c.v5 F.length _ ht0
            obtain rfl : A5 = some a5 := by injection e5
            clear e5
            have htm := List.mem_of_getElem? ht0
            have HEL := Aside0.mk (fun (W : World) (h : CE w W (F ++ [e]) E2 d T (.slice (some a4) D.length c4) (.slice (some a5) T.length c5)) => (⟨OR.elem' h.v4 F.length e hge, TR.elem' h.c.v5 F.length _ ht0⟩ : _ ∧ _ ∧ _))
            have hel := good_len (goodT_good HE.out.st.1.good).1
            have HTX := Aside0.mk (fun (W : World) (h : CE w W (F ++ [e]) E2 d T (.slice (some a4) D.length c4) (.slice (some a5) T.length c5)) => text_s h.st.1 (by have := h.st.2; omega))
            have HLE := Aside0.mk (fun (W : World) (h : CE w W (F ++ [e]) E2 d T (.slice (some a4) D.length c4) (.slice (some a5) T.length c5)) => len_s h.st.1)
            have HPE := Aside0.mk (fun (W : World) (h : CE w W (F ++ [e]) E2 d T (.slice (some a4) D.length c4) (.slice (some a5) T.length c5)) => put_e h hFl)
            have HSG := Aside0.mk (fun (W : World) (Ae : Option Addr) (ce : Nat) (hr : RR W w.heap.size (sv Ae e.rl ce) e.rl) (h : CE w W (F ++ [e]) E2 d T (.slice (some a4) D.length c4) (.slice (some a5) T.length c5)) => same_c e.s e.rl (by omega) W Ae tA ce tc (Kd.R_reads' hr).2.2 (Kd.R_reads' hr).2.1 (Kd.R_reads' (h.c.tx _ htm)).2.2 (Kd.R_reads' (h.c.tx _ htm)).2.1)
            have hi0 : (0 : Int) ≤ (F.length : Int) := by omega
            have hi1 : (F.length : Int) < (D.length : Int) := by omega
            have hi2 : (F.length : Int) < (T.length : Int) := by omega
            clear e1 hge ht0 htm
            go_upto_region 23 with (fail)
            refine wp_region_held_drew (S := fun w' => w'.cell? (a4.add F.length) = some (.pointer (some ⟨e.P, 0, none⟩)) ∧ w'.cell? (a5.add (F.length * 2)) = some (.string e.s) ∧ w'.cell? ⟨(a5.add (F.length * 2)).block, (a5.add (F.length * 2)).off + 1, none⟩ = some (sv tA e.rl tc)) (by kernel_rfl) ?_ (fun hHeld => ?_)
            · exact HEL.out _ (HE.out.below (below_drew (Below.refl _ _)))
            refine wpAnyH_take (i := 0) (oi := _) (v := ?v0u4) (ga0) (by kernel_rfl) (by kernel_rfl) (by kernel_rfl) (fun _ _ _ h => h) (Or.inl ⟨by rfl, ?hy0u4⟩) (by assumption) ?rest0u4
            case hy0u4 => (intro w hSw; (try dsimp only at hSw); go_simp; try with_reducible rfl)
            (try simp only [Act.put, List.setIfInBounds_toArray, List.set_cons_zero, List.set_cons_succ])
            refine wpAnyH_take (i := 1) (oi := _) (v := ?v1u4) (gaS (ga0)) (by kernel_rfl) (by kernel_rfl) (by kernel_rfl) (fun _ _ _ h => h) (Or.inl ⟨by rfl, ?hy1u4⟩) (by assumption) ?rest1u4
            case hy1u4 => (intro w hSw; (try dsimp only at hSw); go_simp; try with_reducible rfl)
            (try simp only [Act.put, List.setIfInBounds_toArray, List.set_cons_zero, List.set_cons_succ])
            refine wpAnyH_take (i := 2) (oi := _) (v := ?v2u4) (gaS (gaS (ga0))) (by kernel_rfl) (by kernel_rfl) (by kernel_rfl) (fun _ _ _ h => h) (Or.inl ⟨by rfl, ?hy2u4⟩) (by assumption) ?rest2u4
            case hy2u4 => (intro w hSw; (try dsimp only at hSw); go_simp; try with_reducible rfl)
            (try simp only [Act.put, List.setIfInBounds_toArray, List.set_cons_zero, List.set_cons_succ])
            refine wpAnyH_take (i := 3) (oi := _) (v := ?v3u4) (gaS (gaS (gaS (ga0)))) (by kernel_rfl) (by kernel_rfl) (by kernel_rfl) (fun _ _ _ h => h) (Or.inl ⟨by rfl, ?hy3u4⟩) (by assumption) ?rest3u4
            case hy3u4 => (intro w hSw; (try dsimp only at hSw); go_simp; try with_reducible rfl)
            (try simp only [Act.put, List.setIfInBounds_toArray, List.set_cons_zero, List.set_cons_succ])
            refine wpAnyH_take (i := 5) (oi := _) (v := ?v5u4) (gaS (gaS (gaS (gaS (gaS (ga0)))))) (by kernel_rfl) (by kernel_rfl) (by kernel_rfl) (fun _ _ _ h => h) (Or.inl ⟨by rfl, ?hy5u4⟩) (by assumption) ?rest5u4
            case hy5u4 => (intro w hSw; (try dsimp only at hSw); go_simp; try with_reducible rfl)
            (try simp only [Act.put, List.setIfInBounds_toArray, List.set_cons_zero, List.set_cons_succ])
            refine wpAnyH_take (i := 6) (oi := _) (v := ?v6u4) (gaS (gaS (gaS (gaS (gaS (gaS (ga0))))))) (by kernel_rfl) (by kernel_rfl) (by kernel_rfl) (fun _ _ _ h => h) (Or.inl ⟨by rfl, ?hy6u4⟩) (by assumption) ?rest6u4
            case hy6u4 => (intro w hSw; (try dsimp only at hSw); go_simp; try with_reducible rfl)
            (try simp only [Act.put, List.setIfInBounds_toArray, List.set_cons_zero, List.set_cons_succ])
            refine wpAnyH_take (i := 7) (oi := _) (v := ?v7u4) (gaS (gaS (gaS (gaS (gaS (gaS (gaS (ga0)))))))) (by kernel_rfl) (by kernel_rfl) (by kernel_rfl) (fun _ _ _ h => h) (Or.inl ⟨by rfl, ?hy7u4⟩) (by assumption) ?rest7u4
            case hy7u4 => (intro w hSw; (try dsimp only at hSw); go_simp; try with_reducible rfl)
            (try simp only [Act.put, List.setIfInBounds_toArray, List.set_cons_zero, List.set_cons_succ])
            refine wpAnyH_take (i := 8) (oi := _) (v := ?v8u4) (gaS (gaS (gaS (gaS (gaS (gaS (gaS (gaS (ga0))))))))) (by kernel_rfl) (by kernel_rfl) (by kernel_rfl) (fun _ _ _ h => h) (Or.inl ⟨by rfl, ?hy8u4⟩) (by assumption) ?rest8u4
            case hy8u4 => (intro w hSw; (try dsimp only at hSw); go_simp; try with_reducible rfl)
            (try simp only [Act.put, List.setIfInBounds_toArray, List.set_cons_zero, List.set_cons_succ])
            refine wpAnyH_ready (rs := [4]) (by kernel_rfl) (by simp) ?_
            refine AllReadyH.cons (o := _) (gaS (gaS (gaS (gaS (ga0))))) (fun K hK => ?_) AllReadyH.nil
            go_simp
            (go_at_call 20; (with_reducible refine (HTX.out _ (HE.out.below ?sb)).mono ?_); (case sb => exact (by repeat (first | (with_reducible first | exact Below.refl _ _ | apply pw_below_drewN | apply below_alloc | apply below_drew) | exact Below.refl _ _))); rintro e' w53 ⟨Ae, ce, rfl, hre, hbe⟩; have HRE := Aside0.mk (Kd.R_lower hre HE.out.c.b.size); have HE := Aside0.mk (HE.out.below (below_step (by repeat (first | (with_reducible first | exact Below.refl _ _ | apply pw_below_drewN | apply below_alloc | apply below_drew) | exact Below.refl _ _)) hbe)); clear hre hbe)
            go_wp2_with fail
            refine hK.out _ _ (HEL.out _ HE.out) (fun hHeld => ?_)
            clear hK K
            (try simp only [Act.put, List.setIfInBounds_toArray, List.set_cons_zero, List.set_cons_succ])
            refine wpAnyH_ready (rs := [9]) (by kernel_rfl) (by simp) ?_
            refine AllReadyH.cons (o := _) (gaS (gaS (gaS (gaS (gaS (gaS (gaS (gaS (gaS (ga0)))))))))) (fun K hK => ?_) AllReadyH.nil
            go_simp
            (go_at_call 16; (with_reducible refine (HSG.out _ _ _ HRE.out HE.out).mono ?_); rintro e' w54 ⟨rfl, hbe⟩; have HE := Aside0.mk (HE.out.below hbe); clear hbe)
            go_wp2_with fail
            refine hK.out _ _ (HEL.out _ HE.out) (fun hHeld => ?_)
            clear hK K
            (try simp only [Act.put, List.setIfInBounds_toArray, List.set_cons_zero, List.set_cons_succ])
            refine wpAnyH_take (i := 10) (oi := _) (v := ?v10u4) (gaS (gaS (gaS (gaS (gaS (gaS (gaS (gaS (gaS (gaS (ga0))))))))))) (by kernel_rfl) (by kernel_rfl) (by kernel_rfl) (fun _ _ _ h => h) (Or.inl ⟨by rfl, ?hy10u4⟩) (by assumption) ?rest10u4
            case hy10u4 => (intro w hSw; (try dsimp only at hSw); go_simp; try with_reducible rfl)
            (try simp only [Act.put, List.setIfInBounds_toArray, List.set_cons_zero, List.set_cons_succ])
            refine wpAnyH_done (by kernel_rfl) ?_ _
            go_upto_region 25 with (fail)
            refine wp_region_held_drew (S := fun w' => w'.cell? (a4.add F.length) = some (.pointer (some ⟨e.P, 0, none⟩))) (by kernel_rfl) ?_ (fun hHeld => ?_)
            · exact (HEL.out _ (HE.out.below (below_drew (Below.refl _ _)))).1
            refine wpAnyH_take (i := 0) (oi := _) (v := ?v0u5) (ga0) (by kernel_rfl) (by kernel_rfl) (by kernel_rfl) (fun _ _ _ h => h) (Or.inl ⟨by rfl, ?hy0u5⟩) (by assumption) ?rest0u5
            case hy0u5 => (intro w hSw; (try dsimp only at hSw); go_simp; try with_reducible rfl)
            (try simp only [Act.put, List.setIfInBounds_toArray, List.set_cons_zero, List.set_cons_succ])
            refine wpAnyH_take (i := 1) (oi := _) (v := ?v1u5) (gaS (ga0)) (by kernel_rfl) (by kernel_rfl) (by kernel_rfl) (fun _ _ _ h => h) (Or.inl ⟨by rfl, ?hy1u5⟩) (by assumption) ?rest1u5
            case hy1u5 => (intro w hSw; (try dsimp only at hSw); go_simp; try with_reducible rfl)
            (try simp only [Act.put, List.setIfInBounds_toArray, List.set_cons_zero, List.set_cons_succ])
            refine wpAnyH_take (i := 2) (oi := _) (v := ?v2u5) (gaS (gaS (ga0))) (by kernel_rfl) (by kernel_rfl) (by kernel_rfl) (fun _ _ _ h => h) (Or.inl ⟨by rfl, ?hy2u5⟩) (by assumption) ?rest2u5
            case hy2u5 => (intro w hSw; (try dsimp only at hSw); go_simp; try with_reducible rfl)
            (try simp only [Act.put, List.setIfInBounds_toArray, List.set_cons_zero, List.set_cons_succ])
            refine wpAnyH_take (i := 3) (oi := _) (v := ?v3u5) (gaS (gaS (gaS (ga0)))) (by kernel_rfl) (by kernel_rfl) (by kernel_rfl) (fun _ _ _ h => h) (Or.inl ⟨by rfl, ?hy3u5⟩) (by assumption) ?rest3u5
            case hy3u5 => (intro w hSw; (try dsimp only at hSw); go_simp; try with_reducible rfl)
            (try simp only [Act.put, List.setIfInBounds_toArray, List.set_cons_zero, List.set_cons_succ])
            refine wpAnyH_take (i := 4) (oi := _) (v := ?v4u5) (gaS (gaS (gaS (gaS (ga0))))) (by kernel_rfl) (by kernel_rfl) (by kernel_rfl) (fun _ _ _ h => h) (Or.inl ⟨by rfl, ?hy4u5⟩) (by assumption) ?rest4u5
            case hy4u5 => (intro w hSw; (try dsimp only at hSw); go_simp; try with_reducible rfl)
            (try simp only [Act.put, List.setIfInBounds_toArray, List.set_cons_zero, List.set_cons_succ])
            refine wpAnyH_take (i := 5) (oi := _) (v := ?v5u5) (gaS (gaS (gaS (gaS (gaS (ga0)))))) (by kernel_rfl) (by kernel_rfl) (by kernel_rfl) (fun _ _ _ h => h) (Or.inl ⟨by rfl, ?hy5u5⟩) (by assumption) ?rest5u5
            case hy5u5 => (intro w hSw; (try dsimp only at hSw); go_simp; try with_reducible rfl)
            (try simp only [Act.put, List.setIfInBounds_toArray, List.set_cons_zero, List.set_cons_succ])
            refine wpAnyH_take (i := 6) (oi := _) (v := ?v6u5) (gaS (gaS (gaS (gaS (gaS (gaS (ga0))))))) (by kernel_rfl) (by kernel_rfl) (by kernel_rfl) (fun _ _ _ h => h) (Or.inl ⟨by rfl, ?hy6u5⟩) (by assumption) ?rest6u5
            case hy6u5 => (intro w hSw; (try dsimp only at hSw); go_simp; try with_reducible rfl)
            (try simp only [Act.put, List.setIfInBounds_toArray, List.set_cons_zero, List.set_cons_succ])
            refine wpAnyH_take (i := 7) (oi := _) (v := ?v7u5) (gaS (gaS (gaS (gaS (gaS (gaS (gaS (ga0)))))))) (by kernel_rfl) (by kernel_rfl) (by kernel_rfl) (fun _ _ _ h => h) (Or.inl ⟨by rfl, ?hy7u5⟩) (by assumption) ?rest7u5
            case hy7u5 => (intro w hSw; (try dsimp only at hSw); go_simp; try with_reducible rfl)
            (try simp only [Act.put, List.setIfInBounds_toArray, List.set_cons_zero, List.set_cons_succ])
            refine wpAnyH_take (i := 9) (oi := _) (v := ?v9u5) (gaS (gaS (gaS (gaS (gaS (gaS (gaS (gaS (gaS (ga0)))))))))) (by kernel_rfl) (by kernel_rfl) (by kernel_rfl) (fun _ _ _ h => h) (Or.inl ⟨by rfl, ?hy9u5⟩) (by assumption) ?rest9u5
            case hy9u5 => (intro w hSw; (try dsimp only at hSw); go_simp; try with_reducible rfl)
            (try simp only [Act.put, List.setIfInBounds_toArray, List.set_cons_zero, List.set_cons_succ])
            refine wpAnyH_ready (rs := [8]) (by kernel_rfl) (by simp) ?_
            refine AllReadyH.cons (o := _) (gaS (gaS (gaS (gaS (gaS (gaS (gaS (gaS (ga0))))))))) (fun K hK => ?_) AllReadyH.nil
            go_simp
            (go_at_call 24; (with_reducible refine (HLE.out _ (HE.out.below ?sb)).mono ?_); (case sb => exact (by repeat (first | (with_reducible first | exact Below.refl _ _ | apply pw_below_drewN | apply below_alloc | apply below_drew) | exact Below.refl _ _))); rintro e' w55 ⟨rfl, hbe⟩; have HE := Aside0.mk (HE.out.below (below_step (by repeat (first | (with_reducible first | exact Below.refl _ _ | apply pw_below_drewN | apply below_alloc | apply below_drew) | exact Below.refl _ _)) hbe)); clear hbe)
            go_wp2_with fail
            refine hK.out _ _ (HEL.out _ HE.out).1 (fun hHeld => ?_)
            clear hK K
            (try simp only [Act.put, List.setIfInBounds_toArray, List.set_cons_zero, List.set_cons_succ])
            refine wpAnyH_ready (rs := [10]) (by kernel_rfl) (by simp) ?_
            refine AllReadyH.cons (o := _) (gaS (gaS (gaS (gaS (gaS (gaS (gaS (gaS (gaS (gaS (ga0))))))))))) (fun K hK => ?_) AllReadyH.nil
            go_simp
            (go_at_call 19; (with_reducible refine (HPE.out _ HE.out).mono ?_); rintro e' w56 ⟨rfl, E', hep, he56⟩; have hpc := pcell he56 hep; have HF := Aside0.mk he56; clear he56 hep)
            go_wp2_with fail
            refine hK.out _ _ hpc (fun hHeld => ?_)
            clear hK K
            (try simp only [Act.put, List.setIfInBounds_toArray, List.set_cons_zero, List.set_cons_succ])
            refine wpAnyH_done (by kernel_rfl) ?_ _
            go_wp2
            exact ⟨⟨F, E' :: E2, _, rfl, rfl, ⟨by have h1 := HLn.out; rw [List.length_append, List.length_singleton] at h1; rw [List.length_cons]; omega⟩, HF⟩, by simp [RowKit.intOf]⟩
      · have hx' : (q : Int) < (l.length : Int) := by omega
        have hx2' : (50 : Int) ≤ (q : Int) := by omega
        have hD8' : (D.length : Int) ≤ 8 := by omega
        go_wp2
        have HE0 := Aside0.mk (CE.start HM.out HTD.out HDQ.out)
        clear HM HDQ hx'
        go_loopw [8] (fun ii wr => ∃ (E1 E2 : List Ol) (wr1 : World), wr1 = wr ∧ ii = .int .i64 ((E1.length : Int) - 1) ∧ Aside0 (E1.length + E2.length = D.length) ∧ Aside0 (CE w wr1 E1 E2 d T (.slice A4 D.length c4) (.slice A5 T.length c5))) (fun ii _ => (RowKit.intOf ii + 1).toNat)
        case atStart => exact ⟨D, [], _, rfl, rfl, ⟨rfl⟩, HE0⟩
        case round =>
          clear HE0
          obtain ⟨E1, E2, wr3, rfl, rfl, HLn, HE⟩ := hrel
          rcases List.eq_nil_or_concat E1 with rfl | ⟨F, e, hFe⟩
          · have e1 : (([] : List Ol).length : Int) - 1 = -1 := rfl
            rw [e1]
            by_cases hD0 : D.length = 0
            · have hb0 : ((D.length : Int) == 0) = true := by rw [hD0]; rfl
              have hb1 : (D.length == 0) = true := by rw [hD0]; rfl
              have hn0 : (D.length : Int) = 0 := by rw [hD0]; rfl
              clear hD0
              go_wp2
              go_ret
              exact ⟨rfl, HE.out.c.b⟩
            · obtain ⟨z, E2', rfl⟩ : ∃ z E2', E2 = z :: E2' := by
                cases E2 with
                | nil => exact absurd HLn.out.symm (by simpa using hD0)
                | cons z E2' => exact ⟨z, E2', rfl⟩
              obtain ⟨a4, c4', e4, hz0⟩ := OR.elem HE.out.v4 0 z rfl
              obtain rfl : A4 = some a4 := by injection e4
              clear e4
              have hz1 := hz0
              have hz2 : wr3.cell? a4 = some (.pointer (some ⟨z.P, 0, none⟩)) := by simpa [Addr.add] using hz1
              have HLZ : Aside0 (∀ W, CE w W [] (z :: E2') d T (.slice (some a4) D.length c4) (.slice A5 T.length c5) → Calls Try.prog 24 #[.pointer (some ⟨z.P, 0, none⟩)] W fun e w' => e = .returned (.int .i64 0) ∧ Below W.heap.size W w') := ⟨fun W h => by
                have h1 := len_s (h.c.st z (List.mem_cons_self ..))
                rw [h.z z (List.mem_cons_self ..)] at h1
                exact h1⟩
              have hb0 : ((D.length : Int) == 0) = false := beq_eq_false_iff_ne.2 (by omega)
              have hb1 : (D.length == 0) = false := beq_eq_false_iff_ne.2 hD0
              have hpos : 0 < D.length := by omega
              have hpos' : (0 : Int) < (D.length : Int) := by omega
              clear hz0
              go_wp2_with (first | (go_at_call 24; (with_reducible refine (HLZ.out _ HE.out).mono ?_); rintro e' w57 ⟨rfl, hbe⟩; have HE := Aside0.mk (HE.out.below hbe); clear hbe))
              go_ret
              exact ⟨rfl, HE.out.c.b⟩
          · rw [List.concat_eq_append] at hFe
            subst hFe
            have e1 : (((F ++ [e]).length : Nat) : Int) - 1 = (F.length : Int) := by rw [List.length_append, List.length_singleton]; omega
            rw [e1]
            have hFl : F.length + 1 ≤ T.length := by have h1 := HLn.out; have h2 := HTD.out; rw [List.length_append, List.length_singleton] at h1; omega
            have hFD : F.length < D.length := by have h2 := HTD.out; omega
            obtain ⟨t, ht0, ht1, ht2, -⟩ := last_eq (by have := HE.out.e; rw [List.length_append, List.length_singleton] at this; exact this) hFl
            obtain ⟨ts, trl, tA, tc⟩ := t
            dsimp only at ht1 ht2
            subst ht1
            subst ht2
            have hge : ((F ++ [e]) ++ E2)[F.length]? = some e := by rw [List.append_assoc, List.getElem?_append_right (Nat.le_refl _), Nat.sub_self]; rfl
            obtain ⟨a4, c4', e4, -⟩ := OR.elem HE.out.v4 F.length e hge
            obtain rfl : A4 = some a4 := by injection e4
            clear e4
            obtain ⟨a5, c5', e5, -⟩ := TR.elem HE.out.c.v5 F.length _ ht0
            obtain rfl : A5 = some a5 := by injection e5
            clear e5
            have htm := List.mem_of_getElem? ht0
            have HEL := Aside0.mk (fun (W : World) (h : CE w W (F ++ [e]) E2 d T (.slice (some a4) D.length c4) (.slice (some a5) T.length c5)) => (⟨OR.elem' h.v4 F.length e hge, TR.elem' h.c.v5 F.length _ ht0⟩ : _ ∧ _ ∧ _))
            have hel := good_len (goodT_good HE.out.st.1.good).1
            have HTX := Aside0.mk (fun (W : World) (h : CE w W (F ++ [e]) E2 d T (.slice (some a4) D.length c4) (.slice (some a5) T.length c5)) => text_s h.st.1 (by have := h.st.2; omega))
            have HLE := Aside0.mk (fun (W : World) (h : CE w W (F ++ [e]) E2 d T (.slice (some a4) D.length c4) (.slice (some a5) T.length c5)) => len_s h.st.1)
            have HPE := Aside0.mk (fun (W : World) (h : CE w W (F ++ [e]) E2 d T (.slice (some a4) D.length c4) (.slice (some a5) T.length c5)) => put_e h hFl)
            have HSG := Aside0.mk (fun (W : World) (Ae : Option Addr) (ce : Nat) (hr : RR W w.heap.size (sv Ae e.rl ce) e.rl) (h : CE w W (F ++ [e]) E2 d T (.slice (some a4) D.length c4) (.slice (some a5) T.length c5)) => same_c e.s e.rl (by omega) W Ae tA ce tc (Kd.R_reads' hr).2.2 (Kd.R_reads' hr).2.1 (Kd.R_reads' (h.c.tx _ htm)).2.2 (Kd.R_reads' (h.c.tx _ htm)).2.1)
            have hi0 : (0 : Int) ≤ (F.length : Int) := by omega
            have hi1 : (F.length : Int) < (D.length : Int) := by omega
            have hi2 : (F.length : Int) < (T.length : Int) := by omega
            clear e1 hge ht0 htm
            go_upto_region 23 with (fail)
            refine wp_region_held_drew (S := fun w' => w'.cell? (a4.add F.length) = some (.pointer (some ⟨e.P, 0, none⟩)) ∧ w'.cell? (a5.add (F.length * 2)) = some (.string e.s) ∧ w'.cell? ⟨(a5.add (F.length * 2)).block, (a5.add (F.length * 2)).off + 1, none⟩ = some (sv tA e.rl tc)) (by kernel_rfl) ?_ (fun hHeld => ?_)
            · exact HEL.out _ (HE.out.below (below_drew (Below.refl _ _)))
            refine wpAnyH_take (i := 0) (oi := _) (v := ?v0u6) (ga0) (by kernel_rfl) (by kernel_rfl) (by kernel_rfl) (fun _ _ _ h => h) (Or.inl ⟨by rfl, ?hy0u6⟩) (by assumption) ?rest0u6
            case hy0u6 => (intro w hSw; (try dsimp only at hSw); go_simp; try with_reducible rfl)
            (try simp only [Act.put, List.setIfInBounds_toArray, List.set_cons_zero, List.set_cons_succ])
            refine wpAnyH_take (i := 1) (oi := _) (v := ?v1u6) (gaS (ga0)) (by kernel_rfl) (by kernel_rfl) (by kernel_rfl) (fun _ _ _ h => h) (Or.inl ⟨by rfl, ?hy1u6⟩) (by assumption) ?rest1u6
            case hy1u6 => (intro w hSw; (try dsimp only at hSw); go_simp; try with_reducible rfl)
            (try simp only [Act.put, List.setIfInBounds_toArray, List.set_cons_zero, List.set_cons_succ])
            refine wpAnyH_take (i := 2) (oi := _) (v := ?v2u6) (gaS (gaS (ga0))) (by kernel_rfl) (by kernel_rfl) (by kernel_rfl) (fun _ _ _ h => h) (Or.inl ⟨by rfl, ?hy2u6⟩) (by assumption) ?rest2u6
            case hy2u6 => (intro w hSw; (try dsimp only at hSw); go_simp; try with_reducible rfl)
            (try simp only [Act.put, List.setIfInBounds_toArray, List.set_cons_zero, List.set_cons_succ])
            refine wpAnyH_take (i := 3) (oi := _) (v := ?v3u6) (gaS (gaS (gaS (ga0)))) (by kernel_rfl) (by kernel_rfl) (by kernel_rfl) (fun _ _ _ h => h) (Or.inl ⟨by rfl, ?hy3u6⟩) (by assumption) ?rest3u6
            case hy3u6 => (intro w hSw; (try dsimp only at hSw); go_simp; try with_reducible rfl)
            (try simp only [Act.put, List.setIfInBounds_toArray, List.set_cons_zero, List.set_cons_succ])
            refine wpAnyH_take (i := 5) (oi := _) (v := ?v5u6) (gaS (gaS (gaS (gaS (gaS (ga0)))))) (by kernel_rfl) (by kernel_rfl) (by kernel_rfl) (fun _ _ _ h => h) (Or.inl ⟨by rfl, ?hy5u6⟩) (by assumption) ?rest5u6
            case hy5u6 => (intro w hSw; (try dsimp only at hSw); go_simp; try with_reducible rfl)
            (try simp only [Act.put, List.setIfInBounds_toArray, List.set_cons_zero, List.set_cons_succ])
            refine wpAnyH_take (i := 6) (oi := _) (v := ?v6u6) (gaS (gaS (gaS (gaS (gaS (gaS (ga0))))))) (by kernel_rfl) (by kernel_rfl) (by kernel_rfl) (fun _ _ _ h => h) (Or.inl ⟨by rfl, ?hy6u6⟩) (by assumption) ?rest6u6
            case hy6u6 => (intro w hSw; (try dsimp only at hSw); go_simp; try with_reducible rfl)
            (try simp only [Act.put, List.setIfInBounds_toArray, List.set_cons_zero, List.set_cons_succ])
            refine wpAnyH_take (i := 7) (oi := _) (v := ?v7u6) (gaS (gaS (gaS (gaS (gaS (gaS (gaS (ga0)))))))) (by kernel_rfl) (by kernel_rfl) (by kernel_rfl) (fun _ _ _ h => h) (Or.inl ⟨by rfl, ?hy7u6⟩) (by assumption) ?rest7u6
            case hy7u6 => (intro w hSw; (try dsimp only at hSw); go_simp; try with_reducible rfl)
            (try simp only [Act.put, List.setIfInBounds_toArray, List.set_cons_zero, List.set_cons_succ])
            refine wpAnyH_take (i := 8) (oi := _) (v := ?v8u6) (gaS (gaS (gaS (gaS (gaS (gaS (gaS (gaS (ga0))))))))) (by kernel_rfl) (by kernel_rfl) (by kernel_rfl) (fun _ _ _ h => h) (Or.inl ⟨by rfl, ?hy8u6⟩) (by assumption) ?rest8u6
            case hy8u6 => (intro w hSw; (try dsimp only at hSw); go_simp; try with_reducible rfl)
            (try simp only [Act.put, List.setIfInBounds_toArray, List.set_cons_zero, List.set_cons_succ])
            refine wpAnyH_ready (rs := [4]) (by kernel_rfl) (by simp) ?_
            refine AllReadyH.cons (o := _) (gaS (gaS (gaS (gaS (ga0))))) (fun K hK => ?_) AllReadyH.nil
            go_simp
            (go_at_call 20; (with_reducible refine (HTX.out _ (HE.out.below ?sb)).mono ?_); (case sb => exact (by repeat (first | (with_reducible first | exact Below.refl _ _ | apply pw_below_drewN | apply below_alloc | apply below_drew) | exact Below.refl _ _))); rintro e' w53 ⟨Ae, ce, rfl, hre, hbe⟩; have HRE := Aside0.mk (Kd.R_lower hre HE.out.c.b.size); have HE := Aside0.mk (HE.out.below (below_step (by repeat (first | (with_reducible first | exact Below.refl _ _ | apply pw_below_drewN | apply below_alloc | apply below_drew) | exact Below.refl _ _)) hbe)); clear hre hbe)
            go_wp2_with fail
            refine hK.out _ _ (HEL.out _ HE.out) (fun hHeld => ?_)
            clear hK K
            (try simp only [Act.put, List.setIfInBounds_toArray, List.set_cons_zero, List.set_cons_succ])
            refine wpAnyH_ready (rs := [9]) (by kernel_rfl) (by simp) ?_
            refine AllReadyH.cons (o := _) (gaS (gaS (gaS (gaS (gaS (gaS (gaS (gaS (gaS (ga0)))))))))) (fun K hK => ?_) AllReadyH.nil
            go_simp
            (go_at_call 16; (with_reducible refine (HSG.out _ _ _ HRE.out HE.out).mono ?_); rintro e' w54 ⟨rfl, hbe⟩; have HE := Aside0.mk (HE.out.below hbe); clear hbe)
            go_wp2_with fail
            refine hK.out _ _ (HEL.out _ HE.out) (fun hHeld => ?_)
            clear hK K
            (try simp only [Act.put, List.setIfInBounds_toArray, List.set_cons_zero, List.set_cons_succ])
            refine wpAnyH_take (i := 10) (oi := _) (v := ?v10u6) (gaS (gaS (gaS (gaS (gaS (gaS (gaS (gaS (gaS (gaS (ga0))))))))))) (by kernel_rfl) (by kernel_rfl) (by kernel_rfl) (fun _ _ _ h => h) (Or.inl ⟨by rfl, ?hy10u6⟩) (by assumption) ?rest10u6
            case hy10u6 => (intro w hSw; (try dsimp only at hSw); go_simp; try with_reducible rfl)
            (try simp only [Act.put, List.setIfInBounds_toArray, List.set_cons_zero, List.set_cons_succ])
            refine wpAnyH_done (by kernel_rfl) ?_ _
            go_upto_region 25 with (fail)
            refine wp_region_held_drew (S := fun w' => w'.cell? (a4.add F.length) = some (.pointer (some ⟨e.P, 0, none⟩))) (by kernel_rfl) ?_ (fun hHeld => ?_)
            · exact (HEL.out _ (HE.out.below (below_drew (Below.refl _ _)))).1
            refine wpAnyH_take (i := 0) (oi := _) (v := ?v0u7) (ga0) (by kernel_rfl) (by kernel_rfl) (by kernel_rfl) (fun _ _ _ h => h) (Or.inl ⟨by rfl, ?hy0u7⟩) (by assumption) ?rest0u7
            case hy0u7 => (intro w hSw; (try dsimp only at hSw); go_simp; try with_reducible rfl)
            (try simp only [Act.put, List.setIfInBounds_toArray, List.set_cons_zero, List.set_cons_succ])
            refine wpAnyH_take (i := 1) (oi := _) (v := ?v1u7) (gaS (ga0)) (by kernel_rfl) (by kernel_rfl) (by kernel_rfl) (fun _ _ _ h => h) (Or.inl ⟨by rfl, ?hy1u7⟩) (by assumption) ?rest1u7
            case hy1u7 => (intro w hSw; (try dsimp only at hSw); go_simp; try with_reducible rfl)
            (try simp only [Act.put, List.setIfInBounds_toArray, List.set_cons_zero, List.set_cons_succ])
            refine wpAnyH_take (i := 2) (oi := _) (v := ?v2u7) (gaS (gaS (ga0))) (by kernel_rfl) (by kernel_rfl) (by kernel_rfl) (fun _ _ _ h => h) (Or.inl ⟨by rfl, ?hy2u7⟩) (by assumption) ?rest2u7
            case hy2u7 => (intro w hSw; (try dsimp only at hSw); go_simp; try with_reducible rfl)
            (try simp only [Act.put, List.setIfInBounds_toArray, List.set_cons_zero, List.set_cons_succ])
            refine wpAnyH_take (i := 3) (oi := _) (v := ?v3u7) (gaS (gaS (gaS (ga0)))) (by kernel_rfl) (by kernel_rfl) (by kernel_rfl) (fun _ _ _ h => h) (Or.inl ⟨by rfl, ?hy3u7⟩) (by assumption) ?rest3u7
            case hy3u7 => (intro w hSw; (try dsimp only at hSw); go_simp; try with_reducible rfl)
            (try simp only [Act.put, List.setIfInBounds_toArray, List.set_cons_zero, List.set_cons_succ])
            refine wpAnyH_take (i := 4) (oi := _) (v := ?v4u7) (gaS (gaS (gaS (gaS (ga0))))) (by kernel_rfl) (by kernel_rfl) (by kernel_rfl) (fun _ _ _ h => h) (Or.inl ⟨by rfl, ?hy4u7⟩) (by assumption) ?rest4u7
            case hy4u7 => (intro w hSw; (try dsimp only at hSw); go_simp; try with_reducible rfl)
            (try simp only [Act.put, List.setIfInBounds_toArray, List.set_cons_zero, List.set_cons_succ])
            refine wpAnyH_take (i := 5) (oi := _) (v := ?v5u7) (gaS (gaS (gaS (gaS (gaS (ga0)))))) (by kernel_rfl) (by kernel_rfl) (by kernel_rfl) (fun _ _ _ h => h) (Or.inl ⟨by rfl, ?hy5u7⟩) (by assumption) ?rest5u7
            case hy5u7 => (intro w hSw; (try dsimp only at hSw); go_simp; try with_reducible rfl)
            (try simp only [Act.put, List.setIfInBounds_toArray, List.set_cons_zero, List.set_cons_succ])
            refine wpAnyH_take (i := 6) (oi := _) (v := ?v6u7) (gaS (gaS (gaS (gaS (gaS (gaS (ga0))))))) (by kernel_rfl) (by kernel_rfl) (by kernel_rfl) (fun _ _ _ h => h) (Or.inl ⟨by rfl, ?hy6u7⟩) (by assumption) ?rest6u7
            case hy6u7 => (intro w hSw; (try dsimp only at hSw); go_simp; try with_reducible rfl)
            (try simp only [Act.put, List.setIfInBounds_toArray, List.set_cons_zero, List.set_cons_succ])
            refine wpAnyH_take (i := 7) (oi := _) (v := ?v7u7) (gaS (gaS (gaS (gaS (gaS (gaS (gaS (ga0)))))))) (by kernel_rfl) (by kernel_rfl) (by kernel_rfl) (fun _ _ _ h => h) (Or.inl ⟨by rfl, ?hy7u7⟩) (by assumption) ?rest7u7
            case hy7u7 => (intro w hSw; (try dsimp only at hSw); go_simp; try with_reducible rfl)
            (try simp only [Act.put, List.setIfInBounds_toArray, List.set_cons_zero, List.set_cons_succ])
            refine wpAnyH_take (i := 9) (oi := _) (v := ?v9u7) (gaS (gaS (gaS (gaS (gaS (gaS (gaS (gaS (gaS (ga0)))))))))) (by kernel_rfl) (by kernel_rfl) (by kernel_rfl) (fun _ _ _ h => h) (Or.inl ⟨by rfl, ?hy9u7⟩) (by assumption) ?rest9u7
            case hy9u7 => (intro w hSw; (try dsimp only at hSw); go_simp; try with_reducible rfl)
            (try simp only [Act.put, List.setIfInBounds_toArray, List.set_cons_zero, List.set_cons_succ])
            refine wpAnyH_ready (rs := [8]) (by kernel_rfl) (by simp) ?_
            refine AllReadyH.cons (o := _) (gaS (gaS (gaS (gaS (gaS (gaS (gaS (gaS (ga0))))))))) (fun K hK => ?_) AllReadyH.nil
            go_simp
            (go_at_call 24; (with_reducible refine (HLE.out _ (HE.out.below ?sb)).mono ?_); (case sb => exact (by repeat (first | (with_reducible first | exact Below.refl _ _ | apply pw_below_drewN | apply below_alloc | apply below_drew) | exact Below.refl _ _))); rintro e' w55 ⟨rfl, hbe⟩; have HE := Aside0.mk (HE.out.below (below_step (by repeat (first | (with_reducible first | exact Below.refl _ _ | apply pw_below_drewN | apply below_alloc | apply below_drew) | exact Below.refl _ _)) hbe)); clear hbe)
            go_wp2_with fail
            refine hK.out _ _ (HEL.out _ HE.out).1 (fun hHeld => ?_)
            clear hK K
            (try simp only [Act.put, List.setIfInBounds_toArray, List.set_cons_zero, List.set_cons_succ])
            refine wpAnyH_ready (rs := [10]) (by kernel_rfl) (by simp) ?_
            refine AllReadyH.cons (o := _) (gaS (gaS (gaS (gaS (gaS (gaS (gaS (gaS (gaS (gaS (ga0))))))))))) (fun K hK => ?_) AllReadyH.nil
            go_simp
            (go_at_call 19; (with_reducible refine (HPE.out _ HE.out).mono ?_); rintro e' w56 ⟨rfl, E', hep, he56⟩; have hpc := pcell he56 hep; have HF := Aside0.mk he56; clear he56 hep)
            go_wp2_with fail
            refine hK.out _ _ hpc (fun hHeld => ?_)
            clear hK K
            (try simp only [Act.put, List.setIfInBounds_toArray, List.set_cons_zero, List.set_cons_succ])
            refine wpAnyH_done (by kernel_rfl) ?_ _
            go_wp2
            exact ⟨⟨F, E' :: E2, _, rfl, rfl, ⟨by have h1 := HLn.out; rw [List.length_append, List.length_singleton] at h1; rw [List.length_cons]; omega⟩, HF⟩, by simp [RowKit.intOf]⟩
def bureaulaw05_PieceCopies.f (l0 : List XPC.S48) : Option Bool := if ∀ y, y ∈ l0 → y.f2.f1.length ≤ maxLen then some true else none
theorem bureaulaw05_PieceCopies.calls (A0 : Option Addr) (c0 : Nat) (l0 : List XPC.S48) (r : Bool) (w : World) (hr0 : Kd.C XPC.k48 w A0 l0.length l0) (hc0 : l0.length ≤ c0) (h : bureaulaw05_PieceCopies.f l0 = some r) :
    Calls Try.prog 7 #[.slice A0 l0.length c0] w fun e w' => e = .returned (.bool r) ∧ Below w.heap.size w w' := by
  unfold bureaulaw05_PieceCopies.f at h
  by_cases hc : ∀ y, y ∈ l0 → y.f2.f1.length ≤ maxLen
  · rw [if_pos hc] at h
    cases h
    exact Copies_w A0 c0 l0 w hr0 hc0 hc
  · rw [if_neg hc] at h
    cases h

end Go.Proofs.Ytgaggoglbkcomaa.Ext
