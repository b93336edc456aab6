/- Put: a text laid down in a store. Put, refused. New, Len, Room. Cut. Cut where it succeeds: the walk's state. -/
import Derived.Test.YtgaggoglbkcomaaExt05AD
import Derived.Test.YtgaggoglbkcomaaExtSC
import Derived.Test.YtgaggoglbkcomaaXRRx2
import Derived.Test.YtgaggoglbkcomaaXRRx5
import Derived.Test.YtgaggoglbkcomaaXRRx0
import Derived.Test.YtgaggoglbkcomaaWMore
import Derived.Laws.CopyOwn
import Derived.Lib.SlBuf
import Derived.Lib.AppendStr
import Derived.Deep.RegionLaw
import Derived.WalkKit
import Derived.WalkMore
import Derived.Below
import Derived.KernelRfl
import Derived.LoopTactic
import Derived.Deep.RegionWith
import Derived.Deep.RegionHeld3
import Derived.IntWalk
import Derived.Deep.DeepCutAuto
import Derived.Deep.CutBlock
import Derived.BigQuiet
import Derived.Laws.RangeString
import Derived.Laws.RangeAny
import Derived.Laws.Rows
import Derived.Laws.Runes
import Derived.Lib.OthersKept
import Derived.OpenShut
set_option linter.unusedVariables false
set_option linter.unusedSimpArgs false
namespace Go.Proofs.Ytgaggoglbkcomaa.Ext
open Go.RowKit Go.Lib Go.Proofs.YtgaggoglbkcomaaW.PrintWords Go.Proofs.YtgaggoglbkcomaaW.PrintMore Go.Proofs.Ytgaggoglbkcomaa.XRR

theorem goodT_sz {s : ByteArray} {l : List Rn} (h : goodT s l = true) : s.size ≤ 4096 := by
  obtain ⟨h1, h2⟩ := goodT_good h
  have := good_n h1
  omega
theorem OS.base {u W wr : World} {v : Value} {out : List Sp} (h : OS W wr v out) (hb : Below u.heap.size u W) : OS u wr v out :=
  ⟨below_step hb h.b, Kd.R_lower h.o hb.size, fun p hp => Kd.R_lower (h.r p hp) hb.size⟩
/-- The walk of Put: the store, the text's box. -/
structure PB (w u wr : World) (P mo : Nat) (va vs : Value) (ad : List Int) (xs : List Sp) (n : Nat) (x : ByteArray) (v : Value) : Prop where
  M : SM w wr P mo va vs ad xs n
  b : Below u.heap.size u wr
  t : BX wr u.heap.size x v
theorem PB.below {w u wr w' : World} {P mo n : Nat} {va vs v : Value} {ad : List Int} {xs : List Sp} {x : ByteArray} (h : PB w u wr P mo va vs ad xs n x v) (hb : Below wr.heap.size wr w') : PB w u w' P mo va vs ad xs n x v := ⟨h.M.below hb, below_step h.b hb, h.t.below hb⟩
theorem make_runs (n : Nat) (hn : n ≤ 100000) (w : World) : (Instr.makeSlice 22 (.int .i64 (n : Int)) (.int .i64 (n : Int))).run Try.prog w = .ok (.slice (some ⟨w.heap.size, 0, none⟩) n n) (w.alloc (.cells (madeCells #[.int .u64 0, .int .i64 0] (n * 2)) 29)) := by
  obtain ⟨i0, hi0, hz⟩ := Option.map_eq_some_iff.1 (show (Try.prog.info? 29).map (fun i => (i.zero, i.size, i.bytes)) = some (some (.agg #[.int .u64 0, .int .i64 0]), 2, 16) by kernel_rfl)
  simp only [Prod.mk.injEq] at hz
  obtain ⟨hz1, hz2, hz3⟩ := hz
  have hb : (i0.bytes : Int) * (n : Int) ≤ 281474976710656 := by rw [hz3]; omega
  have hr := run_make (P := Try.prog) w 22 29 i0 _ Try.underlying22 hi0 hz1 .i64 .i64 n n (by omega) (by omega) hb (by omega)
  rw [hz2] at hr
  simp only [Int.toNat_natCast] at hr
  exact hr
theorem runs_one {w : World} {m : List Rn} {news : List Value} (h : Reps (k29.K w) 2 m news) : ∀ u ∈ news, u.oneCell' = true := by
  intro u hu
  obtain ⟨q, hq, rfl⟩ := List.mem_iff_getElem.1 hu
  have hl := h.1
  have hql : q / 2 < m.length := by omega
  have hp := h.2 (q / 2) _ (List.getElem?_eq_getElem hql)
  refine k29.K_one hp _ (List.mem_of_getElem? (i := q % 2) ?_)
  rw [List.getElem?_take_of_lt (by omega), List.getElem?_drop, List.getElem?_eq_some_iff]
  exact ⟨by omega, by congr 1; omega⟩
/-- The walk of Put behind the bytes' append: what stands. -/
structure QB (w u wr : World) (P mo : Nat) (va0 va vs : Value) (ad : List Int) (xs : List Sp) (n : Nat) (x : ByteArray) (v : Value) (v1 : Value) (o1 : List Sp) (v2 : Value) (o2 : List Sp) : Prop where
  M : SM w wr P mo va vs ad xs n
  k : Kp (fun k => k = P ∨ va0.ownBlock = some k) u wr
  t : BX wr u.heap.size x v
  w1 : SR wr u.heap.size v1 o1
  r1 : ∀ p, p ∈ o1 → RR wr u.heap.size (sv p.A p.o.r p.c) p.o.r
  w2 : SR wr u.heap.size v2 o2
  r2 : ∀ p, p ∈ o2 → RR wr u.heap.size (sv p.A p.o.r p.c) p.o.r
theorem QB.of {w u wr : World} {P mo n : Nat} {va vs v v1 v2 : Value} {ad : List Int} {xs o1 o2 : List Sp} {x : ByteArray} (h : PB w u wr P mo va vs ad xs n x v) (h1 : OS u wr v1 o1) (h2 : OS u wr v2 o2) : QB w u wr P mo va va vs ad xs n x v v1 o1 v2 o2 :=
  ⟨h.M, Kp.of_below h.b, h.t, h1.o, h1.r, h2.o, h2.r⟩
/-- A step that turns the store's block and its bytes alone. -/
theorem QB.step {w u wr w' : World} {P mo n n' : Nat} {va0 va vs v v1 v2 va' : Value} {ad ad' : List Int} {xs o1 o2 : List Sp} {x : ByteArray} (h : QB w u wr P mo va0 va vs ad xs n x v v1 o1 v2 o2) (hk : Kp (fun k => k = P ∨ va.ownBlock = some k) wr w') (h0 : ∀ k, k < u.heap.size → va.ownBlock = some k → va0.ownBlock = some k) (hb : Below w.heap.size wr w') (hx : w'.heap[P]? = some (.cells #[.bool true, .int .i64 mo, va', vs, .int .i64 n'] 71 (0, 0))) (ha : w'.ownsRow w.heap.size 5 1 va' ad'.length (nums .u8 ad')) : QB w u w' P mo va0 va' vs ad' xs n' x v v1 o1 v2 o2 := by
  have ty : ∀ g, (g = P ∨ va.ownBlock = some g) → ∀ q, (q = 83 ∨ q = 29 ∨ q = 24) → ∀ cells, wr.heap[g]? ≠ some (.cells cells q (0, 0)) := by
    intro g hg q hq cells hc
    rcases hg with rfl | hg
    · rw [h.M.x] at hc
      rcases hq with e | e | e <;> (subst e; cases hc)
    · obtain ⟨cells', hc'⟩ := own_typed h.M.a g hg
      rw [hc'] at hc
      rcases hq with e | e | e <;> (subst e; cases hc)
  have kr : ∀ {base : Nat} {y : Value} {l : List Rn}, RR wr base y l → RR w' base y l := fun hr => R_keep hr hk (fun g hg q hq => by
    rcases List.mem_cons.1 hq with e | e
    · exact ty g hg q (.inr (.inl e))
    · exact (List.not_mem_nil e).elim)
  have ks : ∀ {base : Nat} {y : Value} {l : List Sp}, SR wr base y l → SR w' base y l := fun hr => R_keep hr hk (fun g hg q hq => by
    rcases List.mem_cons.1 hq with e | e
    · exact ty g hg q (.inl e)
    · exact (List.not_mem_nil e).elim)
  refine ⟨⟨h.M.b.trans hb, hx, h.M.le, ha, ks h.M.s, fun p hp => kr (h.M.r p hp)⟩, h.k.trans hk (fun _ e => e) (fun k hk' e => e.imp id (h0 k hk')), ⟨?_⟩, ks h.w1, fun p hp => kr (h.r1 p hp), ks h.w2, fun p hp => kr (h.r2 p hp)⟩
  exact (hk.block _ (Array.getElem?_eq_some_iff.1 h.t.x).1 (fun e => ty _ e _ (.inr (.inr rfl)) _ h.t.x)).trans h.t.x
theorem QB.str {w u wr W w13 : World} {P mo n : Nat} {va vs v v1 v2 v8 : Value} {ad ad' : List Int} {xs o1 o2 : List Sp} {x : ByteArray} (h : QB w u wr P mo va va vs ad xs n x v v1 o1 v2 o2) (hg : W.grownBy w13 va.ownBlock) (ho : w13.ownsRow w.heap.size 5 1 v8 ad'.length (nums .u8 ad')) (hW : W.heap = wr.heap) (hWb : Below w.heap.size wr W) : QB w u (w13.setCell ⟨P, 2, none⟩ v8) P mo va v8 vs ad' xs n x v v1 o1 v2 o2 := by
  have hbl : Kp (fun k => va.ownBlock = some k) wr w13 := ⟨by have := hg.size; rwa [hW] at this, fun k hk hn => by
    have := hg.block k (by rwa [hW]) (fun e => hn e.symm)
    rwa [hW] at this⟩
  have hx13 := (hbl.block P h.M.lt (Lib.ownBlock_ne h.M.a h.M.x (by decide))).trans h.M.x
  have hne := Lib.ownBlock_ne ho hx13 (by decide)
  refine h.step (hbl.trans (Kp.set w13 P 2 v8) (fun _ e => Or.inr e) (fun _ _ e => Or.inl e)) (fun _ _ e => e) ?_ (heap_setCell_same w13 P 2 _ _ v8 hx13) (own_keep ho (Kp.set w13 P 2 v8) (fun g e e' => hne (e' ▸ e)))
  exact (hWb.grown hg (Nat.le_trans h.M.b.size hWb.size) (fun k hk => (h.M.a.lt k hk).1)).setCell (p := ⟨P, 2, none⟩) h.M.le _
theorem own_shape {w : World} {B e sz n : Nat} {v : Value} {xs : List Value} (h : w.ownsRow B e sz v n xs) : ∃ A k c, v = .slice A k c := by
  rcases h.2 with ⟨e, -⟩ | ⟨g, cap, cur, e, -⟩
  · exact ⟨_, _, _, e⟩
  · exact ⟨_, _, _, e⟩
theorem str_cells {w u wr W w13 : World} {P mo n : Nat} {va vs v v1 v2 : Value} {ad : List Int} {xs o1 o2 : List Sp} {x : ByteArray} (h : QB w u wr P mo va va vs ad xs n x v v1 o1 v2 o2) (hg : W.grownBy w13 va.ownBlock) (hW : W.heap = wr.heap) : w13.cell? ⟨P, 2, none⟩ = some va ∧ w13.frozen? ⟨P, 2, none⟩ = false := by
  have hx13 : w13.heap[P]? = _ := ((hg.block P (by rw [hW]; exact h.M.lt) (fun e => Lib.ownBlock_ne h.M.a h.M.x (by decide) e.symm)).trans (by rw [hW])).trans h.M.x
  exact ⟨cell_of_row w13 P 2 _ _ _ hx13, frozen_of_row _ P 2 _ _ hx13⟩
theorem QB.rows {w u wr w13 : World} {P mo n : Nat} {va0 va vs v v1 v2 v' : Value} {ad : List Int} {xs o1 o2 : List Sp} {x : ByteArray} (h : QB w u wr P mo va0 va vs ad xs n x v v1 o1 v2 o2) (hbw : Below u.heap.size wr w13) (hu : w.heap.size ≤ u.heap.size) (hg : wr.grownBy w13 v1.ownBlock) (ho : Kd.R (Kd.raw 3) 83 w13 u.heap.size (fun _ => True) v' (o1.map spR ++ o2.map spR)) : SM w (w13.setCell ⟨P, 3, none⟩ v') P mo va v' ad (o1 ++ o2) n ∧ Kp (fun k => k = P ∨ va0.ownBlock = some k) u (w13.setCell ⟨P, 3, none⟩ v') ∧ BX (w13.setCell ⟨P, 3, none⟩ v') u.heap.size x v := by
  have hne : v1.ownBlock ≠ some P := fun e => by
    obtain ⟨cells, hc⟩ := sp_ty h.w1 _ e
    rw [h.M.x] at hc
    cases hc
  have hx13 := sp_app h.M.x h.w1 hg hne
  have hva : ∀ g, va.ownBlock = some g → ¬ (v1.ownBlock = some g) := fun g e e' => by
    obtain ⟨c1, h1⟩ := own_typed h.M.a g e
    obtain ⟨c2, h2⟩ := sp_ty h.w1 g e'
    rw [h1] at h2
    cases h2
  have hva2 : ∀ g, va.ownBlock = some g → ¬ (g = P) := fun g e e' => Lib.ownBlock_ne h.M.a h.M.x (by decide) (e' ▸ e)
  have kr : ∀ p, p ∈ o1 ++ o2 → RR w13 u.heap.size (sv p.A p.o.r p.c) p.o.r := fun p hp => by
    rcases List.mem_append.1 hp with hp | hp
    · exact runs_app (h.r1 p hp) h.w1 hg
    · exact runs_app (h.r2 p hp) h.w1 hg
  have hb : Below w.heap.size w w13 := h.M.b.trans (hbw.mono hu)
  refine ⟨⟨hb.setCell (p := ⟨P, 3, none⟩) h.M.le _, heap_setCell_same w13 P 3 _ _ v' hx13, h.M.le, own_keep (own_keep h.M.a (Kp.grown hg) hva) (Kp.set w13 P 3 v') hva2, ?_, fun p hp => Kd.R_lower (Kd.R_set (kr p hp) hx13 (by decide) 3 v') hu⟩, (h.k.trans (Kp.grown hg) (fun _ e => e) (fun k hk e => ?_)).trans (Kp.set w13 P 3 v') (fun _ e => e) (fun _ _ e => Or.inl e), ⟨?_⟩⟩
  · show Kd.R _ _ _ _ _ _ _
    rw [List.map_append]
    exact Kd.R_lower (Kd.R_set ho hx13 (by decide) 3 v') hu
  · have := ((Kd.R_bound h.w1).1 k e).2.1
    omega
  · have ht := sp_app h.t.x h.w1 hg (fun e => by
      obtain ⟨cells, hc⟩ := sp_ty h.w1 _ e
      rw [h.t.x] at hc
      cases hc)
    have hpt : u.heap.size ≠ P := fun e => by
      have h1 := h.t.x
      rw [e, h.M.x] at h1
      cases h1
    rw [heap_setCell_other _ _ _ _ (by exact hpt)]
    exact ht
theorem SM.len {w wr : World} {P mo n : Nat} {va vs : Value} {ad : List Int} {xs : List Sp} (h : SM w wr P mo va vs ad xs n) (k : Nat) : SM w (wr.setCell ⟨P, 4, none⟩ (.int .i64 k)) P mo va vs ad xs k := by
  have hva2 : ∀ g, va.ownBlock = some g → ¬ (g = P) := fun g e e' => Lib.ownBlock_ne h.a h.x (by decide) (e' ▸ e)
  exact ⟨h.b.setCell (p := ⟨P, 4, none⟩) h.le _, heap_setCell_same wr P 4 _ _ _ h.x, h.le, own_keep h.a (Kp.set wr P 4 _) hva2, Kd.R_set h.s h.x (by decide) 4 _, fun p hp => Kd.R_set (h.r p hp) h.x (by decide) 4 _⟩
theorem OS.of {w u wr W1 w4 : World} {P mo n : Nat} {va vs v v1 : Value} {ad : List Int} {xs out : List Sp} {x : ByteArray} (h : PB w u wr P mo va vs ad xs n x v) (hb : Below wr.heap.size wr W1) (ho : OS W1 w4 v1 out) : OS u w4 v1 out := ho.base (below_step h.b hb)
theorem drew_alloc (w : World) (o : Obj) : (w.alloc o).drew = w.drew.alloc o := rfl
theorem dis_app {u wr : World} {v v1 v2 : Value} {o2 : List Sp} (hd : ∀ k, v.ownBlock = some k → v2.ownBlock ≠ some k) (h : OS u wr v2 o2) (hat : v1.ownBlock = v.ownBlock ∨ ∃ b, v1.ownBlock = some b ∧ wr.heap.size ≤ b) : ∀ k, v1.ownBlock = some k → v2.ownBlock ≠ some k := by
  intro k h1 h3
  rcases hat with e | ⟨b, e, hb⟩
  · exact hd k (e ▸ h1) h3
  · have := ((Kd.R_bound h.o).1 k h3).2.2.1
    rw [e] at h1
    cases h1
    omega
/-- What stands in v' lies where v's did, or is new. -/
def AtB (v' v : Value) (n : Nat) : Prop := v'.ownBlock = v.ownBlock ∨ ∃ b, v'.ownBlock = some b ∧ n ≤ b
theorem append_str_at (W : World) (base : Nat) (ty : TypeId) (v : Value) (xs : List Int) (y : ByteArray) (HO : W.ownsRow base 5 1 v xs.length (nums .u8 xs)) (hl : xs.length + y.size ≤ 140737488355328) (v' : Value) (w' : World) (hr : (Builtin.append_ #[68, 9] ty #[v, .string y]).run Try.prog W = .ok v' w') : v'.ownBlock = v.ownBlock ∨ ∃ b, v'.ownBlock = some b ∧ W.heap.size ≤ b := by
  obtain ⟨i0, hi, hzz⟩ := Option.map_eq_some_iff.1 (show (Try.prog.info? 5).map (fun i => (i.zero, i.size, i.bytes)) = some (some (.int .u8 0), 1, 1) by kernel_rfl)
  simp only [Prod.mk.injEq] at hzz
  obtain ⟨hz0, hz1, hz2⟩ := hzz
  have hxl : (nums .u8 xs).length = xs.length := by simpa using HO.1
  rcases HO.2 with ⟨rfl, e2⟩ | ⟨g, cap, cur, rfl, hbg, hg, hnc, hcm, hcs, htake⟩
  · by_cases hm : y.size = 0
    · have hf := run_firstCells_string (P := Try.prog) W 1 y
      rw [hm] at hf
      have h2 : (Builtin.append_ #[68, 9] ty #[.slice none 0 0, .string y]).run Try.prog W = .ok (.slice none 0 0) W := by
        simp [Builtin.append_, run_underlying Try.underlying68, run_underlying Try.underlying9, sizeOf, typeInfo, hi, hz1, Builtin.lenOf, hm, hf]
      rw [h2] at hr
      cases hr
      exact Or.inl rfl
    · have h2 := run_append_nil_string (P := Try.prog) W 68 9 ty 5 i0 (.int .u8 0) Try.underlying68 Try.underlying9 hi hz0 y (by omega) (by omega) (by rw [hz2]; omega)
      rw [h2] at hr
      cases hr
      exact Or.inr ⟨_, rfl, Nat.le_refl _⟩
  · by_cases hroom : xs.length + y.size ≤ cap
    · have h2 := run_append_room_string (P := Try.prog) W 68 9 ty 5 i0 Try.underlying68 Try.underlying9 hi hz1 g xs.length cap cur hg y hroom (by omega)
      rw [h2] at hr
      cases hr
      exact Or.inl rfl
    · have h2 := run_append_grow_string (P := Try.prog) W 68 9 ty 5 i0 (.int .u8 0) Try.underlying68 Try.underlying9 hi hz0 ⟨g, 0, none⟩ xs.length cap (nums .u8 xs) (by rw [hz1]; simpa using hxl) (HO.cells (g := g) rfl) y (by omega) (by omega) (by rw [hz2]; exact growslice_fits (by omega) (by omega))
      rw [h2] at hr
      cases hr
      exact Or.inr ⟨_, rfl, Nat.le_refl _⟩
theorem step_append_str {ops : Array Oper} {o : Oper} {a : Act} {Q : Exit → Act → World → Prop} {Kc : Act → World → Prop} {E : Prop} {W : World} (base : Nat) (hw : Region.wanted o (yielded ops a.tmps) = true) (s x : Operand)
    (ho : o.op = .call { callee := .builtin .append, args := #[s, x], argTypes := #[68, 9] })
    (v : Value) (xs : List Int) (y : ByteArray) (hs : a.eval s = v) (hx : a.eval x = .string y)
    (HO : W.ownsRow base 5 1 v xs.length (nums .u8 xs)) (hbase : base ≤ W.heap.size) (hl : xs.length + y.size ≤ 140737488355328)
    (h : ∀ v1 w1, w1.ownsRow base 5 1 v1 (xs ++ bytesOf y).length (nums .u8 (xs ++ bytesOf y)) → W.grownBy w1 v.ownBlock → (v1.ownBlock = v.ownBlock ∨ ∃ b, v1.ownBlock = some b ∧ W.heap.size ≤ b) → Kc (a.put o.dst v1) w1) :
    if Region.wanted o (yielded ops a.tmps) = true then Oper.wp Try.prog o a W Kc Q else E := by
  rw [if_pos hw]
  obtain ⟨i0, hi, hzz⟩ := Option.map_eq_some_iff.1 (show (Try.prog.info? 5).map (fun i => (i.zero, i.size, i.bytes)) = some (some (.int .u8 0), 1, 1) by kernel_rfl)
  simp only [Prod.mk.injEq] at hzz
  obtain ⟨hz0, hz1, hz2⟩ := hzz
  obtain ⟨v', w', hr, h2, h3, -⟩ := Lib.run_append_own_string (P := Try.prog) W base 68 9 o.type 5 i0 Try.underlying68 Try.underlying9 hi hz0 hz1 hz2 v xs.length (nums .u8 xs) HO y (by unfold maxLen; omega) hl hbase
  unfold Oper.wp execOp
  simp only [ho, resolve, invoke, builtin, Sem.run_bind, Sem.run_pure, Result.andThen_ok, List.map_toArray, List.map_cons, List.map_nil, hs, hx, hr]
  have hl2 : (xs ++ bytesOf y).length = xs.length + y.size := by rw [List.length_append, bO_len]
  have hc := nums_str xs y
  exact h v' w' (by rw [hl2, hc]; exact h2) h3 (append_str_at W base o.type v xs y HO hl v' w' hr)
theorem someC_len {ad : List Int} {l : List Co} (hg : ∀ p, p ∈ l → GoodP ad.length p) (fr till : Nat) : (someC fr till 0 l).length ≤ tot l := by
  have g := someC_good fr till l 0 hg
  have h1 := tot_len g
  have h2 := tot_txt g
  rw [someC_txt fr till l 0 hg, List.length_drop, List.length_take, tot_txt hg] at h2
  omega
theorem OS.own_in {w u wr W1 w4 : World} {P mo n : Nat} {va vs v v1 : Value} {ad : List Int} {xs out : List Sp} {x : ByteArray} (_h : PB w u wr P mo va vs ad xs n x v) (hb : Below wr.heap.size wr W1) (ho : OS W1 w4 v1 out) (k : Nat) (hk : v1.ownBlock = some k) : wr.heap.size ≤ k ∧ k < w4.heap.size := by
  have h1 := ((Kd.R_bound ho.o).1 k hk).2
  have h2 := hb.size
  exact ⟨by omega, h1.2.1⟩
theorem OS.side {u wr w' : World} {v1 v2 : Value} {o1 o2 : List Sp} (h : OS u wr v2 o2) (h1 : SR wr u.heap.size v1 o1) (hG : wr.grownBy w' v1.ownBlock) (hb : Below u.heap.size u w') (hd : ∀ k, v1.ownBlock = some k → v2.ownBlock ≠ some k) : OS u w' v2 o2 := by
  refine ⟨hb, ?_, fun p hp => runs_app (h.r p hp) h1 hG⟩
  have hl := fun k hk => ((Kd.R_bound h.o).1 k hk).2.2.1
  obtain ⟨-, inner, ho, hr⟩ := h.o
  exact ⟨fun _ _ => trivial, inner, own_move ho (fun k hk => hG.block k (hl k hk) (fun e => hd k e.symm hk)), hr.imp_ (fun _ _ h => h)⟩
theorem PB.app {w u wr w' : World} {P mo n : Nat} {va vs v v1 : Value} {ad : List Int} {xs o1 : List Sp} {x : ByteArray} (h0 : SM w u P mo va vs ad xs n) (h : PB w u wr P mo va vs ad xs n x v) (h1 : SR wr u.heap.size v1 o1) (hG : wr.grownBy w' v1.ownBlock) (hb : Below u.heap.size u w') : PB w u w' P mo va vs ad xs n x v := by
  refine ⟨h0.below hb, hb, ⟨sp_app h.t.x h1 hG (fun e => ?_)⟩⟩
  obtain ⟨cells, hc⟩ := sp_ty h1 _ e
  rw [h.t.x] at hc
  cases hc
theorem PB.start {w u : World} {P mo n : Nat} {va vs : Value} {ad : List Int} {xs : List Sp} (h : SM w u P mo va vs ad xs n) (x : ByteArray) (v : Value) : PB w u (u.alloc (.cells #[.string x, v] 24)) P mo va vs ad xs n x v :=
  ⟨h.below (below_alloc (Below.refl _ _) _), below_alloc (Below.refl _ _) _, ⟨heap_alloc_new _ _⟩⟩
theorem put_fin {w W6 : World} {P mo n : Nat} {va vs : Value} {ad : List Int} {xs : List Sp} (h : SM w W6 P mo va vs ad xs n) (k : Nat) (z : Int) (hz : z = k) : SM w ((W6.setCell ⟨P, 4, none⟩ (.int .i64 z)).drew) P mo va vs ad xs k := by
  subst hz
  exact (h.len k).below (below_drew (Below.refl _ _))
/-- The pieces' runs lie in rows that are new since. -/
def RunsNew (w' : World) (base : Nat) (xs : List Sp) : Prop := ∀ p, p ∈ xs → RR w' base (sv p.A p.o.r p.c) p.o.r
theorem QB.rows2 {w u wr w13 : World} {P mo n : Nat} {va0 va vs v v1 v2 v' : Value} {ad : List Int} {xs o1 o2 : List Sp} {x : ByteArray} (h : QB w u wr P mo va0 va vs ad xs n x v v1 o1 v2 o2) (hg : wr.grownBy w13 v1.ownBlock) : RunsNew (w13.setCell ⟨P, 3, none⟩ v') u.heap.size (o1 ++ o2) := by
  have hne : v1.ownBlock ≠ some P := fun e => by
    obtain ⟨cells, hc⟩ := sp_ty h.w1 _ e
    rw [h.M.x] at hc
    cases hc
  have hx13 := sp_app h.M.x h.w1 hg hne
  intro p hp
  refine Kd.R_set ?_ hx13 (by decide) 3 v'
  rcases List.mem_append.1 hp with hp | hp
  · exact runs_app (h.r1 p hp) h.w1 hg
  · exact runs_app (h.r2 p hp) h.w1 hg
theorem RunsNew.fin {w W6 : World} {P mo n base : Nat} {va vs : Value} {ad : List Int} {xs ys : List Sp} (h : RunsNew W6 base ys) (hM : SM w W6 P mo va vs ad xs n) (z : Value) : RunsNew ((W6.setCell ⟨P, 4, none⟩ z).drew) base ys := fun p hp => Kd.R_drew (Kd.R_set (h p hp) hM.x (by decide) 4 z)
theorem put_kp {S : Nat → Prop} {u W6 : World} {P : Nat} (h : Kp S u W6) (hP : S P) (z : Value) : Kp S u ((W6.setCell ⟨P, 4, none⟩ z).drew) :=
  (h.trans (Kp.set W6 P 4 z) (fun _ e => e) (fun _ _ e => e ▸ hP)).trans (Kp.of_below (S := fun _ => False) (below_drew (Below.refl _ _))) (fun _ e => e) (fun _ _ e => e.elim)
theorem rows_read {w : World} {base c n : Nat} {A : Option Addr} {xs : List Sp} (h : SR w base (.slice A n c) xs) : ReadsRow ((Kd.raw 3).K w) 3 w A n (xs.map spR) := by
  obtain ⟨e, -, hC⟩ := Kd.R_reads' h
  rw [List.length_map] at e hC
  subst e
  exact hC
theorem row_shape {w : World} {base e : Nat} {ok : Nat → Prop} {v : Value} {xs : List (List Value)} (h : Kd.R (Kd.raw 3) e w base ok v xs) : ∃ A k c, v = .slice A k c := by
  obtain ⟨A, c, e⟩ := Kd.R_slice h
  exact ⟨_, _, _, e⟩
theorem sp_ne {w : World} {base P : Nat} {v a b c d e : Value} {xs : List Sp} (h : SR w base v xs) (hx : w.heap[P]? = some (.cells #[a, b, c, d, e] 71 (0, 0))) (hv : v.ownBlock = some P) : False := by
  obtain ⟨cells, hc⟩ := sp_ty h _ hv
  rw [hx] at hc
  cases hc
set_option maxRecDepth 100000 in
set_option maxHeartbeats 8000000 in
theorem put_ok {w u : World} {P mo n : Nat} {va vs : Value} {ad : List Int} {xs : List Sp} {s : ByteArray} {rl : List Rn} (h : SM w u P mo va vs ad xs n) (hp : PS ad (xs.map (·.o)) s rl) (hn : n = s.size) (hN : ad.length ≤ 1000000000) (hmo : mo ≤ 4096) (x : ByteArray) (m : List Rn) (A2 : Option Addr) (c2 : Nat) (hr : CC u A2 m) (hc : m.length ≤ c2) (hx : goodT x m = true) (a b : Nat) (hab : a ≤ b) (hb : b ≤ n) (hle : n - (b - a) + x.size ≤ mo) :
    Calls Try.prog 19 #[.pointer (some ⟨P, 0, none⟩), .int .i64 a, .int .i64 b, vT x (sv A2 m c2)] u fun e w' => e = .returned (.int .i64 0) ∧ ∃ va' vs' xs', AtB va' va u.heap.size ∧ SM w w' P mo va' vs' (ad ++ bytesOf x) xs' (n - (b - a) + x.size) ∧ xs'.map (·.o) = someC 0 a 0 (xs.map (·.o)) ++ midC ad.length x m ++ someC b n 0 (xs.map (·.o)) ∧ Kp (fun k => k = P ∨ va.ownBlock = some k) u w' ∧ RunsNew w' u.heap.size xs' := by
  obtain ⟨Aa, ca, hva⟩ : ∃ Aa ca, va = .slice Aa ad.length ca := by
    rcases h.a.2 with ⟨e, e2⟩ | ⟨g, cap, cur, e, -⟩
    · exact ⟨none, 0, by rw [e, e2]⟩
    · exact ⟨_, _, e⟩
  subst hva
  have hml : m.length ≤ 100000 := Nat.le_trans (good_len (goodT_good hx).1) (by decide)
  have hs4 := goodT_sz hp.gt
  have HN := Aside0.mk hN
  have HXS := Aside0.mk (goodT_sz hx)
  have HML' := Aside0.mk (goodT_good hx)
  have HPS := Aside0.mk hp
  have htt : tot (xs.map (·.o)) ≤ 4096 := by have := hp.tot; omega
  have HTT := Aside0.mk htt
  have hxl : xs.length ≤ 4096 := by have h1 := tot_len hp.g; rw [List.length_map] at h1; omega
  have hgx : ∀ q, q ∈ xs → GoodP ad.length q.o := fun q hq => hp.g _ (List.mem_map_of_mem hq)
  have HGD := Aside0.mk (fun (W : World) (k : PB w u W P mo (.slice Aa ad.length ca) vs ad xs n x (sv A2 m c2)) => good_w k.M)
  have HSG := Aside0.mk (fun (W : World) (k : PB w u W P mo (.slice Aa ad.length ca) vs ad xs n x (sv A2 m c2)) => strip_Good.calls (m.length + 2 + m.length) x A2 c2 m true W (Kd.C_below hr k.b) hc (by rw [goodT_k x m (by omega) _ (Nat.le_refl _), hx]))
  have HWI : Aside0 (∀ (W : World), PB w u W P mo (.slice Aa ad.length ca) vs ad xs n x (sv A2 m c2) → Calls Try.prog 37 #[.pointer (some ⟨P, 0, none⟩), .int .i64 a, .int .i64 b] W fun e w' => e = .returned (.bool true) ∧ Below W.heap.size W w') := ⟨fun W k => by
    have := within_w k.M (a : Int) (b : Int)
    rwa [decide_eq_true (⟨by omega, by omega, by omega⟩ : (0 : Int) ≤ a ∧ (a : Int) ≤ b ∧ (b : Int) ≤ n)] at this⟩
  have HP1 : Aside0 (∀ (W : World), PB w u W P mo (.slice Aa ad.length ca) vs ad xs n x (sv A2 m c2) → Calls Try.prog 38 #[.pointer (some ⟨P, 0, none⟩), .int .i64 0, .int .i64 a] W fun e w' => ∃ (out : List Sp) (A : Option Addr) (c : Nat), e = .returned (.slice A out.length c) ∧ out.map (·.o) = someC 0 a 0 (xs.map (·.o)) ∧ OS W w' (.slice A out.length c) out) := ⟨fun W k => pieces_w k.M (by omega) hgx htt hxl 0 a (by omega) (by omega)⟩
  have HP2 : Aside0 (∀ (W : World), PB w u W P mo (.slice Aa ad.length ca) vs ad xs n x (sv A2 m c2) → Calls Try.prog 38 #[.pointer (some ⟨P, 0, none⟩), .int .i64 b, .int .i64 n] W fun e w' => ∃ (out : List Sp) (A : Option Addr) (c : Nat), e = .returned (.slice A out.length c) ∧ out.map (·.o) = someC b n 0 (xs.map (·.o)) ∧ OS W w' (.slice A out.length c) out) := ⟨fun W k => pieces_w k.M (by omega) hgx htt hxl b n (by omega) (by omega)⟩
  have HSU := Aside0.mk h
  have HM := Aside0.mk (PB.start h x (sv A2 m c2))
  have HR := Aside0.mk hr
  have hw1 : IntKind.i64.wrap ((b : Int) - (a : Int)) = ((b - a : Nat) : Int) := by rw [wrap_ok _ (by omega)]; omega
  have hw2 : IntKind.i64.wrap ((n : Int) - ((b - a : Nat) : Int)) = ((n - (b - a) : Nat) : Int) := by rw [wrap_ok _ (by omega)]; omega
  have hw3 : IntKind.i64.wrap (((n - (b - a) : Nat) : Int) + (x.size : Int)) = ((n - (b - a) + x.size : Nat) : Int) := by rw [wrap_ok _ (by omega)]; omega
  have hle' : ((n - (b - a) + x.size : Nat) : Int) ≤ (mo : Int) := by omega
  have HWR := Aside0.mk (⟨hw1, by rw [wrap_ok _ (by omega)], by rw [wrap_ok _ (by omega)]; omega⟩ : IntKind.i64.wrap ((b : Int) - (a : Int)) = ((b - a : Nat) : Int) ∧ IntKind.i64.wrap ((x.size : Int) - ((b - a : Nat) : Int)) = (x.size : Int) - ((b - a : Nat) : Int) ∧ IntKind.i64.wrap ((n : Int) + ((x.size : Int) - ((b - a : Nat) : Int))) = ((n - (b - a) + x.size : Nat) : Int))
  have HWU := Aside0.mk h.b.size
  clear h hp hn hN hmo hr hx hab hb hle hs4 htt hxl hgx
  obtain ⟨s0, s1, s2, s3, s4⟩ := HM.out.M.cells; have sl := HM.out.M.lt; obtain ⟨t0, t1, -, -⟩ := HM.out.t.cells
  go_enter Try.func19, Try.ntmps19
  go_upto_region 5 with (first | (go_at_call 35; (with_reducible refine (HGD.out _ (HM.out.below ?sb)).mono ?_); (case sb => exact (by repeat (first | (with_reducible first | exact Below.refl _ _ | apply pw_below_drewN | apply below_alloc | apply below_drew) | exact Below.refl _ _))); rintro e w1 ⟨rfl, hb1⟩; have HM := Aside0.mk (HM.out.below (below_step (by repeat (first | (with_reducible first | exact Below.refl _ _ | apply pw_below_drewN | apply below_alloc | apply below_drew) | exact Below.refl _ _)) hb1)); clear hb1; clear s0 s1 s2 s3 s4 sl t0 t1; obtain ⟨s0, s1, s2, s3, s4⟩ := HM.out.M.cells; have sl := HM.out.M.lt; obtain ⟨t0, t1, -, -⟩ := HM.out.t.cells) | (go_at_call 36; (with_reducible refine (HSG.out _ (HM.out.below ?sb)).mono ?_); (case sb => exact (by repeat (first | (with_reducible first | exact Below.refl _ _ | apply pw_below_drewN | apply below_alloc | apply below_drew) | exact Below.refl _ _))); rintro e w2 ⟨rfl, hb2⟩; have HM := Aside0.mk (HM.out.below (below_step (by repeat (first | (with_reducible first | exact Below.refl _ _ | apply pw_below_drewN | apply below_alloc | apply below_drew) | exact Below.refl _ _)) hb2)); clear hb2; clear s0 s1 s2 s3 s4 sl t0 t1; obtain ⟨s0, s1, s2, s3, s4⟩ := HM.out.M.cells; have sl := HM.out.M.lt; obtain ⟨t0, t1, -, -⟩ := HM.out.t.cells) | (go_at_call 37; (with_reducible refine (HWI.out _ (HM.out.below ?sb)).mono ?_); (case sb => exact (by repeat (first | (with_reducible first | exact Below.refl _ _ | apply pw_below_drewN | apply below_alloc | apply below_drew) | exact Below.refl _ _))); rintro e w3 ⟨rfl, hb3⟩; have HM := Aside0.mk (HM.out.below (below_step (by repeat (first | (with_reducible first | exact Below.refl _ _ | apply pw_below_drewN | apply below_alloc | apply below_drew) | exact Below.refl _ _)) hb3)); clear hb3; clear s0 s1 s2 s3 s4 sl t0 t1; obtain ⟨s0, s1, s2, s3, s4⟩ := HM.out.M.cells; have sl := HM.out.M.lt; obtain ⟨t0, t1, -, -⟩ := HM.out.t.cells))
  go_region_held3 (fun w' => (w'.cell? ⟨P, 4, none⟩ = some (.int .i64 n) ∧ w'.cell? ⟨P, 1, none⟩ = some (.int .i64 mo)) ∧ w'.cell? ⟨u.heap.size, 0, none⟩ = some (.string x)) (first | exact ⟨⟨s4, s1⟩, t0⟩ | go_keep) (first | fail)
  have HM := Aside0.mk (HM.out.below (below_drew (Below.refl _ _)))
  clear s0 s1 s2 s3 s4 sl t0 t1
  obtain ⟨s0, s1, s2, s3, s4⟩ := HM.out.M.cells; have sl := HM.out.M.lt; obtain ⟨t0, t1, -, -⟩ := HM.out.t.cells
  go_upto_region 7 with (fail)
  go_cut [9, 10] (fun v9 v10 wc => ∃ (wc1 : World) (o1 o2 : List Sp) (A1 A3 : Option Addr) (c1 c3 : Nat), wc1 = wc ∧ v9 = .slice A1 o1.length c1 ∧ v10 = .slice A3 o2.length c3 ∧ Aside0 (PB w u wc1 P mo (.slice Aa ad.length ca) vs ad xs n x (sv A2 m c2)) ∧ Aside0 (OS u wc1 (.slice A1 o1.length c1) o1) ∧ Aside0 (OS u wc1 (.slice A3 o2.length c3) o2) ∧ Aside0 (o1.map (·.o) = someC 0 a 0 (xs.map (·.o)) ∧ o2.map (·.o) = someC b n 0 (xs.map (·.o))) ∧ Aside0 (∀ k, (Value.slice A1 o1.length c1).ownBlock = some k → (Value.slice A3 o2.length c3).ownBlock ≠ some k))
  case first =>
    go_region_held3 (fun w' => w'.cell? ⟨P, 4, none⟩ = some (.int .i64 n)) (first | exact s4 | exact HS4.out | go_keep) (first | (go_at_call 38; (with_reducible refine (HP1.out _ (HM.out.below ?sb)).mono ?_); (case sb => exact (by repeat (first | (with_reducible first | exact Below.refl _ _ | apply pw_below_drewN | apply below_alloc | apply below_drew) | exact Below.refl _ _))); rintro e w4 ⟨o1, A1, c1, rfl, hm1, ho1⟩; have HO1 := Aside0.mk (OS.of HM.out (by repeat (first | (with_reducible first | exact Below.refl _ _ | apply pw_below_drewN | apply below_alloc | apply below_drew) | exact Below.refl _ _)) ho1); have HLO1 := Aside0.mk (OS.own_in HM.out (by repeat (first | (with_reducible first | exact Below.refl _ _ | apply pw_below_drewN | apply below_alloc | apply below_drew) | exact Below.refl _ _)) ho1); (try (revert HO2; intro HO2; have HO2 := Aside0.mk (HO2.out.below (below_step (by repeat (first | (with_reducible first | exact Below.refl _ _ | apply pw_below_drewN | apply below_alloc | apply below_drew) | exact Below.refl _ _)) ho1.b)))); have HM := Aside0.mk (HM.out.below (below_step (by repeat (first | (with_reducible first | exact Below.refl _ _ | apply pw_below_drewN | apply below_alloc | apply below_drew) | exact Below.refl _ _)) ho1.b)); have HS4 := Aside0.mk HM.out.M.cells.2.2.2.2; have HC1 := Aside0.mk hm1; clear hm1 ho1) | (go_at_call 38; (with_reducible refine (HP2.out _ (HM.out.below ?sb)).mono ?_); (case sb => exact (by repeat (first | (with_reducible first | exact Below.refl _ _ | apply pw_below_drewN | apply below_alloc | apply below_drew) | exact Below.refl _ _))); rintro e w5 ⟨o2, A3, c3, rfl, hm1, ho1⟩; have HO2 := Aside0.mk (OS.of HM.out (by repeat (first | (with_reducible first | exact Below.refl _ _ | apply pw_below_drewN | apply below_alloc | apply below_drew) | exact Below.refl _ _)) ho1); have HLO2 := Aside0.mk (OS.own_in HM.out (by repeat (first | (with_reducible first | exact Below.refl _ _ | apply pw_below_drewN | apply below_alloc | apply below_drew) | exact Below.refl _ _)) ho1); (try (revert HO1; intro HO1; have HO1 := Aside0.mk (HO1.out.below (below_step (by repeat (first | (with_reducible first | exact Below.refl _ _ | apply pw_below_drewN | apply below_alloc | apply below_drew) | exact Below.refl _ _)) ho1.b)))); have HM := Aside0.mk (HM.out.below (below_step (by repeat (first | (with_reducible first | exact Below.refl _ _ | apply pw_below_drewN | apply below_alloc | apply below_drew) | exact Below.refl _ _)) ho1.b)); have HS4 := Aside0.mk HM.out.M.cells.2.2.2.2; have HC2 := Aside0.mk hm1; clear hm1 ho1))
    all_goals (go_wp2; go_meet)
    all_goals exact ⟨_, o1, o2, A1, A3, c1, c3, rfl, rfl, rfl, HM, HO1, HO2, ⟨HC1.out, HC2.out⟩, ⟨fun k h1 h3 => by have a1 := HLO1.out k h1; have a2 := HLO2.out k h3; omega⟩⟩
  case rest =>
    obtain ⟨wc1, o1, o2, A1, A3, c1, c3, rfl, rfl, rfl, HM, HO1, HO2, HC, HD⟩ := hcut
    clear s0 s1 s2 s3 s4 sl t0 t1
    clear HGD HSG HWI HP1 HP2 hw1 hw2 hw3 hle'
    have HG0 := Aside0.mk HM.out.b.size
    have HOL : Aside0 (o1.length ≤ 4096 ∧ o2.length ≤ 4096) := ⟨by
      have h1 := someC_len HPS.out.g 0 a
      have h2 := someC_len HPS.out.g b n
      rw [← HC.out.1, List.length_map] at h1
      rw [← HC.out.2, List.length_map] at h2
      exact ⟨Nat.le_trans h1 HTT.out, Nat.le_trans h2 HTT.out⟩⟩
    obtain ⟨s0, s1, s2, s3, s4⟩ := HM.out.M.cells; have sl := HM.out.M.lt; obtain ⟨t0, t1, -, -⟩ := HM.out.t.cells
    by_cases hz : 0 < x.size
    · have hzi : (0 : Int) < (x.size : Int) := by omega
      have HMID : Aside0 (midC ad.length x m = [⟨ad.length, x.size, m⟩]) := ⟨if_pos hz⟩
      have hmk := make_runs m.length hml
      clear hz
      go_upto_region 10 with (fail)
      have hgw := heap_alloc_new wc1 (.cells (madeCells #[.int .u64 0, .int .i64 0] (m.length * 2)) 29)
      have HB2 := fun cs : Array Value => (below_setRow (below_alloc (Below.refl _ _) _) (Nat.le_refl _) cs : Below wc1.heap.size wc1 ((wc1.alloc (.cells (madeCells #[.int .u64 0, .int .i64 0] (m.length * 2)) 29)).setRow wc1.heap.size cs))
      have HM2 := Aside0.mk (fun cs : Array Value => HM.out.below (HB2 cs))
      have HO12 := Aside0.mk (fun cs : Array Value => HO1.out.below (HB2 cs))
      have HO22 := Aside0.mk (fun cs : Array Value => HO2.out.below (HB2 cs))
      have HM := Aside0.mk (HM.out.below (below_alloc (Below.refl _ _) (.cells (madeCells #[.int .u64 0, .int .i64 0] (m.length * 2)) 29)))
      have hgu := HG0.out
      clear HB2 hmk HG0 HO1 HO2
      clear s0 s1 s2 s3 s4 sl t0 t1
      generalize wc1.heap.size = g at *
      generalize World.alloc wc1 _ = W1 at *
      obtain ⟨s0, s1, s2, s3, s4⟩ := HM.out.M.cells; have sl := HM.out.M.lt; obtain ⟨t0, t1, -, -⟩ := HM.out.t.cells
      have hC := Kd.C_below HR.out HM.out.b
      have hne : 0 < m.length := by
        have h1 := HML'.out.2
        cases m with
        | nil => rw [nB_nil] at h1; omega
        | cons => exact Nat.succ_pos _
      obtain ⟨ad2, rfl, -⟩ := hC.2.2 hne
      obtain ⟨news, hrep, hcell⟩ := ReadsRow.inner_ hC
      have hcr := fun ty : TypeId => copy_runs W1 22 22 ty 29 g m.length m.length ad2 c2 _ 29 news Try.underlying22 (by kernel_rfl) hgw hrep.1 hcell (by simp [size_madeCells]) (runs_one hrep)
      have hg2 := setRow_heap W1 g _ news.toArray _ _ hgw
      have HR2 := Aside0.mk (runs_of_copy (base := u.heap.size) hg2 hgu hrep hrep.1 hml)
      have HM2 := Aside0.mk (HM2.out news.toArray)
      have HO1 := Aside0.mk (HO12.out news.toArray)
      have HO2 := Aside0.mk (HO22.out news.toArray)
      clear hrep hcell hgw hg2 hC HO12 HO22
      go_upto_region 11 with (first | ((with_reducible refine gate_builtin (b := .copy) (xs := #[.tmp 63, .tmp 65]) rfl ?_); at_builtin; refine Lib.wpList_copy_run _ rfl (.tmp 63) (.tmp 65) 22 22 rfl _ _ rfl rfl (hcr _) ?_))
      clear s0 s1 s2 s3 s4 sl t0 t1
      have HM := Aside0.mk HM2.out
      clear HM2 hcr
      generalize World.setRow W1 g _ = W2 at *
      obtain ⟨s0, s1, s2, s3, s4⟩ := HM.out.M.cells; have sl := HM.out.M.lt; obtain ⟨t0, t1, -, -⟩ := HM.out.t.cells
      go_cut [9] (fun v9 wc => ∃ (wc1 : World) (v1 : Value), wc1 = wc ∧ v1 = v9 ∧ Aside0 (PB w u wc1 P mo (.slice Aa ad.length ca) vs ad xs n x (sv (some ad2) m c2)) ∧ Aside0 (OS u wc1 v1 (o1 ++ [⟨⟨ad.length, x.size, m⟩, some ⟨g, 0, none⟩, m.length⟩])) ∧ Aside0 (OS u wc1 (.slice A3 o2.length c3) o2) ∧ Aside0 (∀ k, v1.ownBlock = some k → (Value.slice A3 o2.length c3).ownBlock ≠ some k))
      case first =>
        have HM := Aside0.mk (HM.out.below (below_drew (Below.refl _ _)))
        have HO1 := Aside0.mk (HO1.out.below (below_drew (Below.refl _ _)))
        have HO2 := Aside0.mk (HO2.out.below (below_drew (Below.refl _ _)))
        have HR2 := Aside0.mk (Kd.R_drew HR2.out)
        go_region_held3 (fun w' => w'.cell? ⟨P, 2, none⟩ = some (.slice Aa ad.length ca) ∧ w'.cell? ⟨u.heap.size, 0, none⟩ = some (.string x)) (first | exact ⟨s2, t0⟩ | exact ⟨HP7.out.M.cells.2.2.1, HP7.out.t.cells.1⟩ | go_keep) (first | (rw [drew_alloc]; refine Kd.R_append_step (Kd.raw 3) (w0 := u) u.heap.size (by rfl) (.tmp 67) (.tmp 78) 69 83 (.agg #[.int .i64 0, .slice none 0 0, .int .i64 0]) 40 rfl Try.underlying69 (by kernel_rfl) rfl (by decide) (by omega) (.slice A1 o1.length c1) (o1.map spR) (spR ⟨⟨ad.length, x.size, m⟩, some ⟨g, 0, none⟩, m.length⟩) [.int .i64 (ad.length : Int), sv (some ⟨g, 0, none⟩) m m.length, .int .i64 (x.size : Int)] (fun _ => True) (fun _ => False) ?aH ?aX ?aP (fun _ hk => hk.elim) ?aF ?aO ?aB ?aS ?aL ?_; (case aH => rfl); (case aX => simp [Act.eval]); (case aP => exact ⟨rfl, rfl, fun u hu => by rcases List.mem_cons.1 hu with e | hu; (rw [e]; rfl); rcases List.mem_cons.1 hu with e | hu; (rw [e]; rfl); rcases List.mem_cons.1 hu with e | hu; (rw [e]; rfl); cases hu⟩); (case aB => exact HO1.out.b); (case aF => exact fun _ _ => trivial); (case aO => exact HO1.out.o); (case aS => exact HO1.out.b.size); (case aL => rw [List.length_map]; have := HOL.out.1; omega); intro v1 w12 ho hb hg hat; have HP7 := Aside0.mk (PB.app HSU.out HM.out HO1.out.o hg hb); have HQ2 := Aside0.mk (HO2.out.side HO1.out.o hg hb HD.out); have HQ1 := Aside0.mk (HO1.out.app ⟨⟨ad.length, x.size, m⟩, some ⟨g, 0, none⟩, m.length⟩ hg hb ho HR2.out); have HAT := Aside0.mk hat; clear ho hb hg hat))
        all_goals (go_wp2; go_meet)
        all_goals exact ⟨_, v1, rfl, rfl, HP7, HQ1, HQ2, ⟨dis_app HD.out HO2.out HAT.out⟩⟩
      case rest =>
        obtain ⟨wc1, v1, rfl, rfl, HM, HO1, HO2, HD⟩ := hcut
        clear s0 s1 s2 s3 s4 sl t0 t1
        obtain ⟨s0, s1, s2, s3, s4⟩ := HM.out.M.cells; have sl := HM.out.M.lt; obtain ⟨t0, t1, -, -⟩ := HM.out.t.cells
        go_upto_region 12 with (fail)
        have HQ := Aside0.mk (QB.of HM.out HO1.out HO2.out)
        have HUB := Aside0.mk HM.out.b.size
        clear HM HO1 HO2 HSU
        go_cut [87] (fun v87 wc => ∃ (wc1 : World) (vb : Value), wc1 = wc ∧ vb = v87 ∧ Aside0 (AtB vb (Value.slice Aa ad.length ca) u.heap.size) ∧ Aside0 (QB w u wc1 P mo (.slice Aa ad.length ca) vb vs (ad ++ bytesOf x) xs n x (sv (some ad2) m c2) v1 (o1 ++ [⟨⟨ad.length, x.size, m⟩, some ⟨g, 0, none⟩, m.length⟩]) (.slice A3 o2.length c3) o2))
        case first =>
          go_region_law (first | (refine step_append_str w.heap.size (by rfl) (.tmp 84) (.tmp 86) ?aO (.slice Aa ad.length ca) ad x ?aH ?aX ?aW ?aS ?aL ?_; (case aO => rfl); (case aH => rfl); (case aX => rfl); (case aW => exact HQ.out.M.a); (case aS => exact HQ.out.M.b.size); (case aL => have := HN.out; have := HXS.out; omega); intro v8 w13 ho hg hat; obtain ⟨A8, n8, c8, rfl⟩ := own_shape ho; have HAT := Aside0.mk (hat.imp id (fun ⟨b, e, h⟩ => ⟨b, e, Nat.le_trans HUB.out h⟩) : AtB (.slice A8 n8 c8) (.slice Aa ad.length ca) u.heap.size); have HQ2 := Aside0.mk (HQ.out.str hg ho rfl (below_drew (Below.refl _ _))); obtain ⟨k2, f2⟩ := str_cells HQ.out hg rfl; clear ho hg hat s2))
          all_goals (go_wp2; go_meet)
          all_goals exact ⟨_, _, rfl, rfl, HAT, HQ2⟩
        case rest =>
          obtain ⟨wc1, vb, rfl, rfl, HAT, HQ⟩ := hcut
          have HO1M : Aside0 ((o1 ++ [(⟨⟨ad.length, x.size, m⟩, some ⟨g, 0, none⟩, m.length⟩ : Sp)]).map (·.o) = someC 0 a 0 (xs.map (·.o)) ++ midC ad.length x m) := ⟨by rw [List.map_append, HC.out.1, HMID.out]; rfl⟩
          have HL1 : Aside0 ((o1 ++ [(⟨⟨ad.length, x.size, m⟩, some ⟨g, 0, none⟩, m.length⟩ : Sp)]).length ≤ 4097) := ⟨by rw [List.length_append, List.length_singleton]; have := HOL.out.1; omega⟩
          generalize o1 ++ [(⟨⟨ad.length, x.size, m⟩, some ⟨g, 0, none⟩, m.length⟩ : Sp)] = O1 at HQ HO1M HL1
          clear s0 s1 s2 s3 s4 sl t0 t1
          clear hzi
          clear HD
          have HUQ := Aside0.mk HQ.out.k.size
          obtain ⟨hw1, hw4, hw5⟩ := HWR.out
          go_upto_region 14 with (first | ((with_reducible refine gate_builtin (b := .append) (xs := #[.tmp 91, .tmp 92]) rfl ?_); at_builtin; refine Kd.R_append_rows (Kd.raw 3) (w0 := wc1) u.heap.size rfl (.tmp 91) (.tmp 92) 69 83 (.agg #[.int .i64 0, .slice none 0 0, .int .i64 0]) 40 rfl Try.underlying69 (by kernel_rfl) rfl (by decide) (by omega) v1 (O1.map spR) (o2.map spR) A3 o2.length c3 (fun _ => True) (fun _ => False) ?aH ?aX ?aO ?aR (fun _ _ h => h) (fun _ h => h.elim) ?aF ?aB ?aS ?aL ?_; (case aH => rfl); (case aX => rfl); (case aO => exact HQ.out.w1); (case aR => exact rows_read HQ.out.w2); (case aF => exact fun _ _ => trivial); (case aB => exact Below.refl _ _); (case aS => exact HUQ.out); (case aL => have h1 := HL1.out; have h2 := HOL.out.2; rw [List.length_map]; omega); intro v5 w5 ho hb hg hat; obtain ⟨A5, n5, c5, rfl⟩ := row_shape ho; have HR5 := Aside0.mk (HQ.out.rows hb HWU.out hg ho); have HN5 := Aside0.mk (HQ.out.rows2 (v' := .slice A5 n5 c5) hg); have hx5 := sp_app HQ.out.M.x HQ.out.w1 hg (fun e => sp_ne HQ.out.w1 HQ.out.M.x e); have k3 := cell_of_row w5 P 3 _ _ _ hx5; have f3 := frozen_of_row _ P 3 _ _ hx5; clear ho hb hg hat hx5))
          have HM := Aside0.mk HR5.out.1
          have HK := Aside0.mk HR5.out.2.1
          have HT := Aside0.mk HR5.out.2.2
          clear HR5 k3 f3
          generalize World.setCell w5 _ _ = W6 at HM HK HT HN5 ⊢
          obtain ⟨s0, s1, s2, s3, s4⟩ := HM.out.cells
          obtain ⟨t0, t1, -, -⟩ := HT.out.cells
          have f4 := frozen_of_row _ P 4 _ _ HM.out.x
          go_region_law (fail)
          all_goals go_wp2
          all_goals go_ret
          all_goals exact ⟨rfl, _, HAT.out, _, O1 ++ o2, put_fin HM.out _ _ (Int.natCast_add _ _).symm, by rw [List.map_append, HO1M.out, HC.out.2, List.append_assoc], put_kp HK.out (Or.inl rfl) _, HN5.out.fin HM.out _⟩
    · have hzi : ¬ (0 : Int) < (x.size : Int) := by omega
      have HMID : Aside0 (midC ad.length x m = []) := ⟨if_neg hz⟩
      have HAT : Aside0 (AtB (Value.slice Aa ad.length ca) (Value.slice Aa ad.length ca) u.heap.size) := ⟨Or.inl rfl⟩
      clear hz
      go_upto_region 13 with (fail)
      have hbo : bytesOf x = [] := List.eq_nil_of_length_eq_zero (by rw [bO_len]; omega)
      have HQ := Aside0.mk (QB.of HM.out HO1.out HO2.out)
      have HQ' : Aside0 (QB w u wc1 P mo (.slice Aa ad.length ca) (.slice Aa ad.length ca) vs (ad ++ bytesOf x) xs n x (sv A2 m c2) (.slice A1 o1.length c1) o1 (.slice A3 o2.length c3) o2) := ⟨by rw [hbo, List.append_nil]; exact HQ.out⟩
      have HO1M : Aside0 (o1.map (·.o) = someC 0 a 0 (xs.map (·.o)) ++ midC ad.length x m) := ⟨by rw [HMID.out, List.append_nil]; exact HC.out.1⟩
      have HL1 : Aside0 (o1.length ≤ 4097) := ⟨Nat.le_succ_of_le HOL.out.1⟩
      clear HQ hbo
      have HQ := Aside0.mk HQ'.out
      obtain ⟨v1, hv1⟩ : ∃ v, v = Value.slice A1 o1.length c1 := ⟨_, rfl⟩
      rw [← hv1] at HQ HD ⊢
      clear HQ' HM HO1 HO2 HSU hv1 hzi
      generalize o1 = O1 at *
      clear s0 s1 s2 s3 s4 sl t0 t1
      clear HD
      have HUQ := Aside0.mk HQ.out.k.size
      obtain ⟨hw1, hw4, hw5⟩ := HWR.out
      go_upto_region 14 with (first | ((with_reducible refine gate_builtin (b := .append) (xs := #[.tmp 91, .tmp 92]) rfl ?_); at_builtin; refine Kd.R_append_rows (Kd.raw 3) (w0 := wc1) u.heap.size rfl (.tmp 91) (.tmp 92) 69 83 (.agg #[.int .i64 0, .slice none 0 0, .int .i64 0]) 40 rfl Try.underlying69 (by kernel_rfl) rfl (by decide) (by omega) v1 (O1.map spR) (o2.map spR) A3 o2.length c3 (fun _ => True) (fun _ => False) ?aH ?aX ?aO ?aR (fun _ _ h => h) (fun _ h => h.elim) ?aF ?aB ?aS ?aL ?_; (case aH => rfl); (case aX => rfl); (case aO => exact HQ.out.w1); (case aR => exact rows_read HQ.out.w2); (case aF => exact fun _ _ => trivial); (case aB => exact Below.refl _ _); (case aS => exact HUQ.out); (case aL => have h1 := HL1.out; have h2 := HOL.out.2; rw [List.length_map]; omega); intro v5 w5 ho hb hg hat; obtain ⟨A5, n5, c5, rfl⟩ := row_shape ho; have HR5 := Aside0.mk (HQ.out.rows hb HWU.out hg ho); have HN5 := Aside0.mk (HQ.out.rows2 (v' := .slice A5 n5 c5) hg); have hx5 := sp_app HQ.out.M.x HQ.out.w1 hg (fun e => sp_ne HQ.out.w1 HQ.out.M.x e); have k3 := cell_of_row w5 P 3 _ _ _ hx5; have f3 := frozen_of_row _ P 3 _ _ hx5; clear ho hb hg hat hx5))
      have HM := Aside0.mk HR5.out.1
      have HK := Aside0.mk HR5.out.2.1
      have HT := Aside0.mk HR5.out.2.2
      clear HR5 k3 f3
      generalize World.setCell w5 _ _ = W6 at HM HK HT HN5 ⊢
      obtain ⟨s0, s1, s2, s3, s4⟩ := HM.out.cells
      obtain ⟨t0, t1, -, -⟩ := HT.out.cells
      have f4 := frozen_of_row _ P 4 _ _ HM.out.x
      go_region_law (fail)
      all_goals go_wp2
      all_goals go_ret
      all_goals exact ⟨rfl, _, HAT.out, _, O1 ++ o2, put_fin HM.out _ _ (Int.natCast_add _ _).symm, by rw [List.map_append, HO1M.out, HC.out.2, List.append_assoc], put_kp HK.out (Or.inl rfl) _, HN5.out.fin HM.out _⟩

end Go.Proofs.Ytgaggoglbkcomaa.Ext

set_option linter.unusedVariables false
set_option linter.unusedSimpArgs false
namespace Go.Proofs.Ytgaggoglbkcomaa.Ext
open Go.RowKit Go.Lib Go.Proofs.YtgaggoglbkcomaaW.PrintWords Go.Proofs.YtgaggoglbkcomaaW.PrintMore Go.Proofs.Ytgaggoglbkcomaa.XRR

set_option maxRecDepth 100000 in
set_option maxHeartbeats 8000000 in
theorem put_arg {w u : World} {P mo n : Nat} {va vs : Value} {ad : List Int} {xs : List Sp} (h : SM w u P mo va vs ad xs n) (x : ByteArray) (m : List Rn) (A2 : Option Addr) (c2 : Nat) (hr : CC u A2 m) (hc : m.length ≤ c2) (hml : m.length ≤ 8000000000000000000) (f t : Int) (hno : ¬ (goodT x m = true ∧ 0 ≤ f ∧ f ≤ t ∧ t ≤ (n : Int))) :
    Calls Try.prog 19 #[.pointer (some ⟨P, 0, none⟩), .int .i64 f, .int .i64 t, vT x (sv A2 m c2)] u fun e w' => e = .returned (.int .i64 2) ∧ SM w w' P mo va vs ad xs n ∧ Below u.heap.size u w' := by
  have HGD := Aside0.mk (fun (W : World) (k : PB w u W P mo va vs ad xs n x (sv A2 m c2)) => good_w k.M)
  have HSG := Aside0.mk (fun (W : World) (k : PB w u W P mo va vs ad xs n x (sv A2 m c2)) => strip_Good.calls (m.length + 2 + m.length) x A2 c2 m (goodT x m) W (Kd.C_below hr k.b) hc (goodT_k x m hml _ (Nat.le_refl _)))
  have HWI := Aside0.mk (fun (W : World) (k : PB w u W P mo va vs ad xs n x (sv A2 m c2)) => within_w k.M f t)
  have HM := Aside0.mk (PB.start h x (sv A2 m c2))
  clear h hr hml
  obtain ⟨s0, s1, s2, s3, s4⟩ := HM.out.M.cells; have sl := HM.out.M.lt; obtain ⟨t0, t1, -, -⟩ := HM.out.t.cells
  cases hg : goodT x m
  · rw [hg] at HSG
    clear hno hg
    go_enter Try.func19, Try.ntmps19
    go_wp2_with (first | (go_at_call 35; (with_reducible refine (HGD.out _ (HM.out.below ?sb)).mono ?_); (case sb => exact (by repeat (first | (with_reducible first | exact Below.refl _ _ | apply pw_below_drewN | apply below_alloc | apply below_drew) | exact Below.refl _ _))); rintro e w1 ⟨rfl, hb1⟩; have HM := Aside0.mk (HM.out.below (below_step (by repeat (first | (with_reducible first | exact Below.refl _ _ | apply pw_below_drewN | apply below_alloc | apply below_drew) | exact Below.refl _ _)) hb1)); clear hb1; clear s0 s1 s2 s3 s4 sl t0 t1; obtain ⟨s0, s1, s2, s3, s4⟩ := HM.out.M.cells; have sl := HM.out.M.lt; obtain ⟨t0, t1, -, -⟩ := HM.out.t.cells) | (go_at_call 36; (with_reducible refine (HSG.out _ (HM.out.below ?sb)).mono ?_); (case sb => exact (by repeat (first | (with_reducible first | exact Below.refl _ _ | apply pw_below_drewN | apply below_alloc | apply below_drew) | exact Below.refl _ _))); rintro e w2 ⟨rfl, hb2⟩; have HM := Aside0.mk (HM.out.below (below_step (by repeat (first | (with_reducible first | exact Below.refl _ _ | apply pw_below_drewN | apply below_alloc | apply below_drew) | exact Below.refl _ _)) hb2)); clear hb2; clear s0 s1 s2 s3 s4 sl t0 t1; obtain ⟨s0, s1, s2, s3, s4⟩ := HM.out.M.cells; have sl := HM.out.M.lt; obtain ⟨t0, t1, -, -⟩ := HM.out.t.cells) | (go_at_call 37; (with_reducible refine (HWI.out _ (HM.out.below ?sb)).mono ?_); (case sb => exact (by repeat (first | (with_reducible first | exact Below.refl _ _ | apply pw_below_drewN | apply below_alloc | apply below_drew) | exact Below.refl _ _))); rintro e w3 ⟨rfl, hb3⟩; have HM := Aside0.mk (HM.out.below (below_step (by repeat (first | (with_reducible first | exact Below.refl _ _ | apply pw_below_drewN | apply below_alloc | apply below_drew) | exact Below.refl _ _)) hb3)); clear hb3; clear s0 s1 s2 s3 s4 sl t0 t1; obtain ⟨s0, s1, s2, s3, s4⟩ := HM.out.M.cells; have sl := HM.out.M.lt; obtain ⟨t0, t1, -, -⟩ := HM.out.t.cells))
    go_ret
    exact ⟨rfl, HM.out.M, HM.out.b⟩
  · rw [hg] at HSG
    have hw : decide (0 ≤ f ∧ f ≤ t ∧ t ≤ (n : Int)) = false := decide_eq_false (fun hd => hno ⟨hg, hd⟩)
    rw [hw] at HWI
    clear hno hg hw
    go_enter Try.func19, Try.ntmps19
    go_wp2_with (first | (go_at_call 35; (with_reducible refine (HGD.out _ (HM.out.below ?sb)).mono ?_); (case sb => exact (by repeat (first | (with_reducible first | exact Below.refl _ _ | apply pw_below_drewN | apply below_alloc | apply below_drew) | exact Below.refl _ _))); rintro e w1 ⟨rfl, hb1⟩; have HM := Aside0.mk (HM.out.below (below_step (by repeat (first | (with_reducible first | exact Below.refl _ _ | apply pw_below_drewN | apply below_alloc | apply below_drew) | exact Below.refl _ _)) hb1)); clear hb1; clear s0 s1 s2 s3 s4 sl t0 t1; obtain ⟨s0, s1, s2, s3, s4⟩ := HM.out.M.cells; have sl := HM.out.M.lt; obtain ⟨t0, t1, -, -⟩ := HM.out.t.cells) | (go_at_call 36; (with_reducible refine (HSG.out _ (HM.out.below ?sb)).mono ?_); (case sb => exact (by repeat (first | (with_reducible first | exact Below.refl _ _ | apply pw_below_drewN | apply below_alloc | apply below_drew) | exact Below.refl _ _))); rintro e w2 ⟨rfl, hb2⟩; have HM := Aside0.mk (HM.out.below (below_step (by repeat (first | (with_reducible first | exact Below.refl _ _ | apply pw_below_drewN | apply below_alloc | apply below_drew) | exact Below.refl _ _)) hb2)); clear hb2; clear s0 s1 s2 s3 s4 sl t0 t1; obtain ⟨s0, s1, s2, s3, s4⟩ := HM.out.M.cells; have sl := HM.out.M.lt; obtain ⟨t0, t1, -, -⟩ := HM.out.t.cells) | (go_at_call 37; (with_reducible refine (HWI.out _ (HM.out.below ?sb)).mono ?_); (case sb => exact (by repeat (first | (with_reducible first | exact Below.refl _ _ | apply pw_below_drewN | apply below_alloc | apply below_drew) | exact Below.refl _ _))); rintro e w3 ⟨rfl, hb3⟩; have HM := Aside0.mk (HM.out.below (below_step (by repeat (first | (with_reducible first | exact Below.refl _ _ | apply pw_below_drewN | apply below_alloc | apply below_drew) | exact Below.refl _ _)) hb3)); clear hb3; clear s0 s1 s2 s3 s4 sl t0 t1; obtain ⟨s0, s1, s2, s3, s4⟩ := HM.out.M.cells; have sl := HM.out.M.lt; obtain ⟨t0, t1, -, -⟩ := HM.out.t.cells))
    go_ret
    exact ⟨rfl, HM.out.M, HM.out.b⟩
set_option maxRecDepth 100000 in
set_option maxHeartbeats 8000000 in
theorem put_full {w u : World} {P mo n : Nat} {va vs : Value} {ad : List Int} {xs : List Sp} (h : SM w u P mo va vs ad xs n) (hmo : mo ≤ 4096) (hn4 : n ≤ 4096) (x : ByteArray) (m : List Rn) (A2 : Option Addr) (c2 : Nat) (hr : CC u A2 m) (hc : m.length ≤ c2) (hx : goodT x m = true) (a b : Nat) (hab : a ≤ b) (hb : b ≤ n) (hle : mo < n - (b - a) + x.size) :
    Calls Try.prog 19 #[.pointer (some ⟨P, 0, none⟩), .int .i64 a, .int .i64 b, vT x (sv A2 m c2)] u fun e w' => e = .returned (.int .i64 4) ∧ SM w w' P mo va vs ad xs n ∧ Below u.heap.size u w' := by
  have hml := good_len (goodT_good hx).1
  have hxs := goodT_sz hx
  have HGD := Aside0.mk (fun (W : World) (k : PB w u W P mo va vs ad xs n x (sv A2 m c2)) => good_w k.M)
  have HSG := Aside0.mk (fun (W : World) (k : PB w u W P mo va vs ad xs n x (sv A2 m c2)) => strip_Good.calls (m.length + 2 + m.length) x A2 c2 m true W (Kd.C_below hr k.b) hc (by rw [goodT_k x m (by omega) _ (Nat.le_refl _), hx]))
  have HWI : Aside0 (∀ (W : World), PB w u W P mo va vs ad xs n x (sv A2 m c2) → Calls Try.prog 37 #[.pointer (some ⟨P, 0, none⟩), .int .i64 a, .int .i64 b] W fun e w' => e = .returned (.bool true) ∧ Below W.heap.size W w') := ⟨fun W k => by
    have := within_w k.M (a : Int) (b : Int)
    rwa [decide_eq_true (⟨by omega, by omega, by omega⟩ : (0 : Int) ≤ a ∧ (a : Int) ≤ b ∧ (b : Int) ≤ n)] at this⟩
  have HM := Aside0.mk (PB.start h x (sv A2 m c2))
  have hw1 : IntKind.i64.wrap ((b : Int) - (a : Int)) = ((b - a : Nat) : Int) := by rw [wrap_ok _ (by omega)]; omega
  have hw2 : IntKind.i64.wrap ((n : Int) - ((b - a : Nat) : Int)) = ((n - (b - a) : Nat) : Int) := by rw [wrap_ok _ (by omega)]; omega
  have hw3 : IntKind.i64.wrap (((n - (b - a) : Nat) : Int) + (x.size : Int)) = ((n - (b - a) + x.size : Nat) : Int) := by rw [wrap_ok _ (by omega)]; omega
  have hle' : (mo : Int) < ((n - (b - a) : Nat) : Int) + (x.size : Int) := by omega
  clear h hmo hn4 hr hx hab hb hle hxs hml
  obtain ⟨s0, s1, s2, s3, s4⟩ := HM.out.M.cells; have sl := HM.out.M.lt; obtain ⟨t0, t1, -, -⟩ := HM.out.t.cells
  go_enter Try.func19, Try.ntmps19
  go_upto_region 5 with (first | (go_at_call 35; (with_reducible refine (HGD.out _ (HM.out.below ?sb)).mono ?_); (case sb => exact (by repeat (first | (with_reducible first | exact Below.refl _ _ | apply pw_below_drewN | apply below_alloc | apply below_drew) | exact Below.refl _ _))); rintro e w1 ⟨rfl, hb1⟩; have HM := Aside0.mk (HM.out.below (below_step (by repeat (first | (with_reducible first | exact Below.refl _ _ | apply pw_below_drewN | apply below_alloc | apply below_drew) | exact Below.refl _ _)) hb1)); clear hb1; clear s0 s1 s2 s3 s4 sl t0 t1; obtain ⟨s0, s1, s2, s3, s4⟩ := HM.out.M.cells; have sl := HM.out.M.lt; obtain ⟨t0, t1, -, -⟩ := HM.out.t.cells) | (go_at_call 36; (with_reducible refine (HSG.out _ (HM.out.below ?sb)).mono ?_); (case sb => exact (by repeat (first | (with_reducible first | exact Below.refl _ _ | apply pw_below_drewN | apply below_alloc | apply below_drew) | exact Below.refl _ _))); rintro e w2 ⟨rfl, hb2⟩; have HM := Aside0.mk (HM.out.below (below_step (by repeat (first | (with_reducible first | exact Below.refl _ _ | apply pw_below_drewN | apply below_alloc | apply below_drew) | exact Below.refl _ _)) hb2)); clear hb2; clear s0 s1 s2 s3 s4 sl t0 t1; obtain ⟨s0, s1, s2, s3, s4⟩ := HM.out.M.cells; have sl := HM.out.M.lt; obtain ⟨t0, t1, -, -⟩ := HM.out.t.cells) | (go_at_call 37; (with_reducible refine (HWI.out _ (HM.out.below ?sb)).mono ?_); (case sb => exact (by repeat (first | (with_reducible first | exact Below.refl _ _ | apply pw_below_drewN | apply below_alloc | apply below_drew) | exact Below.refl _ _))); rintro e w3 ⟨rfl, hb3⟩; have HM := Aside0.mk (HM.out.below (below_step (by repeat (first | (with_reducible first | exact Below.refl _ _ | apply pw_below_drewN | apply below_alloc | apply below_drew) | exact Below.refl _ _)) hb3)); clear hb3; clear s0 s1 s2 s3 s4 sl t0 t1; obtain ⟨s0, s1, s2, s3, s4⟩ := HM.out.M.cells; have sl := HM.out.M.lt; obtain ⟨t0, t1, -, -⟩ := HM.out.t.cells))
  go_region_held3 (fun w' => (w'.cell? ⟨P, 4, none⟩ = some (.int .i64 n) ∧ w'.cell? ⟨P, 1, none⟩ = some (.int .i64 mo)) ∧ w'.cell? ⟨u.heap.size, 0, none⟩ = some (.string x)) (first | exact ⟨⟨s4, s1⟩, t0⟩ | go_keep) (first | fail)
  have HM := Aside0.mk (HM.out.below (below_drew (Below.refl _ _)))
  clear s0 s1 s2 s3 s4 sl t0 t1
  obtain ⟨s0, s1, s2, s3, s4⟩ := HM.out.M.cells; have sl := HM.out.M.lt; obtain ⟨t0, t1, -, -⟩ := HM.out.t.cells
  go_wp2
  go_ret
  exact ⟨rfl, HM.out.M, HM.out.b⟩

end Go.Proofs.Ytgaggoglbkcomaa.Ext

set_option linter.unusedVariables false
set_option linter.unusedSimpArgs false
namespace Go.Proofs.Ytgaggoglbkcomaa.Ext
open Go.RowKit Go.Lib Go.Proofs.YtgaggoglbkcomaaW.PrintWords Go.Proofs.YtgaggoglbkcomaaW.PrintMore Go.Proofs.Ytgaggoglbkcomaa.XRR

theorem SM.new {w u : World} (hb : Below w.heap.size w u) (mo : Nat) : SM w (u.alloc (.cells #[.bool true, .int .i64 mo, .slice none 0 0, .slice none 0 0, .int .i64 0] 71)) u.heap.size mo (.slice none 0 0) (.slice none 0 0) [] [] 0 :=
  ⟨below_alloc hb _, heap_alloc_new _ _, hb.size, World.ownsRow_nil _ _ _ _, Kd.R_nil _ _ _ _ _, fun p hp => (List.not_mem_nil hp).elim⟩
set_option maxRecDepth 100000 in
theorem new_ok {w u : World} (hb : Below w.heap.size w u) (mo : Nat) (hmo : mo ≤ 4096) :
    Calls Try.prog 18 #[.int .i64 mo] u fun e w' => e = .returned (.pointer (some ⟨u.heap.size, 0, none⟩)) ∧ SM w w' u.heap.size mo (.slice none 0 0) (.slice none 0 0) [] [] 0 ∧ Below u.heap.size u w' := by
  have h1 : ¬ ((mo : Int) < 0) := by omega
  have h2 : (mo : Int) ≤ 4096 := by omega
  have HB := Aside0.mk hb
  clear hb hmo
  go_enter Try.func18, Try.ntmps18
  go_wp2
  go_ret
  exact ⟨rfl, SM.new HB.out mo, below_alloc (Below.refl _ _) _⟩
set_option maxRecDepth 100000 in
theorem new_no {u : World} (z : Int) (hz : z < 0 ∨ 4096 < z) :
    Calls Try.prog 18 #[.int .i64 z] u fun e w' => e = .returned (.pointer none) ∧ Below u.heap.size u w' := by
  by_cases h1 : z < 0
  · clear hz
    go_enter Try.func18, Try.ntmps18
    go_wp2
    go_ret
    exact ⟨rfl, Below.refl _ _⟩
  · have h2 : 4096 < z := by omega
    clear hz
    go_enter Try.func18, Try.ntmps18
    go_wp2
    go_ret
    exact ⟨rfl, Below.refl _ _⟩
set_option maxRecDepth 100000 in
theorem len_w {w u : World} {P mo n : Nat} {va vs : Value} {ad : List Int} {xs : List Sp} (h : SM w u P mo va vs ad xs n) :
    Calls Try.prog 24 #[.pointer (some ⟨P, 0, none⟩)] u fun e w' => e = .returned (.int .i64 n) ∧ Below u.heap.size u w' := by
  have HGD := Aside0.mk (fun (W : World) (k : SM w W P mo va vs ad xs n) => good_w k)
  have HM := Aside0.mk h
  have HB := Aside0.mk (Below.refl u.heap.size u)
  clear h
  obtain ⟨s0, s1, s2, s3, s4⟩ := HM.out.cells; have sl := HM.out.lt
  go_enter Try.func24, Try.ntmps24
  go_wp2_with (first | (go_at_call 35; (with_reducible refine (HGD.out _ HM.out).mono ?_); rintro e w1 ⟨rfl, hb1⟩; have HM := Aside0.mk (HM.out.below hb1); have HB := Aside0.mk (below_step HB.out hb1); clear hb1 s0 s1 s2 s3 s4 sl; obtain ⟨s0, s1, s2, s3, s4⟩ := HM.out.cells; have sl := HM.out.lt))
  go_ret
  exact ⟨rfl, HB.out⟩
set_option maxRecDepth 100000 in
theorem room_w {w u : World} {P mo n : Nat} {va vs : Value} {ad : List Int} {xs : List Sp} (h : SM w u P mo va vs ad xs n) (hmo : mo ≤ 4096) (hn : n ≤ 4096) :
    Calls Try.prog 25 #[.pointer (some ⟨P, 0, none⟩)] u fun e w' => e = .returned (.int .i64 ((mo : Int) - n)) ∧ Below u.heap.size u w' := by
  have HGD := Aside0.mk (fun (W : World) (k : SM w W P mo va vs ad xs n) => good_w k)
  have HM := Aside0.mk h
  have HB := Aside0.mk (Below.refl u.heap.size u)
  have hw : IntKind.i64.wrap ((mo : Int) - (n : Int)) = (mo : Int) - n := by rw [wrap_ok _ (by omega)]
  clear h hmo hn
  obtain ⟨s0, s1, s2, s3, s4⟩ := HM.out.cells; have sl := HM.out.lt
  go_enter Try.func25, Try.ntmps25
  go_wp2_with (first | (go_at_call 35; (with_reducible refine (HGD.out _ HM.out).mono ?_); rintro e w1 ⟨rfl, hb1⟩; have HM := Aside0.mk (HM.out.below hb1); have HB := Aside0.mk (below_step HB.out hb1); clear hb1 s0 s1 s2 s3 s4 sl; obtain ⟨s0, s1, s2, s3, s4⟩ := HM.out.cells; have sl := HM.out.lt))
  go_region_held3 (fun w' => w'.cell? ⟨P, 1, none⟩ = some (.int .i64 mo) ∧ w'.cell? ⟨P, 4, none⟩ = some (.int .i64 n)) (first | exact ⟨s1, s4⟩ | go_keep) (first | fail)
  go_wp2
  go_ret
  exact ⟨rfl, below_drew HB.out⟩

end Go.Proofs.Ytgaggoglbkcomaa.Ext

set_option linter.unusedVariables false
set_option linter.unusedSimpArgs false
namespace Go.Proofs.Ytgaggoglbkcomaa.Ext
open Go.RowKit Go.Lib Go.Proofs.YtgaggoglbkcomaaW.PrintWords Go.Proofs.YtgaggoglbkcomaaW.PrintMore Go.Proofs.Ytgaggoglbkcomaa.XRR

theorem two_set' {B T : Nat} {w : World} {a b : Value} (hT : B ≤ T) : Below B w ((w.setCell ⟨T, 0, none⟩ a).setCell ⟨T, 1, none⟩ b) :=
  ((Below.refl B w).setCell (p := ⟨T, 0, none⟩) hT _).setCell (p := ⟨T, 1, none⟩) hT _
theorem SM.box {w wr : World} {P mo n T : Nat} {va vs v : Value} {ad : List Int} {xs : List Sp} {s : ByteArray} (h : SM w wr P mo va vs ad xs n) (hx : BX wr T s v) (hT : w.heap.size ≤ T) (a b : Value) : SM w ((wr.setCell ⟨T, 0, none⟩ a).setCell ⟨T, 1, none⟩ b) P mo va vs ad xs n := by
  refine h.kp (S := fun k => k = T) (two_set' hT) ((Kp.set wr T 0 a).trans (Kp.set _ T 1 b) (fun _ e => e) (fun _ _ e => e)) ?_ ?_ ?_
  · intro e
    have h1 := hx.x
    rw [← e, h.x] at h1
    cases h1
  · intro g e e'
    obtain ⟨c, hc⟩ := own_typed h.a g e
    rw [e', hx.x] at hc
    cases hc
  · intro g e cells q hc
    rw [e, hx.x] at hc
    cases hc
    exact ⟨by decide, by decide⟩
set_option maxRecDepth 100000 in
set_option maxHeartbeats 4000000 in
theorem cut_arg {w u : World} {P mo n : Nat} {va vs : Value} {ad : List Int} {xs : List Sp} (h : SM w u P mo va vs ad xs n) (f t : Int) (hno : ¬ (0 ≤ f ∧ f ≤ t ∧ t ≤ (n : Int))) :
    Calls Try.prog 21 #[.pointer (some ⟨P, 0, none⟩), .int .i64 f, .int .i64 t] u fun e w' => e = .returned (.tuple #[vT ⟨#[]⟩ (.slice none 0 0), .int .i64 2]) ∧ SM w w' P mo va vs ad xs n ∧ Below u.heap.size u w' := by
  have HGD := Aside0.mk (fun (W : World) (k : SM w W P mo va vs ad xs n) => good_w k)
  have HWI := Aside0.mk (fun (W : World) (k : SM w W P mo va vs ad xs n) => within_w k f t)
  rw [decide_eq_false hno] at HWI
  have HWU := Aside0.mk h.b.size
  have HB := Aside0.mk (below_alloc (Below.refl u.heap.size u) (.cells #[.string ⟨#[]⟩, .slice none 0 0] 24))
  have HX : Aside0 (BX (u.alloc (.cells #[.string ⟨#[]⟩, .slice none 0 0] 24)) u.heap.size ⟨#[]⟩ (.slice none 0 0)) := ⟨⟨heap_alloc_new _ _⟩⟩
  have HM := Aside0.mk (h.below (below_alloc (Below.refl _ _) (.cells #[.string ⟨#[]⟩, .slice none 0 0] 24)))
  clear h hno
  obtain ⟨s0, s1, s2, s3, s4⟩ := HM.out.cells; have sl := HM.out.lt; obtain ⟨x0, x1, x2, x3⟩ := HX.out.cells; have xl := HX.out.lt
  go_enter Try.func21, Try.ntmps21
  go_wp2_with (first | (go_at_call 35; (with_reducible refine (HGD.out _ HM.out).mono ?_); rintro e w1 ⟨rfl, hb1⟩; have HM := Aside0.mk (HM.out.below hb1); have HX := Aside0.mk (HX.out.below hb1); have HB := Aside0.mk (below_step HB.out hb1); clear hb1 s0 s1 s2 s3 s4 sl x0 x1 x2 x3 xl; obtain ⟨s0, s1, s2, s3, s4⟩ := HM.out.cells; have sl := HM.out.lt; obtain ⟨x0, x1, x2, x3⟩ := HX.out.cells; have xl := HX.out.lt) | (go_at_call 37; (with_reducible refine (HWI.out _ HM.out).mono ?_); rintro e w1 ⟨rfl, hb1⟩; have HM := Aside0.mk (HM.out.below hb1); have HX := Aside0.mk (HX.out.below hb1); have HB := Aside0.mk (below_step HB.out hb1); clear hb1 s0 s1 s2 s3 s4 sl x0 x1 x2 x3 xl; obtain ⟨s0, s1, s2, s3, s4⟩ := HM.out.cells; have sl := HM.out.lt; obtain ⟨x0, x1, x2, x3⟩ := HX.out.cells; have xl := HX.out.lt))
  have hx2 := heap_setCell_same _ u.heap.size 1 _ _ (.slice none 0 0) (heap_setCell_same _ u.heap.size 0 _ _ (.string ⟨#[]⟩) HX.out.x)
  have c0 := cell_of_row _ u.heap.size 0 _ _ _ hx2
  have c1 := cell_of_row _ u.heap.size 1 _ _ _ hx2
  exact bodyPost_ret (v := .tuple #[vT ⟨#[]⟩ (.slice none 0 0), .int .i64 2]) (by simp [results, Try.results21, go_sem, c0, c1]) rfl ⟨rfl, HM.out.box HX.out HWU.out _ _, two_set HB.out (Nat.le_refl _)⟩

end Go.Proofs.Ytgaggoglbkcomaa.Ext

set_option linter.unusedVariables false
set_option linter.unusedSimpArgs false
namespace Go.Proofs.Ytgaggoglbkcomaa.Ext
open Go.RowKit Go.Lib Go.Proofs.YtgaggoglbkcomaaW.PrintWords Go.Proofs.YtgaggoglbkcomaaW.PrintMore Go.Proofs.Ytgaggoglbkcomaa.XRR

structure CB (w u wr : World) (P mo : Nat) (va vs : Value) (ad : List Int) (xs : List Sp) (n T bb : Nat) (p v : Value) (bs : List Value) (vz : Value) (zs : List Sp) (vr : Value) (r : List Rn) : Prop where
  M : SM w u P mo va vs ad xs n
  b : Below u.heap.size u wr
  T : BX wr T ⟨#[]⟩ (.slice none 0 0)
  B : BS u.heap.size wr bb p v bs
  z : OS u wr vz zs
  r : RR wr u.heap.size vr r
theorem BS.below {base : Nat} {w w' : World} {b : Nat} {p v : Value} {bs : List Value} (h : BS base w b p v bs) (hb : Below w.heap.size w w') : BS base w' b p v bs :=
  ⟨h.le, (hb.block b h.lt).trans h.x, own_keep h.o (Kp.of_below (S := fun _ => False) hb) (fun _ _ e => e), h.ne⟩
theorem CB.below {w u wr w' : World} {P mo n T bb : Nat} {va vs p v vz vr : Value} {ad : List Int} {xs zs : List Sp} {bs : List Value} {r : List Rn} (h : CB w u wr P mo va vs ad xs n T bb p v bs vz zs vr r) (hb : Below wr.heap.size wr w') : CB w u w' P mo va vs ad xs n T bb p v bs vz zs vr r :=
  ⟨h.M, below_step h.b hb, h.T.below hb, h.B.below hb, h.z.below hb, Kd.R_below h.r hb⟩
theorem CB.store {w u wr : World} {P mo n T bb : Nat} {va vs p v vz vr : Value} {ad : List Int} {xs zs : List Sp} {bs : List Value} {r : List Rn} (h : CB w u wr P mo va vs ad xs n T bb p v bs vz zs vr r) : SM w wr P mo va vs ad xs n := h.M.below h.b
/-- Behind a Write. -/
theorem CB.write {w u wr w' : World} {P mo n T bb : Nat} {va vs p p' v v' vz vr : Value} {ad : List Int} {xs zs : List Sp} {bs bs' : List Value} {r : List Rn} (h : CB w u wr P mo va vs ad xs n T bb p v bs vz zs vr r) (hB : BS u.heap.size w' bb p' v' bs') (hk : Kp (fun k => k = bb ∨ v.ownBlock = some k) wr w') (hb : Below u.heap.size wr w') : CB w u w' P mo va vs ad xs n T bb p' v' bs' vz zs vr r := by
  have ty : ∀ g, (g = bb ∨ v.ownBlock = some g) → ∀ q, (q = 83 ∨ q = 29 ∨ q = 24) → ∀ cells, wr.heap[g]? ≠ some (.cells cells q (0, 0)) := by
    intro g hg q hq cells hc
    rcases hg with rfl | hg
    · rw [h.B.x] at hc
      rcases hq with e | e | e <;> (subst e; cases hc)
    · obtain ⟨cells', hc'⟩ := own_typed h.B.o g hg
      rw [hc'] at hc
      rcases hq with e | e | e <;> (subst e; cases hc)
  have kr : ∀ {base : Nat} {y : Value} {l : List Rn}, RR wr base y l → RR w' base y l := fun hr => R_keep hr hk (fun g hg q hq => by
    rcases List.mem_cons.1 hq with e | e
    · exact ty g hg q (.inr (.inl e))
    · exact (List.not_mem_nil e).elim)
  have ks : ∀ {base : Nat} {y : Value} {l : List Sp}, SR wr base y l → SR w' base y l := fun hr => R_keep hr hk (fun g hg q hq => by
    rcases List.mem_cons.1 hq with e | e
    · exact ty g hg q (.inl e)
    · exact (List.not_mem_nil e).elim)
  refine ⟨h.M, h.b.trans hb, ⟨?_⟩, hB, ⟨h.z.b.trans hb, ks h.z.o, fun q hq => kr (h.z.r q hq)⟩, kr h.r⟩
  exact (hk.block _ (Array.getElem?_eq_some_iff.1 h.T.x).1 (fun e => ty _ e _ (.inr (.inr rfl)) _ h.T.x)).trans h.T.x

end Go.Proofs.Ytgaggoglbkcomaa.Ext
