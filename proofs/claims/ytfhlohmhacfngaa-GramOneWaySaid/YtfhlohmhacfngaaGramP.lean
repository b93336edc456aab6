/- The grammar's first key, and Parse, each by its walk. -/
import Derived.Test.YtfhlohmhacfngaaProg
import Derived.WalkKit
import Derived.WalkMore
import Derived.Deep.RegionWith
import Derived.BigQuiet
import Derived.Below
import Derived.KernelRfl
import Derived.Laws.Rows
import Derived.Laws.EntriesVeiled
import Derived.Test.YtfhlohmhacfngaaWWords
import Derived.Test.YtfhlohmhacfngaaGramU
set_option linter.unusedVariables false
set_option linter.unusedSimpArgs false
namespace Go.Proofs.Ytfhlohmhacfngaa.Ext
open Go.RowKit Go.Lib Go.Proofs.YtfhlohmhacfngaaW.PrintWords

set_option maxRecDepth 100000 in
set_option maxHeartbeats 2000000 in
theorem name1_w (B R b : Nat) (s : St) (vis : Bool) (v : Value) (k : Int) (w : World) (hB : B ≤ R) (hR : Row w R s vis v) (n1 : b ≠ R) (k1 : w.cell? ⟨b, 0, none⟩ = some (.pointer (some ⟨R, 0, none⟩))) :
    Calls Try.prog 21 #[.int .i32 k, .pointer (some ⟨b, 0, none⟩)] w (Stp B R vis (if nameZ k = true then { s with reg := k, nx := .verb } else endsS s false) w) := by
  have lb : b < w.heap.size := World.block_lt_of_cell? w _ k1
  have IN := fun w => name_w k w
  have hlt := hR.lt
  have HR := Aside0.mk hR
  have HB := Aside0.mk hB
  clear hR hB
  cases hn : nameZ k
  · simp only [hn] at IN
    simp only [Bool.false_eq_true, if_false]
    go_enter Try.func21, Try.ntmps21
    go_wp2_with (first
      | (go_at_call 22; refine (IN _).mono ?_; rintro e w1 ⟨rfl, hb1⟩; have k1' := (hb1.cell (p := ⟨b, 0, none⟩) lb).trans k1)
      | (go_at_call 23; refine (ends_w B R s vis v false _ HB.out (HR.out.below hb1)).mono ?_; rintro e w2 ⟨rfl, hR2, hB2⟩))
    go_end0
    exact ⟨rfl, v, hR2, fun h => by simp [endsS] at h, (hb1.mono (by have := HB.out; omega)).trans hB2⟩
  · simp only [hn] at IN
    simp only [if_true]
    go_enter Try.func21, Try.ntmps21
    go_wp2_with (go_at_call 22; refine (IN _).mono ?_; rintro e w1 ⟨rfl, hb1⟩; have k1' := (hb1.cell (p := ⟨b, 0, none⟩) lb).trans k1; have hR1 := HR.out.below hb1; obtain ⟨g0, g1, g2, g3, g4, g5, g6, g7, g8, g9⟩ := hR1.cells; have hf1 := hR1.frozen; have m1 : ∀ x, (w1.setCell ⟨R, 0, none⟩ x).cell? ⟨b, 0, none⟩ = some (.pointer (some ⟨R, 0, none⟩)) := fun x => by rw [World.cell?_setCell_other _ _ _ _ (by simp <;> omega)]; exact k1')
    go_end0
    exact ⟨rfl, _, Row.set (Row.set hR1 0 _) 9 _, fun _ => rfl, ((hb1.mono (by have := HB.out; omega)).setCell HB.out _).setCell HB.out _⟩

set_option maxRecDepth 100000 in
set_option maxHeartbeats 2000000 in
theorem first_w (B R : Nat) (s : St) (vis : Bool) (v : Value) (k : Int) (w : World) (hB : B ≤ R) (hR : Row w R s vis v) (hbd : Bd s) :
    Calls Try.prog 17 #[.pointer (some ⟨R, 0, none⟩), .int .i32 k] w (Stp B R vis (if k = 34 then { s with nx := .name } else verbS vis { s with nx := .verb } k) w) := by
  have hlt := hR.lt
  obtain ⟨h0, h1, h2, h3, h4, h5, h6, h7, h8, h9⟩ := hR.cells
  have hf := hR.frozen
  have HR := Aside0.mk hR
  have hrow : ∀ x, ((w.setCell ⟨R, 9, none⟩ x).alloc (.cells #[.pointer (some ⟨R, 0, none⟩)] 40)).heap[R]? = some (.cells ((cs s vis v).setIfInBounds 9 x) 43 (0, 0)) := fun x => by
    rw [heap_alloc_old _ _ (by simp <;> omega)]; exact Row.set HR.out 9 x
  have q9 : ∀ x, ((w.setCell ⟨R, 9, none⟩ x).alloc (.cells #[.pointer (some ⟨R, 0, none⟩)] 40)).cell? ⟨R, 9, none⟩ = some x := fun x => by
    rw [cell_of_row _ R _ _ _ _ (hrow x)]; rfl
  have qf : ∀ x, ((w.setCell ⟨R, 9, none⟩ x).alloc (.cells #[.pointer (some ⟨R, 0, none⟩)] 40)).frozen? ⟨R, 9, none⟩ = false := fun x => frozen_of_row _ R _ _ _ (hrow x)
  have hbs : ∀ x, ((w.setCell ⟨R, 9, none⟩ x).alloc (.cells #[.pointer (some ⟨R, 0, none⟩)] 40)).cell? ⟨w.heap.size, 0, none⟩ = some (.pointer (some ⟨R, 0, none⟩)) := fun x => by
    rw [World.cell?_alloc_at _ _ _ _ (by simp)]; rfl
  have HROW := Aside0.mk hrow
  have hbelow : ∀ x, Below B w ((w.setCell ⟨R, 9, none⟩ x).alloc (.cells #[.pointer (some ⟨R, 0, none⟩)] 40)) := fun x => ((Below.refl _ _).setCell hB _).alloc (by simp <;> omega) _
  have HBA := Aside0.mk hbelow
  have HB := Aside0.mk hB
  clear hR hB hbelow hrow
  by_cases c : k = 34
  · subst c
    simp only [if_true]
    go_enter Try.func17, Try.ntmps17
    go_wp2
    go_end0
    refine ⟨rfl, _, ?_, fun _ => ⟨w.heap.size, by omega, rfl, ?_⟩, ?_⟩
    rotate_left 1
    · rw [World.cell?_alloc_at _ _ _ _ (by simp)]; rfl
    · exact (((Below.refl _ _).setCell HB.out _).setCell HB.out _).alloc (by have := HB.out; simp <;> omega) _
    · unfold Row
      rw [heap_alloc_old _ _ (by simp <;> omega)]
      exact Row.set (Row.set HR.out 9 _) 9 _
  · have cb : (k == 34) = false := beq_eq_false_iff_ne.mpr c
    simp only [if_neg c]
    have V := verb_w B R { s with nx := .verb } vis k ((w.setCell ⟨R, 9, none⟩ (.func (.func 20) #[.pointer (some ⟨R, 0, none⟩)] #[])).alloc (.cells #[.pointer (some ⟨R, 0, none⟩)] 40)) HB.out (HROW.out _) hbd rfl
    have HV := Aside0.mk V
    clear V
    go_enter Try.func17, Try.ntmps17
    go_wp2_with (go_at_call 20; refine HV.out.mono ?_; rintro e w2 ⟨rfl, v2, hR2, hN2, hB2⟩)
    go_end0
    exact ⟨rfl, v2, hR2, hN2, (HBA.out _).trans hB2⟩

/-- What Parse's steps leave: a state of 0, 1 or 3. -/
theorem state_ends (s : St) (ok : Bool) : (endsS s ok).state = 0 ∨ (endsS s ok).state = 1 ∨ (endsS s ok).state = 3 := by cases ok <;> simp [endsS]
theorem state_motS {s : St} (h : s.state = 0) (k : Int) : (motS s k).state = 0 ∨ (motS s k).state = 1 ∨ (motS s k).state = 3 := by
  unfold motS
  repeat' split
  all_goals first | exact .inl h | exact state_ends _ _
theorem state_verbS (v : Bool) {s : St} (h : s.state = 0) (k : Int) : (verbS v s k).state = 0 ∨ (verbS v s k).state = 1 ∨ (verbS v s k).state = 3 := by
  unfold verbS
  split
  · exact .inl h
  · have h' : ({ ctdS s with verb := k } : St).state = 0 := h
    unfold verbT
    repeat' split
    all_goals first | exact state_motS h' _ | exact .inl h' | exact state_ends _ _
theorem state_farS {s : St} (h : s.state = 0) (k : Int) : (farS s k).state = 0 ∨ (farS s k).state = 1 ∨ (farS s k).state = 3 := by
  unfold farS
  split
  · exact .inl h
  · have h' : ({ ctdS s with move := k } : St).state = 0 := h
    unfold farT
    repeat' split
    all_goals first | exact state_motS h' _ | exact .inl h' | exact state_ends _ _
theorem state_step (v : Bool) {s : St} (h : s.state = 0) (k : Int) : (step v s k).state = 0 ∨ (step v s k).state = 1 ∨ (step v s k).state = 3 := by
  unfold step
  split
  · split
    · exact .inl h
    · exact state_verbS v (s := { s with nx := .verb }) h k
  · split
    · exact .inl h
    · exact state_ends _ _
  · exact state_verbS v h k
  · exact state_farS h k
  · exact state_ends _ _
theorem step_first (v : Bool) (s : St) (k : Int) (h : s.nx = .first) : step v s k = if k = 34 then { s with nx := .name } else verbS v { s with nx := .verb } k := by unfold step; rw [h]
theorem step_name (v : Bool) (s : St) (k : Int) (h : s.nx = .name) : step v s k = if nameZ k = true then { s with reg := k, nx := .verb } else endsS s false := by unfold step; rw [h]
theorem step_verb (v : Bool) (s : St) (k : Int) (h : s.nx = .verb) : step v s k = verbS v s k := by unfold step; rw [h]
theorem step_far (v : Bool) (s : St) (k : Int) (h : s.nx = .far) : step v s k = farS s k := by unfold step; rw [h]
theorem step_aw (v : Bool) (s : St) (k : Int) (ta : Bool) (rt : Rt) (h : s.nx = .aw ta rt) : step v s k = endsS { s with arg := if ta then k else s.arg } (rtZ rt k) := by unfold step; rw [h]
/-- What Parse answers: a row and two numbers. -/
theorem results_row2 {P : Program} {fn : Func} {p t u : Tmp} {ty : TypeId} (h : fn.results = #[.cell p ty, .tmp t, .tmp u]) (tmps : Array Value) (w : World) (g : Nat) (t' : TypeId) (cs : Array Value) (fr : Nat × Nat) (d : TypeDesc)
    (hp : tmps.getD p undef = .pointer (some ⟨g, 0, none⟩)) (hg : w.heap[g]? = some (.cells cs t' fr))
    (hu : P.underlying ty = some d) (hd : (match d with | .struct _ | .array _ _ => true | _ => false) = true) (hi : (P.info? ty).map (·.size) = some cs.size) :
    (results fn tmps).run P w = .ok (.tuple #[.agg cs, tmps.getD t undef, tmps.getD u undef]) w := by
  have hp' : tmps[p]?.getD undef = .pointer (some ⟨g, 0, none⟩) := by simpa using hp
  simp [results, h, hp', asAddr, run_loadVar_row w g t' ty cs fr d hg hu hd hi]
theorem cmd_info : (Try.prog.info? 27).map (·.size) = some 5 := by kernel_rfl
theorem row5 (w : World) (g : Nat) (c0 c1 c2 c3 c4 a b c d e : Value) (t : TypeId) (h : w.heap[g]? = some (.cells #[c0, c1, c2, c3, c4] t (0, 0))) :
    (((((w.setCell ⟨g, 0, none⟩ a).setCell ⟨g, 1, none⟩ b).setCell ⟨g, 2, none⟩ c).setCell ⟨g, 3, none⟩ d).setCell ⟨g, 4, none⟩ e).heap[g]? = some (.cells #[a, b, c, d, e] t (0, 0)) :=
  heap_setCell_same _ _ 4 _ _ _ (heap_setCell_same _ _ 3 _ _ _ (heap_setCell_same _ _ 2 _ _ _ (heap_setCell_same _ _ 1 _ _ _ (heap_setCell_same _ _ 0 _ _ _ h))))
theorem below5 {B : Nat} {w0 w : World} (g : Nat) (hg : B ≤ g) (a b c d e : Value) (h : Below B w0 w) :
    Below B w0 (((((w.setCell ⟨g, 0, none⟩ a).setCell ⟨g, 1, none⟩ b).setCell ⟨g, 2, none⟩ c).setCell ⟨g, 3, none⟩ d).setCell ⟨g, 4, none⟩ e) :=
  ((((h.setCell hg _).setCell hg _).setCell hg _).setCell hg _).setCell hg _
theorem exit_w (z : Ans) (w w1 : World) (c0 c1 c2 c3 c4 : Value) (tmps : Array Value) (ds) (HT : w1.heap[w.heap.size]? = some (.cells #[c0, c1, c2, c3, c4] 27 (0, 0))) (hB : Below w.heap.size w w1)
    (a1 a2 a3 a4 a5 a6 a7 : Int) (hz : z = (a1, a2, a3, a4, a5, a6, a7)) (h4 : tmps.getD 4 undef = .pointer (some ⟨w.heap.size, 0, none⟩)) (h5 : tmps.getD 5 undef = .int .i64 a6) (h6 : tmps.getD 6 undef = .int .i64 a7) (hd : ds = []) :
    bodyPost Try.prog Try.f12 (fun e w' => e = .returned (.tuple #[.agg #[.int .i32 z.1, .int .i64 z.2.1, .int .i32 z.2.2.1, .int .i32 z.2.2.2.1, .int .i32 z.2.2.2.2.1], .int .i64 z.2.2.2.2.2.1, .int .i64 z.2.2.2.2.2.2]) ∧ Below w.heap.size w w') Exit.ret ⟨tmps, ds⟩
      (((((w1.setCell ⟨w.heap.size, 0, none⟩ (.int .i32 a1)).setCell ⟨w.heap.size, 1, none⟩ (.int .i64 a2)).setCell ⟨w.heap.size, 2, none⟩ (.int .i32 a3)).setCell ⟨w.heap.size, 3, none⟩ (.int .i32 a4)).setCell ⟨w.heap.size, 4, none⟩ (.int .i32 a5)) := by
  subst hz hd
  have hr := results_row2 (P := Try.prog) (fn := Try.f12) (p := 4) (t := 5) (u := 6) (ty := 27) rfl tmps _ w.heap.size 27 _ (0, 0) _ h4 (row5 w1 w.heap.size c0 c1 c2 c3 c4 (.int .i32 a1) (.int .i64 a2) (.int .i32 a3) (.int .i32 a4) (.int .i32 a5) 27 HT) Try.underlying27 rfl cmd_info
  rw [h5, h6] at hr
  exact bodyPost_ret hr rfl ⟨rfl, below5 _ (Nat.le_refl _) _ _ _ _ _ hB⟩

set_option maxRecDepth 100000 in
set_option maxHeartbeats 4000000 in
theorem Parse_w (A0 : Option Addr) (c0 : Nat) (l : List Int) (vis : Bool) (w : World) (hr0 : Kd.C (Kd.int .i32) w A0 l.length l) (hc0 : l.length ≤ c0) (hlen : l.length ≤ 35184372088832) :
    Calls Try.prog 12 #[.slice A0 l.length c0, .bool vis] w fun e w' => e = .returned (.tuple #[.agg #[.int .i32 (parseZ l vis).1, .int .i64 (parseZ l vis).2.1, .int .i32 (parseZ l vis).2.2.1, .int .i32 (parseZ l vis).2.2.2.1, .int .i32 (parseZ l vis).2.2.2.2.1], .int .i64 (parseZ l vis).2.2.2.2.2.1, .int .i64 (parseZ l vis).2.2.2.2.2.2]) ∧ Below w.heap.size w w' := by
  have HR0 := Aside0.mk hr0
  clear hr0
  have HP : Aside0 (parseL vis l 0 {} = parseZ l vis) := ⟨rfl⟩
  generalize parseZ l vis = z at HP ⊢
  go_enter Try.func12, Try.ntmps12
  go_wp2
  go_loopw [20] (fun i wr => ∃ (m : Nat) (s : St) (v : Value), i = .int .i64 m ∧ m ≤ l.length ∧ Aside0 (s.state = 0) ∧ Aside0 (Bd s) ∧ Aside0 (Row wr (w.heap.size + 1) s vis v) ∧ Aside0 (NxR wr (w.heap.size + 1) (w.heap.size + 1) v s.nx) ∧ Aside0 (wr.heap[w.heap.size]? = some (.cells #[.int .i32 0, .int .i64 0, .int .i32 0, .int .i32 0, .int .i32 0] 27 (0, 0))) ∧ Aside0 (Below w.heap.size w wr) ∧ Aside0 (parseL vis (l.drop m) m s = z)) (fun i _ => l.length - (RowKit.intOf i).toNat)
  case atStart =>
    refine ⟨0, {}, _, rfl, by omega, ⟨rfl⟩, ⟨bd0⟩, ⟨?_⟩, ⟨rfl⟩, ⟨?_⟩, ⟨?_⟩, ⟨by simpa using HP.out⟩⟩
    · unfold Row
      exact heap_alloc2_new _ _ _
    · exact heap_alloc2_old _ _ _
    · exact ((Below.refl _ _).alloc (Nat.le_refl _) _).alloc (by simp) _
  case round =>
    obtain ⟨m, s, v, rfl, hm, HS, HBD, HROW, HN, HT, HB, HE⟩ := hrel
    clear HP
    by_cases hlt : m < l.length
    · obtain ⟨ad, ea, hx⟩ := Kd.at_int HR0.out (m : Int) (by omega) (by omega)
      cases ea
      have hxw := (HB.out.cell (p := ad.add (m : Int).toNat) (by have := World.block_lt_of_cell? w _ hx; exact this)).trans hx
      have hdr : l.drop m = rd l m :: l.drop (m + 1) := by
        rw [List.drop_eq_getElem_cons hlt]
        congr 1
        unfold rd
        rw [Int.toNat_natCast, List.getD_eq_getElem?_getD, List.getElem?_eq_getElem hlt]
        rfl
      rw [Int.toNat_natCast] at hxw
      have HE2 := HE.out
      rw [hdr] at HE2
      have hlr : Aside0 (l.drop (m + 1) = l.drop (m + 1)) := ⟨rfl⟩
      clear HE hdr hx
      generalize rd l m = k at HE2 hxw
      generalize hlq : l.drop (m + 1) = lr at HE2
      have HLQ := Aside0.mk hlq
      clear hlq hlr
      simp only [parseL] at HE2
      have hbd' := Aside0.mk (bd_step vis HBD.out k)
      have p101 : (0 ≤ (m : Int)) = True := eq_true (by omega)
      have q101 : ((m : Int) < (l.length : Int)) = True := eq_true (by omega)
      obtain ⟨h0, h1, h2, h3, h4, h5, h6, h7, h8, h9⟩ := HROW.out.cells
      have hf := HROW.out.frozen
      have hsz := HROW.out.lt
      cases hnx : s.nx with
      | first =>
        have hv := HN.out
        rw [hnx] at hv
        have hv : v = _ := hv
        subst hv
        have CALL := first_w (w.heap.size + 1) (w.heap.size + 1) s vis _ k wr (Nat.le_refl _) HROW.out HBD.out
        rw [← step_first vis s k hnx] at CALL
        have h013 := state_step vis HS.out k
        have HC := Aside0.mk CALL
        clear CALL HN hnx
        generalize step vis s k = s' at HC HE2 hbd' h013
        by_cases c1 : s'.state = 1
        · have c1b : (s'.state == 1) = true := beq_iff_eq.mpr c1
          rw [if_pos c1] at HE2
          have hz := Aside0.mk HE2.symm
          clear HE2 c1 h013
          go_wp2_with (go_at_call 17; refine HC.out.mono ?_; rintro e w1 ⟨rfl, v1, hR1, hN1, hB1⟩; obtain ⟨k0, k1, k2, k3, k4, k5, k6, k7, k8, k9⟩ := hR1.cells; have HT1 := (hB1.block w.heap.size (by omega)).trans HT.out; have t0 := fun i => cell_of_row w1 w.heap.size i _ _ _ HT1; have tf := fun i => frozen_of_row w1 w.heap.size i _ _ HT1; have HBB := HB.out.trans (hB1.mono (Nat.le_succ _)); have HT2 := Aside0.mk HT1; clear HT1)
          exact exit_w z w w1 _ _ _ _ _ _ _ HT2.out HBB _ _ _ _ _ _ _ hz.out rfl rfl (by go_num) rfl
        · have c1b : (s'.state == 1) = false := beq_eq_false_iff_ne.mpr c1
          rw [if_neg c1] at HE2
          by_cases c3 : s'.state = 3
          · have c3b : (s'.state == 3) = true := beq_iff_eq.mpr c3
            rw [if_pos c3] at HE2
            have hz := Aside0.mk HE2.symm
            clear HE2 c1 c3 h013
            go_wp2_with (go_at_call 17; refine HC.out.mono ?_; rintro e w1 ⟨rfl, v1, hR1, hN1, hB1⟩; obtain ⟨k0, k1, k2, k3, k4, k5, k6, k7, k8, k9⟩ := hR1.cells; have HT1 := (hB1.block w.heap.size (by omega)).trans HT.out; have t0 := fun i => cell_of_row w1 w.heap.size i _ _ _ HT1; have tf := fun i => frozen_of_row w1 w.heap.size i _ _ HT1; have HBB := HB.out.trans (hB1.mono (Nat.le_succ _)); have HT2 := Aside0.mk HT1; clear HT1)
            exact exit_w z w w1 _ _ _ _ _ _ _ HT2.out HBB _ _ _ _ _ _ _ hz.out rfl rfl (by go_num) rfl
          · have c3b : (s'.state == 3) = false := beq_eq_false_iff_ne.mpr c3
            rw [if_neg c3] at HE2
            have hz := Aside0.mk HE2
            have hs0 : Aside0 (s'.state = 0) := ⟨by omega⟩
            clear HE2 c1 c3 h013
            go_wp2_with (go_at_call 17; refine HC.out.mono ?_; rintro e w1 ⟨rfl, v1, hR1, hN1, hB1⟩; obtain ⟨k0, k1, k2, k3, k4, k5, k6, k7, k8, k9⟩ := hR1.cells; have HT1 := (hB1.block w.heap.size (by omega)).trans HT.out; have t0 := fun i => cell_of_row w1 w.heap.size i _ _ _ HT1; have tf := fun i => frozen_of_row w1 w.heap.size i _ _ HT1; have HBB := HB.out.trans (hB1.mono (Nat.le_succ _)); have HT2 := Aside0.mk HT1; clear HT1)
            go_roundw
            case rel => exact ⟨m + 1, s', v1, by go_num, by omega, hs0, hbd', ⟨hR1⟩, ⟨hN1 hs0.out⟩, HT2, ⟨HBB⟩, ⟨by rw [HLQ.out]; exact hz.out⟩⟩
            case measure => simp [RowKit.intOf]; omega
      | name =>
        have hv := HN.out
        rw [hnx] at hv
        obtain ⟨b, nb, hv, kb⟩ := hv
        subst hv
        have CALL := name1_w (w.heap.size + 1) (w.heap.size + 1) b s vis _ k wr (Nat.le_refl _) HROW.out nb kb
        rw [← step_name vis s k hnx] at CALL
        have h013 := state_step vis HS.out k
        have HC := Aside0.mk CALL
        clear CALL HN hnx
        generalize step vis s k = s' at HC HE2 hbd' h013
        by_cases c1 : s'.state = 1
        · have c1b : (s'.state == 1) = true := beq_iff_eq.mpr c1
          rw [if_pos c1] at HE2
          have hz := Aside0.mk HE2.symm
          clear HE2 c1 h013
          go_wp2_with (go_at_call 21; refine HC.out.mono ?_; rintro e w1 ⟨rfl, v1, hR1, hN1, hB1⟩; obtain ⟨k0, k1, k2, k3, k4, k5, k6, k7, k8, k9⟩ := hR1.cells; have HT1 := (hB1.block w.heap.size (by omega)).trans HT.out; have t0 := fun i => cell_of_row w1 w.heap.size i _ _ _ HT1; have tf := fun i => frozen_of_row w1 w.heap.size i _ _ HT1; have HBB := HB.out.trans (hB1.mono (Nat.le_succ _)); have HT2 := Aside0.mk HT1; clear HT1)
          exact exit_w z w w1 _ _ _ _ _ _ _ HT2.out HBB _ _ _ _ _ _ _ hz.out rfl rfl (by go_num) rfl
        · have c1b : (s'.state == 1) = false := beq_eq_false_iff_ne.mpr c1
          rw [if_neg c1] at HE2
          by_cases c3 : s'.state = 3
          · have c3b : (s'.state == 3) = true := beq_iff_eq.mpr c3
            rw [if_pos c3] at HE2
            have hz := Aside0.mk HE2.symm
            clear HE2 c1 c3 h013
            go_wp2_with (go_at_call 21; refine HC.out.mono ?_; rintro e w1 ⟨rfl, v1, hR1, hN1, hB1⟩; obtain ⟨k0, k1, k2, k3, k4, k5, k6, k7, k8, k9⟩ := hR1.cells; have HT1 := (hB1.block w.heap.size (by omega)).trans HT.out; have t0 := fun i => cell_of_row w1 w.heap.size i _ _ _ HT1; have tf := fun i => frozen_of_row w1 w.heap.size i _ _ HT1; have HBB := HB.out.trans (hB1.mono (Nat.le_succ _)); have HT2 := Aside0.mk HT1; clear HT1)
            exact exit_w z w w1 _ _ _ _ _ _ _ HT2.out HBB _ _ _ _ _ _ _ hz.out rfl rfl (by go_num) rfl
          · have c3b : (s'.state == 3) = false := beq_eq_false_iff_ne.mpr c3
            rw [if_neg c3] at HE2
            have hz := Aside0.mk HE2
            have hs0 : Aside0 (s'.state = 0) := ⟨by omega⟩
            clear HE2 c1 c3 h013
            go_wp2_with (go_at_call 21; refine HC.out.mono ?_; rintro e w1 ⟨rfl, v1, hR1, hN1, hB1⟩; obtain ⟨k0, k1, k2, k3, k4, k5, k6, k7, k8, k9⟩ := hR1.cells; have HT1 := (hB1.block w.heap.size (by omega)).trans HT.out; have t0 := fun i => cell_of_row w1 w.heap.size i _ _ _ HT1; have tf := fun i => frozen_of_row w1 w.heap.size i _ _ HT1; have HBB := HB.out.trans (hB1.mono (Nat.le_succ _)); have HT2 := Aside0.mk HT1; clear HT1)
            go_roundw
            case rel => exact ⟨m + 1, s', v1, by go_num, by omega, hs0, hbd', ⟨hR1⟩, ⟨hN1 hs0.out⟩, HT2, ⟨HBB⟩, ⟨by rw [HLQ.out]; exact hz.out⟩⟩
            case measure => simp [RowKit.intOf]; omega
      | verb =>
        have hv := HN.out
        rw [hnx] at hv
        have hv : v = _ := hv
        subst hv
        have CALL := verb_w (w.heap.size + 1) (w.heap.size + 1) s vis k wr (Nat.le_refl _) HROW.out HBD.out hnx
        rw [← step_verb vis s k hnx] at CALL
        have h013 := state_step vis HS.out k
        have HC := Aside0.mk CALL
        clear CALL HN hnx
        generalize step vis s k = s' at HC HE2 hbd' h013
        by_cases c1 : s'.state = 1
        · have c1b : (s'.state == 1) = true := beq_iff_eq.mpr c1
          rw [if_pos c1] at HE2
          have hz := Aside0.mk HE2.symm
          clear HE2 c1 h013
          go_wp2_with (go_at_call 20; refine HC.out.mono ?_; rintro e w1 ⟨rfl, v1, hR1, hN1, hB1⟩; obtain ⟨k0, k1, k2, k3, k4, k5, k6, k7, k8, k9⟩ := hR1.cells; have HT1 := (hB1.block w.heap.size (by omega)).trans HT.out; have t0 := fun i => cell_of_row w1 w.heap.size i _ _ _ HT1; have tf := fun i => frozen_of_row w1 w.heap.size i _ _ HT1; have HBB := HB.out.trans (hB1.mono (Nat.le_succ _)); have HT2 := Aside0.mk HT1; clear HT1)
          exact exit_w z w w1 _ _ _ _ _ _ _ HT2.out HBB _ _ _ _ _ _ _ hz.out rfl rfl (by go_num) rfl
        · have c1b : (s'.state == 1) = false := beq_eq_false_iff_ne.mpr c1
          rw [if_neg c1] at HE2
          by_cases c3 : s'.state = 3
          · have c3b : (s'.state == 3) = true := beq_iff_eq.mpr c3
            rw [if_pos c3] at HE2
            have hz := Aside0.mk HE2.symm
            clear HE2 c1 c3 h013
            go_wp2_with (go_at_call 20; refine HC.out.mono ?_; rintro e w1 ⟨rfl, v1, hR1, hN1, hB1⟩; obtain ⟨k0, k1, k2, k3, k4, k5, k6, k7, k8, k9⟩ := hR1.cells; have HT1 := (hB1.block w.heap.size (by omega)).trans HT.out; have t0 := fun i => cell_of_row w1 w.heap.size i _ _ _ HT1; have tf := fun i => frozen_of_row w1 w.heap.size i _ _ HT1; have HBB := HB.out.trans (hB1.mono (Nat.le_succ _)); have HT2 := Aside0.mk HT1; clear HT1)
            exact exit_w z w w1 _ _ _ _ _ _ _ HT2.out HBB _ _ _ _ _ _ _ hz.out rfl rfl (by go_num) rfl
          · have c3b : (s'.state == 3) = false := beq_eq_false_iff_ne.mpr c3
            rw [if_neg c3] at HE2
            have hz := Aside0.mk HE2
            have hs0 : Aside0 (s'.state = 0) := ⟨by omega⟩
            clear HE2 c1 c3 h013
            go_wp2_with (go_at_call 20; refine HC.out.mono ?_; rintro e w1 ⟨rfl, v1, hR1, hN1, hB1⟩; obtain ⟨k0, k1, k2, k3, k4, k5, k6, k7, k8, k9⟩ := hR1.cells; have HT1 := (hB1.block w.heap.size (by omega)).trans HT.out; have t0 := fun i => cell_of_row w1 w.heap.size i _ _ _ HT1; have tf := fun i => frozen_of_row w1 w.heap.size i _ _ HT1; have HBB := HB.out.trans (hB1.mono (Nat.le_succ _)); have HT2 := Aside0.mk HT1; clear HT1)
            go_roundw
            case rel => exact ⟨m + 1, s', v1, by go_num, by omega, hs0, hbd', ⟨hR1⟩, ⟨hN1 hs0.out⟩, HT2, ⟨HBB⟩, ⟨by rw [HLQ.out]; exact hz.out⟩⟩
            case measure => simp [RowKit.intOf]; omega
      | far =>
        have hv := HN.out
        rw [hnx] at hv
        have hv : v = _ := hv
        subst hv
        have CALL := far_w (w.heap.size + 1) (w.heap.size + 1) s vis k wr (Nat.le_refl _) HROW.out HBD.out hnx
        rw [← step_far vis s k hnx] at CALL
        have h013 := state_step vis HS.out k
        have HC := Aside0.mk CALL
        clear CALL HN hnx
        generalize step vis s k = s' at HC HE2 hbd' h013
        by_cases c1 : s'.state = 1
        · have c1b : (s'.state == 1) = true := beq_iff_eq.mpr c1
          rw [if_pos c1] at HE2
          have hz := Aside0.mk HE2.symm
          clear HE2 c1 h013
          go_wp2_with (go_at_call 30; refine HC.out.mono ?_; rintro e w1 ⟨rfl, v1, hR1, hN1, hB1⟩; obtain ⟨k0, k1, k2, k3, k4, k5, k6, k7, k8, k9⟩ := hR1.cells; have HT1 := (hB1.block w.heap.size (by omega)).trans HT.out; have t0 := fun i => cell_of_row w1 w.heap.size i _ _ _ HT1; have tf := fun i => frozen_of_row w1 w.heap.size i _ _ HT1; have HBB := HB.out.trans (hB1.mono (Nat.le_succ _)); have HT2 := Aside0.mk HT1; clear HT1)
          exact exit_w z w w1 _ _ _ _ _ _ _ HT2.out HBB _ _ _ _ _ _ _ hz.out rfl rfl (by go_num) rfl
        · have c1b : (s'.state == 1) = false := beq_eq_false_iff_ne.mpr c1
          rw [if_neg c1] at HE2
          by_cases c3 : s'.state = 3
          · have c3b : (s'.state == 3) = true := beq_iff_eq.mpr c3
            rw [if_pos c3] at HE2
            have hz := Aside0.mk HE2.symm
            clear HE2 c1 c3 h013
            go_wp2_with (go_at_call 30; refine HC.out.mono ?_; rintro e w1 ⟨rfl, v1, hR1, hN1, hB1⟩; obtain ⟨k0, k1, k2, k3, k4, k5, k6, k7, k8, k9⟩ := hR1.cells; have HT1 := (hB1.block w.heap.size (by omega)).trans HT.out; have t0 := fun i => cell_of_row w1 w.heap.size i _ _ _ HT1; have tf := fun i => frozen_of_row w1 w.heap.size i _ _ HT1; have HBB := HB.out.trans (hB1.mono (Nat.le_succ _)); have HT2 := Aside0.mk HT1; clear HT1)
            exact exit_w z w w1 _ _ _ _ _ _ _ HT2.out HBB _ _ _ _ _ _ _ hz.out rfl rfl (by go_num) rfl
          · have c3b : (s'.state == 3) = false := beq_eq_false_iff_ne.mpr c3
            rw [if_neg c3] at HE2
            have hz := Aside0.mk HE2
            have hs0 : Aside0 (s'.state = 0) := ⟨by omega⟩
            clear HE2 c1 c3 h013
            go_wp2_with (go_at_call 30; refine HC.out.mono ?_; rintro e w1 ⟨rfl, v1, hR1, hN1, hB1⟩; obtain ⟨k0, k1, k2, k3, k4, k5, k6, k7, k8, k9⟩ := hR1.cells; have HT1 := (hB1.block w.heap.size (by omega)).trans HT.out; have t0 := fun i => cell_of_row w1 w.heap.size i _ _ _ HT1; have tf := fun i => frozen_of_row w1 w.heap.size i _ _ HT1; have HBB := HB.out.trans (hB1.mono (Nat.le_succ _)); have HT2 := Aside0.mk HT1; clear HT1)
            go_roundw
            case rel => exact ⟨m + 1, s', v1, by go_num, by omega, hs0, hbd', ⟨hR1⟩, ⟨hN1 hs0.out⟩, HT2, ⟨HBB⟩, ⟨by rw [HLQ.out]; exact hz.out⟩⟩
            case measure => simp [RowKit.intOf]; omega
      | aw ta rt =>
        have hv := HN.out
        rw [hnx] at hv
        obtain ⟨b1, b2, b3, b4, hv, n1, n2, n3, kb1, kb2, kb3, kb4⟩ := hv
        subst hv
        have CALL := aw_w (w.heap.size + 1) (w.heap.size + 1) b1 b2 b3 b4 s vis _ ta rt k wr (Nat.le_refl _) HROW.out n1 n2 n3 kb1 kb2 kb3 kb4
        rw [← step_aw vis s k ta rt hnx] at CALL
        have h013 := state_step vis HS.out k
        have HC := Aside0.mk CALL
        clear CALL HN hnx
        generalize step vis s k = s' at HC HE2 hbd' h013
        by_cases c1 : s'.state = 1
        · have c1b : (s'.state == 1) = true := beq_iff_eq.mpr c1
          rw [if_pos c1] at HE2
          have hz := Aside0.mk HE2.symm
          clear HE2 c1 h013
          go_wp2_with (go_at_call 35; refine HC.out.mono ?_; rintro e w1 ⟨rfl, v1, hR1, hN1, hB1⟩; obtain ⟨k0, k1, k2, k3, k4, k5, k6, k7, k8, k9⟩ := hR1.cells; have HT1 := (hB1.block w.heap.size (by omega)).trans HT.out; have t0 := fun i => cell_of_row w1 w.heap.size i _ _ _ HT1; have tf := fun i => frozen_of_row w1 w.heap.size i _ _ HT1; have HBB := HB.out.trans (hB1.mono (Nat.le_succ _)); have HT2 := Aside0.mk HT1; clear HT1)
          exact exit_w z w w1 _ _ _ _ _ _ _ HT2.out HBB _ _ _ _ _ _ _ hz.out rfl rfl (by go_num) rfl
        · have c1b : (s'.state == 1) = false := beq_eq_false_iff_ne.mpr c1
          rw [if_neg c1] at HE2
          by_cases c3 : s'.state = 3
          · have c3b : (s'.state == 3) = true := beq_iff_eq.mpr c3
            rw [if_pos c3] at HE2
            have hz := Aside0.mk HE2.symm
            clear HE2 c1 c3 h013
            go_wp2_with (go_at_call 35; refine HC.out.mono ?_; rintro e w1 ⟨rfl, v1, hR1, hN1, hB1⟩; obtain ⟨k0, k1, k2, k3, k4, k5, k6, k7, k8, k9⟩ := hR1.cells; have HT1 := (hB1.block w.heap.size (by omega)).trans HT.out; have t0 := fun i => cell_of_row w1 w.heap.size i _ _ _ HT1; have tf := fun i => frozen_of_row w1 w.heap.size i _ _ HT1; have HBB := HB.out.trans (hB1.mono (Nat.le_succ _)); have HT2 := Aside0.mk HT1; clear HT1)
            exact exit_w z w w1 _ _ _ _ _ _ _ HT2.out HBB _ _ _ _ _ _ _ hz.out rfl rfl (by go_num) rfl
          · have c3b : (s'.state == 3) = false := beq_eq_false_iff_ne.mpr c3
            rw [if_neg c3] at HE2
            have hz := Aside0.mk HE2
            have hs0 : Aside0 (s'.state = 0) := ⟨by omega⟩
            clear HE2 c1 c3 h013
            go_wp2_with (go_at_call 35; refine HC.out.mono ?_; rintro e w1 ⟨rfl, v1, hR1, hN1, hB1⟩; obtain ⟨k0, k1, k2, k3, k4, k5, k6, k7, k8, k9⟩ := hR1.cells; have HT1 := (hB1.block w.heap.size (by omega)).trans HT.out; have t0 := fun i => cell_of_row w1 w.heap.size i _ _ _ HT1; have tf := fun i => frozen_of_row w1 w.heap.size i _ _ HT1; have HBB := HB.out.trans (hB1.mono (Nat.le_succ _)); have HT2 := Aside0.mk HT1; clear HT1)
            go_roundw
            case rel => exact ⟨m + 1, s', v1, by go_num, by omega, hs0, hbd', ⟨hR1⟩, ⟨hN1 hs0.out⟩, HT2, ⟨HBB⟩, ⟨by rw [HLQ.out]; exact hz.out⟩⟩
            case measure => simp [RowKit.intOf]; omega
    · have hme : m = l.length := by omega
      subst hme
      have HE2 := HE.out
      rw [List.drop_length] at HE2
      simp only [parseL] at HE2
      have hz := Aside0.mk HE2.symm
      clear HE HE2 hm hlt
      have t0 := fun i => cell_of_row wr w.heap.size i _ _ _ HT.out
      have tf := fun i => frozen_of_row wr w.heap.size i _ _ HT.out
      go_wp2
      exact exit_w z w wr _ _ _ _ _ _ _ HT.out HB.out _ _ _ _ _ _ _ hz.out rfl rfl rfl rfl
end Go.Proofs.Ytfhlohmhacfngaa.Ext
