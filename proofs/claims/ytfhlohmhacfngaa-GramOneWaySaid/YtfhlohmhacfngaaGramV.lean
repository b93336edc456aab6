/- The grammar's closures and methods that go on, each by its walk. -/
import Derived.Test.YtfhlohmhacfngaaProg
import Derived.WalkKit
import Derived.WalkMore
import Derived.Deep.RegionWith
import Derived.BigQuiet
import Derived.Below
import Derived.KernelRfl
import Derived.Laws.Rows
import Derived.Laws.EntriesVeiled
import Derived.Test.YtfhlohmhacfngaaWWords
import Derived.Test.YtfhlohmhacfngaaGramW
set_option linter.unusedVariables false
set_option linter.unusedSimpArgs false
namespace Go.Proofs.Ytfhlohmhacfngaa.Ext
open Go.RowKit Go.Lib Go.Proofs.YtfhlohmhacfngaaW.PrintWords

def rtF : Rt → Nat
  | .sign => 31
  | .object => 29
  | .mac => 32
  | .isG => 34
/-- The place where an awaited key is laid. -/
def toA (R b4 : Nat) (toArg : Bool) : Addr := if toArg then ⟨R, 4, none⟩ else ⟨b4, 0, none⟩
def NxR (w : World) (B R : Nat) (v : Value) : Nx → Prop
  | .first => v = .func (.func 17) #[.pointer (some ⟨R, 0, none⟩)] #[]
  | .verb => v = .func (.func 20) #[.pointer (some ⟨R, 0, none⟩)] #[]
  | .far => v = .func (.func 30) #[.pointer (some ⟨R, 0, none⟩)] #[]
  | .name => ∃ b : Nat, b ≠ R ∧ v = .func (.func 21) #[] #[.pointer (some ⟨b, 0, none⟩)] ∧ w.cell? ⟨b, 0, none⟩ = some (.pointer (some ⟨R, 0, none⟩))
  | .aw toArg rt => ∃ b1 b2 b3 b4 : Nat, v = .func (.func 35) #[] #[.pointer (some ⟨b1, 0, none⟩), .pointer (some ⟨b2, 0, none⟩), .pointer (some ⟨b3, 0, none⟩)] ∧ b1 ≠ R ∧ b2 ≠ R ∧ b3 ≠ R ∧
      w.cell? ⟨b1, 0, none⟩ = some (.pointer (some (toA R b4 toArg))) ∧ w.cell? ⟨b2, 0, none⟩ = some (.pointer (some ⟨R, 0, none⟩)) ∧ w.cell? ⟨b3, 0, none⟩ = some (.func (.func (rtF rt)) #[] #[]) ∧
      (toArg = false → B ≤ b4 ∧ b4 ≠ R ∧ b4 ≠ b1 ∧ b4 ≠ b2 ∧ b4 ≠ b3 ∧ (∃ o, w.cell? ⟨b4, 0, none⟩ = some o) ∧ w.frozen? ⟨b4, 0, none⟩ = false)

theorem box3 (w : World) (v1 v2 v3 x : Value) (t1 t2 t3 : TypeId) (R : Nat) (hlt : R < w.heap.size) :
    ((((w.alloc (.cells #[v1] t1)).alloc (.cells #[v2] t2)).alloc (.cells #[v3] t3)).setCell ⟨R, 9, none⟩ x).cell? ⟨w.heap.size, 0, none⟩ = some v1 ∧
    ((((w.alloc (.cells #[v1] t1)).alloc (.cells #[v2] t2)).alloc (.cells #[v3] t3)).setCell ⟨R, 9, none⟩ x).cell? ⟨w.heap.size + 1, 0, none⟩ = some v2 ∧
    ((((w.alloc (.cells #[v1] t1)).alloc (.cells #[v2] t2)).alloc (.cells #[v3] t3)).setCell ⟨R, 9, none⟩ x).cell? ⟨w.heap.size + 1 + 1, 0, none⟩ = some v3 := by
  have e1 : (w.alloc (.cells #[v1] t1)).heap.size = w.heap.size + 1 := World.size_alloc ..
  have e2 : ((w.alloc (.cells #[v1] t1)).alloc (.cells #[v2] t2)).heap.size = w.heap.size + 1 + 1 := by rw [World.size_alloc, e1]
  refine ⟨?_, ?_, ?_⟩
  · rw [World.cell?_setCell_other _ _ _ _ (by simp <;> omega), World.cell?_alloc_past _ _ _ (by rw [e2]; omega), World.cell?_alloc_past _ _ _ (by rw [e1]; omega), World.cell?_alloc_at _ _ _ _ rfl]; rfl
  · rw [World.cell?_setCell_other _ _ _ _ (by simp <;> omega), World.cell?_alloc_past _ _ _ (by rw [e2]; omega), World.cell?_alloc_at _ _ _ _ e1.symm]; rfl
  · rw [World.cell?_setCell_other _ _ _ _ (by simp <;> omega), World.cell?_alloc_at _ _ _ _ e2.symm]; rfl
theorem old3 (w : World) (o1 o2 o3 : Obj) (x : Value) (R k : Nat) (hk : k < w.heap.size) (hne : k ≠ R) :
    ((((w.alloc o1).alloc o2).alloc o3).setCell ⟨R, 9, none⟩ x).heap[k]? = w.heap[k]? := by
  rw [heap_setCell_other _ _ _ _ hne, heap_alloc_old _ _ (by simp <;> omega), heap_alloc_old _ _ (by simp <;> omega), heap_alloc_old _ _ hk]
set_option maxRecDepth 100000 in
set_option maxHeartbeats 1000000 in
theorem awaits_w (B R b4 : Nat) (s : St) (vis : Bool) (v : Value) (toArg : Bool) (rt : Rt) (w : World) (hB : B ≤ R) (hR : Row w R s vis v)
    (hb4 : toArg = false → B ≤ b4 ∧ b4 < w.heap.size ∧ b4 ≠ R ∧ (∃ o, w.cell? ⟨b4, 0, none⟩ = some o) ∧ w.frozen? ⟨b4, 0, none⟩ = false) :
    Calls Try.prog 28 #[.pointer (some ⟨R, 0, none⟩), .pointer (some (toA R b4 toArg)), .func (.func (rtF rt)) #[] #[]] w fun e w' => e = .returned (.tuple #[]) ∧ ∃ v', Row w' R { s with nx := .aw toArg rt } vis v' ∧ NxR w' B R v' (.aw toArg rt) ∧ Below B w w' := by
  obtain ⟨h0, h1, h2, h3, h4, h5, h6, h7, h8, h9⟩ := hR.cells
  have hf := hR.frozen
  have hlt := hR.lt
  have HR := Aside0.mk hR
  have HB := Aside0.mk hB
  have HB4 := Aside0.mk hb4
  clear hR hB hb4
  have c9 : ∀ o1 o2 o3, (((w.alloc o1).alloc o2).alloc o3).cell? ⟨R, 9, none⟩ = some v := fun o1 o2 o3 => by
    have hb : Below w.heap.size w (((w.alloc o1).alloc o2).alloc o3) := (((Below.refl _ _).alloc (by simp) _).alloc (by simp) _).alloc (by simp <;> omega) _
    rw [hb.cell (p := ⟨R, 9, none⟩) hlt]; exact h9
  have f9 : ∀ o1 o2 o3, (((w.alloc o1).alloc o2).alloc o3).frozen? ⟨R, 9, none⟩ = false := fun o1 o2 o3 => by
    have hb : Below w.heap.size w (((w.alloc o1).alloc o2).alloc o3) := (((Below.refl _ _).alloc (by simp) _).alloc (by simp) _).alloc (by simp <;> omega) _
    rw [hb.frozen (p := ⟨R, 9, none⟩) hlt]; exact hf 9
  generalize hT : toA R b4 toArg = T
  have HT := Aside0.mk hT
  clear hT
  generalize hF : (rtF rt) = F
  have HF := Aside0.mk hF
  clear hF
  go_enter Try.func28, Try.ntmps28
  go_wp2
  go_end0
  have hold := fun k => old3 w (Obj.cells #[Value.pointer (some { block := R, off := 0 })] 40) (Obj.cells #[Value.pointer (some T)] 48) (Obj.cells #[Value.func (Fn.func F) #[] #[]] 23) (Value.func (Fn.func 35) #[]
        #[Value.pointer (some { block := w.heap.size + 1, off := 0 }), Value.pointer (some { block := w.heap.size, off := 0 }), Value.pointer (some { block := w.heap.size + 1 + 1, off := 0 })]) R k
  refine ⟨rfl, _, Row.set (c := cs s vis v) ?_ 9 _, ?_, ?_⟩
  · rw [heap_alloc_old _ _ (by simp <;> omega), heap_alloc_old _ _ (by simp <;> omega), heap_alloc_old _ _ hlt]; exact HR.out
  · obtain ⟨k1, k2, k3⟩ := box3 w (.pointer (some ⟨R, 0, none⟩)) (.pointer (some T)) (.func (.func F) #[] #[]) (Value.func (Fn.func 35) #[]
        #[Value.pointer (some { block := w.heap.size + 1, off := 0 }), Value.pointer (some { block := w.heap.size, off := 0 }), Value.pointer (some { block := w.heap.size + 1 + 1, off := 0 })]) 40 48 23 R hlt
    refine ⟨w.heap.size + 1, w.heap.size, w.heap.size + 1 + 1, b4, rfl, by omega, by omega, by omega, ?_, k1, ?_, fun ht => ?_⟩
    · rw [HT.out]; exact k2
    · rw [HF.out]; exact k3
    · obtain ⟨g1, g2, g3, ⟨o, g4⟩, g5⟩ := HB4.out ht
      have hh := hold b4 g2 g3
      exact ⟨g1, g3, by omega, by omega, by omega, ⟨o, by rw [World.cell?_of_block (w := w) hh]; exact g4⟩, by rw [World.frozen?_of_block (w := w) hh]; exact g5⟩
  · exact ((((Below.refl _ _).alloc (by have := HB.out; omega) _).alloc (by have := HB.out; simp <;> omega) _).alloc (by have := HB.out; simp <;> omega) _).setCell HB.out _
theorem Row.below {w w' : World} {R : Nat} {s : St} {vis : Bool} {v : Value} (h : Row w R s vis v) (hb : Below w.heap.size w w') : Row w' R s vis v := by
  unfold Row; rw [hb.block R h.lt]; exact h
theorem Row.other {w w' : World} {R : Nat} {s : St} {vis : Bool} {v : Value} (h : Row w R s vis v) (hb : w'.heap[R]? = w.heap[R]?) : Row w' R s vis v := by
  unfold Row; rw [hb]; exact h
/-- What a step leaves. -/
def Stp (B R : Nat) (vis : Bool) (s' : St) (w : World) (e : Ending) (w' : World) : Prop :=
  e = .returned (.tuple #[]) ∧ ∃ v', Row w' R s' vis v' ∧ (s'.state = 0 → NxR w' B R v' s'.nx) ∧ Below B w w'
theorem right_w (rt : Rt) (k : Int) (w : World) :
    Calls Try.prog (rtF rt) #[.int .i32 k] w fun e w' => e = .returned (.bool (rtZ rt k)) ∧ Below w.heap.size w w' := by
  cases rt
  · exact sign_w k w
  · exact object_w k w
  · exact mac_w k w
  · exact isG_w k w
theorem below_big {B : Nat} {w w1 : World} (h : Below w.heap.size w w1) (hB : B ≤ w.heap.size) : Below B w w1 := h.mono hB
set_option maxRecDepth 100000 in
set_option maxHeartbeats 2000000 in
theorem motion_w (B R : Nat) (s : St) (vis : Bool) (v : Value) (k : Int) (w : World) (hB : B ≤ R) (hR : Row w R s vis v) :
    Calls Try.prog 27 #[.pointer (some ⟨R, 0, none⟩), .int .i32 k] w (Stp B R vis (motS s k) w) := by
  obtain ⟨h0, h1, h2, h3, h4, h5, h6, h7, h8, h9⟩ := hR.cells
  have hf := hR.frozen
  have hlt := hR.lt
  have HR := Aside0.mk hR
  have HB := Aside0.mk hB
  clear hR hB
  by_cases c : k = 103
  · subst c
    have E : motS s 103 = { s with nx := .aw false .isG } := by simp [motS]
    have HE := Aside0.mk E
    have hBw : B ≤ w.heap.size := by have := HB.out; omega
    have A := awaits_w B R w.heap.size s vis v false .isG (w.alloc (.cells #[.int .i32 0] 21)) HB.out (HR.out.other (heap_alloc_old _ _ hlt))
      (fun _ => ⟨hBw, by simp, by omega, ⟨.int .i32 0, by rw [World.cell?_alloc_at _ _ _ _ rfl]; rfl⟩, frozen_of_row _ _ _ _ _ (heap_alloc_new _ _)⟩)
    have HA := Aside0.mk A
    clear A E hBw
    go_enter Try.func27, Try.ntmps27
    go_wp2_with (go_at_call 28; refine (HA.out).mono ?_; rintro e w1 ⟨rfl, v1, hR1, hN1, hB1⟩)
    go_end0
    rw [HE.out]
    exact ⟨rfl, v1, hR1, fun _ => hN1, ((Below.refl _ _).alloc (by have := HB.out; omega) _).trans hB1⟩
  · have cb : (k == 103) = false := beq_eq_false_iff_ne.mpr c
    have I := fun w => in_w k tFar w
    go_enter Try.func27, Try.ntmps27
    cases hf : inZ k tFar
    · have HE : Aside0 (motS s k = endsS s true) := ⟨by simp [motS, c, hf]⟩
      simp only [hf] at I
      clear c hf
      go_wp2_with (first
        | (go_at_call 15; refine (I _).mono ?_; rintro e w1 ⟨rfl, hb1⟩)
        | (go_at_call 23; refine (ends_w B R s vis v true _ HB.out (HR.out.below hb1)).mono ?_; rintro e w2 ⟨rfl, hR2, hB2⟩))
      go_end0
      rw [HE.out]
      exact ⟨rfl, v, hR2, fun h => by simp [endsS] at h, (hb1.mono (by have := HB.out; omega)).trans hB2⟩
    · have HE : Aside0 (motS s k = { s with nx := .aw true .sign }) := ⟨by simp [motS, c, hf]⟩
      simp only [hf] at I
      clear c hf
      go_wp2_with (first
        | (go_at_call 15; refine (I _).mono ?_; rintro e w1 ⟨rfl, hb1⟩)
        | (go_at_call 28; refine (awaits_w B R 0 s vis v true .sign _ HB.out (HR.out.below hb1) (fun h => by cases h)).mono ?_; rintro e w2 ⟨rfl, v2, hR2, hN2, hB2⟩))
      go_end0
      rw [HE.out]
      exact ⟨rfl, v2, hR2, fun _ => hN2, (hb1.mono (by have := HB.out; omega)).trans hB2⟩
set_option maxRecDepth 100000 in
set_option maxHeartbeats 2000000 in
theorem aw_w (B R b1 b2 b3 b4 : Nat) (s : St) (vis : Bool) (v : Value) (toArg : Bool) (rt : Rt) (k : Int) (w : World) (hB : B ≤ R) (hR : Row w R s vis v)
    (n1 : b1 ≠ R) (n2 : b2 ≠ R) (n3 : b3 ≠ R) (k1 : w.cell? ⟨b1, 0, none⟩ = some (.pointer (some (toA R b4 toArg)))) (k2 : w.cell? ⟨b2, 0, none⟩ = some (.pointer (some ⟨R, 0, none⟩))) (k3 : w.cell? ⟨b3, 0, none⟩ = some (.func (.func (rtF rt)) #[] #[]))
    (k4 : toArg = false → B ≤ b4 ∧ b4 ≠ R ∧ b4 ≠ b1 ∧ b4 ≠ b2 ∧ b4 ≠ b3 ∧ (∃ o, w.cell? ⟨b4, 0, none⟩ = some o) ∧ w.frozen? ⟨b4, 0, none⟩ = false) :
    Calls Try.prog 35 #[.int .i32 k, .pointer (some ⟨b1, 0, none⟩), .pointer (some ⟨b2, 0, none⟩), .pointer (some ⟨b3, 0, none⟩)] w (Stp B R vis (endsS { s with arg := if toArg then k else s.arg } (rtZ rt k)) w) := by
  obtain ⟨h0, h1, h2, h3, h4, h5, h6, h7, h8, h9⟩ := hR.cells
  have hf := hR.frozen
  have hlt := hR.lt
  have HR := Aside0.mk hR
  have HB := Aside0.mk hB
  clear hR hB
  have l1 : b1 < w.heap.size := World.block_lt_of_cell? w _ k1
  have l2 : b2 < w.heap.size := World.block_lt_of_cell? w _ k2
  have l3 : b3 < w.heap.size := World.block_lt_of_cell? w _ k3
  cases toArg
  · obtain ⟨q1, q2, q3, q4, q5, ⟨o, q6⟩, q7⟩ := k4 rfl
    have Q1 := Aside0.mk q1
    clear k4 q1
    have k1' : w.cell? ⟨b1, 0, none⟩ = some (.pointer (some ⟨b4, 0, none⟩)) := k1
    clear k1
    have m2 : ∀ x, (w.setCell ⟨b4, 0, none⟩ x).cell? ⟨b2, 0, none⟩ = some (.pointer (some ⟨R, 0, none⟩)) := fun x => by rw [World.cell?_setCell_other _ _ _ _ (by simp <;> omega)]; exact k2
    have m3 : ∀ x, (w.setCell ⟨b4, 0, none⟩ x).cell? ⟨b3, 0, none⟩ = some (.func (.func (rtF rt)) #[] #[]) := fun x => by rw [World.cell?_setCell_other _ _ _ _ (by simp <;> omega)]; exact k3
    have HRW : Aside0 (Row (w.setCell ⟨b4, 0, none⟩ (.int .i32 k)).drew R s vis v) := ⟨HR.out.other (heap_setCell_other w ⟨b4, 0, none⟩ R _ (Ne.symm q2))⟩
    have HBW : Aside0 (Below B w (w.setCell ⟨b4, 0, none⟩ (.int .i32 k)).drew) := ⟨((Below.refl _ _).setCell Q1.out _).drew⟩
    have HSW : Aside0 (B ≤ (w.setCell ⟨b4, 0, none⟩ (.int .i32 k)).drew.heap.size) := ⟨by have := HB.out; have := HBW.out.size; omega⟩
    go_enter Try.func35, Try.ntmps35
    go_wp2
    cases rt
    · simp only [rtF] at m3
      go_region_with (first
        | (go_at_call 31; refine (sign_w k _).mono ?_; rintro e w1 ⟨rfl, hb1⟩; have m2' := (hb1.cell (p := ⟨b2, 0, none⟩) (by simp [World.setCell] <;> omega)).trans (m2 (.int .i32 k)))
        | (go_at_call 23; refine (ends_w B R _ vis v _ w1 HB.out (HRW.out.below hb1)).mono ?_; rintro e w2 ⟨rfl, hR2, hB2⟩))
      all_goals go_wp2
      all_goals go_end0
      all_goals exact ⟨rfl, v, hR2, fun h => by cases hh : rtZ .sign k <;> simp [endsS, hh] at h, ((HBW.out.trans (hb1.mono HSW.out)).trans hB2)⟩
    · simp only [rtF] at m3
      go_region_with (first
        | (go_at_call 29; refine (object_w k _).mono ?_; rintro e w1 ⟨rfl, hb1⟩; have m2' := (hb1.cell (p := ⟨b2, 0, none⟩) (by simp [World.setCell] <;> omega)).trans (m2 (.int .i32 k)))
        | (go_at_call 23; refine (ends_w B R _ vis v _ w1 HB.out (HRW.out.below hb1)).mono ?_; rintro e w2 ⟨rfl, hR2, hB2⟩))
      all_goals go_wp2
      all_goals go_end0
      all_goals exact ⟨rfl, v, hR2, fun h => by cases hh : rtZ .object k <;> simp [endsS, hh] at h, ((HBW.out.trans (hb1.mono HSW.out)).trans hB2)⟩
    · simp only [rtF] at m3
      go_region_with (first
        | (go_at_call 32; refine (mac_w k _).mono ?_; rintro e w1 ⟨rfl, hb1⟩; have m2' := (hb1.cell (p := ⟨b2, 0, none⟩) (by simp [World.setCell] <;> omega)).trans (m2 (.int .i32 k)))
        | (go_at_call 23; refine (ends_w B R _ vis v _ w1 HB.out (HRW.out.below hb1)).mono ?_; rintro e w2 ⟨rfl, hR2, hB2⟩))
      all_goals go_wp2
      all_goals go_end0
      all_goals exact ⟨rfl, v, hR2, fun h => by cases hh : rtZ .mac k <;> simp [endsS, hh] at h, ((HBW.out.trans (hb1.mono HSW.out)).trans hB2)⟩
    · simp only [rtF] at m3
      go_region_with (first
        | (go_at_call 34; refine (isG_w k _).mono ?_; rintro e w1 ⟨rfl, hb1⟩; have m2' := (hb1.cell (p := ⟨b2, 0, none⟩) (by simp [World.setCell] <;> omega)).trans (m2 (.int .i32 k)))
        | (go_at_call 23; refine (ends_w B R _ vis v _ w1 HB.out (HRW.out.below hb1)).mono ?_; rintro e w2 ⟨rfl, hR2, hB2⟩))
      all_goals go_wp2
      all_goals go_end0
      all_goals exact ⟨rfl, v, hR2, fun h => by cases hh : rtZ .isG k <;> simp [endsS, hh] at h, ((HBW.out.trans (hb1.mono HSW.out)).trans hB2)⟩
  · have k1' : w.cell? ⟨b1, 0, none⟩ = some (.pointer (some ⟨R, 4, none⟩)) := k1
    clear k1 k4
    have m2 : ∀ x, (w.setCell ⟨R, 4, none⟩ x).cell? ⟨b2, 0, none⟩ = some (.pointer (some ⟨R, 0, none⟩)) := fun x => by rw [World.cell?_setCell_other _ _ _ _ (by simp <;> omega)]; exact k2
    have m3 : ∀ x, (w.setCell ⟨R, 4, none⟩ x).cell? ⟨b3, 0, none⟩ = some (.func (.func (rtF rt)) #[] #[]) := fun x => by rw [World.cell?_setCell_other _ _ _ _ (by simp <;> omega)]; exact k3
    have HRW : Aside0 (Row (w.setCell ⟨R, 4, none⟩ (.int .i32 k)).drew R { s with arg := k } vis v) := ⟨Row.set HR.out 4 _⟩
    have HBW : Aside0 (Below B w (w.setCell ⟨R, 4, none⟩ (.int .i32 k)).drew) := ⟨((Below.refl _ _).setCell HB.out _).drew⟩
    have HSW : Aside0 (B ≤ (w.setCell ⟨R, 4, none⟩ (.int .i32 k)).drew.heap.size) := ⟨by have := HB.out; have := HBW.out.size; omega⟩
    go_enter Try.func35, Try.ntmps35
    go_wp2
    cases rt
    · simp only [rtF] at m3
      go_region_with (first
        | (go_at_call 31; refine (sign_w k _).mono ?_; rintro e w1 ⟨rfl, hb1⟩; have m2' := (hb1.cell (p := ⟨b2, 0, none⟩) (by simp [World.setCell] <;> omega)).trans (m2 (.int .i32 k)))
        | (go_at_call 23; refine (ends_w B R _ vis v _ w1 HB.out (HRW.out.below hb1)).mono ?_; rintro e w2 ⟨rfl, hR2, hB2⟩))
      all_goals go_wp2
      all_goals go_end0
      all_goals exact ⟨rfl, v, hR2, fun h => by cases hh : rtZ .sign k <;> simp [endsS, hh] at h, ((HBW.out.trans (hb1.mono HSW.out)).trans hB2)⟩
    · simp only [rtF] at m3
      go_region_with (first
        | (go_at_call 29; refine (object_w k _).mono ?_; rintro e w1 ⟨rfl, hb1⟩; have m2' := (hb1.cell (p := ⟨b2, 0, none⟩) (by simp [World.setCell] <;> omega)).trans (m2 (.int .i32 k)))
        | (go_at_call 23; refine (ends_w B R _ vis v _ w1 HB.out (HRW.out.below hb1)).mono ?_; rintro e w2 ⟨rfl, hR2, hB2⟩))
      all_goals go_wp2
      all_goals go_end0
      all_goals exact ⟨rfl, v, hR2, fun h => by cases hh : rtZ .object k <;> simp [endsS, hh] at h, ((HBW.out.trans (hb1.mono HSW.out)).trans hB2)⟩
    · simp only [rtF] at m3
      go_region_with (first
        | (go_at_call 32; refine (mac_w k _).mono ?_; rintro e w1 ⟨rfl, hb1⟩; have m2' := (hb1.cell (p := ⟨b2, 0, none⟩) (by simp [World.setCell] <;> omega)).trans (m2 (.int .i32 k)))
        | (go_at_call 23; refine (ends_w B R _ vis v _ w1 HB.out (HRW.out.below hb1)).mono ?_; rintro e w2 ⟨rfl, hR2, hB2⟩))
      all_goals go_wp2
      all_goals go_end0
      all_goals exact ⟨rfl, v, hR2, fun h => by cases hh : rtZ .mac k <;> simp [endsS, hh] at h, ((HBW.out.trans (hb1.mono HSW.out)).trans hB2)⟩
    · simp only [rtF] at m3
      go_region_with (first
        | (go_at_call 34; refine (isG_w k _).mono ?_; rintro e w1 ⟨rfl, hb1⟩; have m2' := (hb1.cell (p := ⟨b2, 0, none⟩) (by simp [World.setCell] <;> omega)).trans (m2 (.int .i32 k)))
        | (go_at_call 23; refine (ends_w B R _ vis v _ w1 HB.out (HRW.out.below hb1)).mono ?_; rintro e w2 ⟨rfl, hR2, hB2⟩))
      all_goals go_wp2
      all_goals go_end0
      all_goals exact ⟨rfl, v, hR2, fun h => by cases hh : rtZ .isG k <;> simp [endsS, hh] at h, ((HBW.out.trans (hb1.mono HSW.out)).trans hB2)⟩
end Go.Proofs.Ytfhlohmhacfngaa.Ext
