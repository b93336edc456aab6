/- The law RegsBeside, by its walk. -/
import Derived.Test.YtbcbfmhcoemnpaaExt09K
import Derived.Test.YtbcbfmhcoemnpaaXRRx2
import Derived.Test.YtbcbfmhcoemnpaaXRRx3
import Derived.Test.YtbcbfmhcoemnpaaXRRx4
import Derived.Test.YtbcbfmhcoemnpaaXRRx0
import Derived.Test.YtbcbfmhcoemnpaaXRBx0
import Derived.Test.YtbcbfmhcoemnpaaWMore
import Derived.WalkKit
import Derived.WalkMore
import Derived.Below
import Derived.KernelRfl
import Derived.LoopTactic
import Derived.Deep.RegionWith
import Derived.Deep.RegionHeld3
import Derived.IntWalk
import Derived.Deep.DeepCutAuto
import Derived.Deep.CutBlock
import Derived.BigQuiet
import Derived.Laws.RangeString
import Derived.Laws.RangeAny
import Derived.Laws.Rows
import Derived.Laws.Runes
import Derived.Lib.OthersKept
import Derived.OpenShut
set_option linter.unusedVariables false
set_option linter.unusedSimpArgs false
namespace Go.Proofs.Ytbcbfmhcoemnpaa.Ext
open Go.RowKit Go.Lib Go.Proofs.YtbcbfmhcoemnpaaW.PrintWords Go.Proofs.YtbcbfmhcoemnpaaW.PrintMore Go.Proofs.Ytbcbfmhcoemnpaa.XRR

def cvR (x : XRB.S58) : Rn := ⟨x.f0, x.f1⟩
theorem C_cv {w : World} {A : Option Addr} {n : Nat} {xs : List XRB.S58} (h : Kd.C XRB.k58 w A n xs) : Kd.C k58 w A n (xs.map cvR) :=
  C_map cvR rfl (fun w x cs hk => by rw [XRB.k58_open hk]; exact k58_mk w (cvR x)) h
theorem cell_old {w W : World} (hb : Below w.heap.size w W) {a : Addr} {v : Value} (h : w.cell? a = some v) : W.cell? a = some v := by
  rw [hb.cell (p := a) ?_]
  · exact h
  · unfold World.cell? at h
    cases e : w.heap[a.block]? with
    | none => rw [e] at h; cases h
    | some o => exact (Array.getElem?_eq_some_iff.1 e).1
def nmB : ByteArray := ⟨#[34, 45, 48, 49, 50, 51, 52, 53, 54, 55, 56, 57, 97, 98, 99, 100, 101, 102, 103, 104, 105, 106, 107, 108, 109, 110, 111, 112, 113, 114, 115, 116, 117, 118, 119, 120, 121, 122]⟩
theorem nm_ok : ∀ q : Fin 38, let k := (nmB.get! q).toNat; k = 34 ∨ k = 45 ∨ (48 ≤ k ∧ k ≤ 57) ∨ (97 ≤ k ∧ k ≤ 122) := by decide
theorem nm_kind (q : Nat) (h : q < 38) : (((nmB.get! q).toNat : Nat) : Int) = 34 ∨ (((nmB.get! q).toNat : Nat) : Int) = 45 ∨ (48 ≤ (((nmB.get! q).toNat : Nat) : Int) ∧ (((nmB.get! q).toNat : Nat) : Int) ≤ 57) ∨ (97 ≤ (((nmB.get! q).toNat : Nat) : Int) ∧ (((nmB.get! q).toNat : Nat) : Int) ≤ 122) := by
  have := nm_ok ⟨q, h⟩
  dsimp only at this
  omega
theorem next_at (W : World) (p : Nat) (s : ByteArray) (pos : Nat) (hb : W.heap[p]? = some (.stringIter s pos)) (h : pos < s.size) (ha : (s.get! pos).toNat < 128) :
    ∃ W2, (∀ ty, (Instr.next (.pointer (some ⟨p, 0, none⟩)) true ty).run Try.prog W = .ok (.tuple #[.bool true, .int .i64 pos, .int .i32 ((s.get! pos).toNat : Nat)]) W2) ∧ W2.heap[p]? = some (.stringIter s (pos + 1)) ∧ W.grownBy W2 (some p) := by
  have hlt := (Array.getElem?_eq_some_iff.1 hb).1
  have eg : s.get! pos = s[pos]'h := by
    simp [ByteArray.get!, getElem!_pos, h]
    rfl
  rw [eg] at ha ⊢
  refine ⟨{ W with heap := W.heap.setIfInBounds p (.stringIter s (pos + 1)) }, fun ty => ?_, ?_, ⟨rfl, rfl, rfl, by simp, fun k hk hne => ?_⟩⟩
  · simp only [Instr.next, getObj, setObj, Sem.run_bind, Sem.run, hb, Result.andThen, h, if_true, decode_ascii s pos h ha]
    simp [goInt, Sem.run, hb]
  · simp [hlt]
  · simp only [Array.getElem?_setIfInBounds]
    rw [if_neg (fun e => hne (by rw [e]))]
theorem next_end (W : World) (p : Nat) (s : ByteArray) (pos : Nat) (hb : W.heap[p]? = some (.stringIter s pos)) (h : ¬ pos < s.size) (ty : TypeId) :
    (Instr.next (.pointer (some ⟨p, 0, none⟩)) true ty).run Try.prog W = .ok (.tuple #[.bool false]) W := by
  simp [Instr.next, getObj, Sem.run, hb, h]
/-- A change of what is no row: the registers stay. -/
theorem RG.iter {bs : Nat} {w w' : World} {B p : Nat} {g : List Hs} {vs : List Value} {s : ByteArray} {pos : Nat} (h : RG bs w B g vs) (hp : w.heap[p]? = some (.stringIter s pos)) (hG : w.grownBy w' (some p)) : RG bs w' B g vs := by
  refine ⟨blk_grown h.x hG (fun e => ?_), h.n, h.m, fun i hi => ?_, Nat.le_trans h.lb hG.size⟩
  · injection e with e
    subst e
    rw [h.x] at hp
    cases hp
  · refine Kd.R_mono (Kd.R_step (Kd.R_bound (h.r i hi)) (fun k hk hlt => hG.block k hlt (fun e => ?_))) (fun _ _ => trivial)
    obtain ⟨-, -, -, q, -, cells, hc⟩ := hk
    injection e with e
    subst e
    rw [hc] at hp
    cases hp
theorem ST.iter {w W W' : World} {B p : Nat} {g : List Hs} {s : ByteArray} {pos : Nat} (h : ST w W B g) (hp : W.heap[p]? = some (.stringIter s pos)) (hG : W.grownBy W' (some p)) (hle : w.heap.size ≤ p) : ST w W' B g := by
  obtain ⟨vs, hr⟩ := h.rg
  exact ⟨pw_below_grown h.bl (some p) h.bl.size hG (fun k e => by injection e with e; rw [← e]; exact hle), h.le, h.gg, vs, hr.iter hp hG⟩
theorem copy_s {w W : World} {B : Nat} {g : List Hs} (hs : ST w W B g) : Calls Try.prog 17 #[.pointer (some ⟨B, 0, none⟩)] W fun e w' => ∃ C, e = .returned (.pointer (some ⟨C, 0, none⟩)) ∧ W.heap.size ≤ C ∧ ST w w' C g ∧ Below W.heap.size W w' := by
  obtain ⟨vs, hr⟩ := hs.rg
  refine (Copy_w W B g vs hr).mono ?_
  rintro e w' ⟨C, rfl, h1, h2, h3⟩
  exact ⟨C, rfl, h1, ⟨below_step hs.bl h3, Nat.le_trans hs.bl.size h1, hs.gg, vs, h2⟩, h3⟩
/-- Both registers, and the last act's box. -/
structure B2 (w W : World) (B C : Nat) (g g2 : List Hs) (av : Array Value) : Prop where
  b : ST w W B g
  c : ST w W C g2
  ne : C ≠ B
  x : W.heap[w.heap.size]? = some (.cells av 42 (0, 0))
theorem B2.below {w W W' : World} {B C : Nat} {g g2 : List Hs} {av : Array Value} (h : B2 w W B C g g2 av) (hb : Below W.heap.size W W') : B2 w W' B C g g2 av := ⟨h.b.below hb, h.c.below hb, h.ne, (hb.block _ (blk_lt h.x)).trans h.x⟩
theorem B2.turn {w W W' : World} {B C : Nat} {g g' g2 : List Hs} {av : Array Value} (h : B2 w W B C g g2 av) (hs : ST w W' B g') (hg : W.grownBy W' (some B)) (hne : w.heap.size ≠ B) : B2 w W' B C g' g2 av := by
  obtain ⟨vs, hr⟩ := h.b.rg
  obtain ⟨vs2, hr2⟩ := h.c.rg
  exact ⟨hs, h.c.beside (g := g) ⟨vs2, hr2.beside hr h.ne hg⟩ hg h.b.le, h.ne, blk_grown h.x hg (fun e => hne (by injection e))⟩
theorem B2.iter {w W W' : World} {B C p : Nat} {g g2 : List Hs} {av : Array Value} {s : ByteArray} {pos : Nat} (h : B2 w W B C g g2 av) (hp : W.heap[p]? = some (.stringIter s pos)) (hG : W.grownBy W' (some p)) (hle : w.heap.size ≤ p) : B2 w W' B C g g2 av :=
  ⟨h.b.iter hp hG hle, h.c.iter hp hG hle, h.ne, blk_grown h.x hG (fun e => by
    injection e with e
    rw [← e, h.x] at hp
    cases hp)⟩
theorem iterPos_of {W : World} {p : Nat} {s : ByteArray} {q : Nat} (h : W.heap[p]? = some (.stringIter s q)) : W.iterPos p = q := by
  unfold World.iterPos
  rw [h]
/-- In the law's last loop: both registers, and where the loop stands in the names. -/
structure I2 (w W : World) (B C p q : Nat) (g g2 : List Hs) : Prop where
  it : W.heap[p]? = some (.stringIter nmB q)
  b : ST w W B g
  c : ST w W C g2
  le : w.heap.size ≤ p
theorem I2.below {w W W' : World} {B C p q : Nat} {g g2 : List Hs} (h : I2 w W B C p q g g2) (hb : Below W.heap.size W W') : I2 w W' B C p q g g2 := ⟨(hb.block _ (blk_lt h.it)).trans h.it, h.b.below hb, h.c.below hb, h.le⟩
theorem I2.step {w W : World} {B C p q : Nat} {g g2 : List Hs} (h : I2 w W B C p q g g2) (hq : q < 38) : ∃ W2, (∀ ty, (Instr.next (.pointer (some ⟨p, 0, none⟩)) true ty).run Try.prog W = .ok (.tuple #[.bool true, .int .i64 q, .int .i32 ((nmB.get! q).toNat : Nat)]) W2) ∧ I2 w W2 B C p (q + 1) g g2 := by
  have ha : (nmB.get! q).toNat < 128 := by have := nm_ok ⟨q, hq⟩; dsimp only at this; omega
  obtain ⟨W2, h1, h2, h3⟩ := next_at W p nmB q h.it hq ha
  exact ⟨W2, h1, h2, h.b.iter h.it h3 h.le, h.c.iter h.it h3 h.le, h.le⟩
theorem I2.less {w W W' : World} {B C p q : Nat} {g g2 : List Hs} (h : I2 w W B C p q g g2) (h' : I2 w W' B C p (q + 1) g g2) (hq : q < 38) : 38 - W'.iterPos p < 38 - W.iterPos p := by
  rw [iterPos_of h.it, iterPos_of h'.it]
  omega
theorem get_len {g : List Hs} (h : GG g) (n : Int) : (getM g n).1.l.length ≤ 4096 := by
  unfold getM
  split
  · exact Nat.zero_le _
  · split
    · exact h.len _
    · exact Nat.zero_le _
set_option maxRecDepth 100000 in
set_option maxHeartbeats 16000000 in
theorem Beside_w (A0 : Option Addr) (c0 : Nat) (l : List XRB.S42) (n : Int) (s : ByteArray) (A : Option Addr) (c : Nat) (ml : List Rn) (b cut wide : Bool) (w : World) (hr : Kd.C XRB.k42 w A0 l.length l) (hc : l.length ≤ c0) (hl : ∀ x, x ∈ l → -2147483648 ≤ x.f0 ∧ x.f0 ≤ 2147483647)
    (hm : Kd.C k58 w A ml.length ml) (hmc : ml.length ≤ c) (h0 : -2147483648 ≤ n) (h1 : n ≤ 2147483647) :
    Calls Try.prog 5 #[.slice A0 l.length c0, aV n s (.slice A ml.length c) b cut wide] w fun e w' => e = .returned (.bool true) ∧ Below w.heap.size w w' := by
  have HR := Aside0.mk hr
  have HM := Aside0.mk (⟨hm, hmc⟩ : _ ∧ _)
  have HAL := Aside0.mk (fun (w1 : World) => alive_w w1)
  clear hr hm
  go_enter Try.func5, Try.ntmps5
  go_wp2_with (first | (go_at_call 7; (with_reducible refine (HAL.out _).mono ?_); rintro e w1 ⟨rfl, hb1⟩; have HB1 := Aside0.mk (below_step (below_alloc (Below.refl w.heap.size w) _) hb1); have HA := Aside0.mk ((hb1.block w.heap.size (by simp)).trans (heap_alloc_new w _)); clear hb1) | (go_at_call 8; (with_reducible refine (new_s w _ HB1.out).mono ?_); rintro e w2 ⟨rfl, hs2, hb2⟩; have HS2 := Aside0.mk hs2; have HL1 := Aside0.mk (blk_lt HA.out); have HA := Aside0.mk ((hb2.block w.heap.size (blk_lt HA.out)).trans HA.out); clear hs2 hb2))
  have HNE : Aside0 (w.heap.size ≠ w1.heap.size) := ⟨Nat.ne_of_lt HL1.out⟩
  go_loopw [6] (fun ii wr => ∃ (q : Nat) (g : List Hs), ii = .int .i64 q ∧ q ≤ l.length ∧ q ≤ 40 ∧ Aside0 (ST w wr w1.heap.size g ∧ wr.heap[w.heap.size]? = some (.cells #[.int .i32 n, .string s, .slice A ml.length c, .bool b, .bool cut, .bool wide] 42 (0, 0)))) (fun ii _ => l.length - (intOf ii).toNat)
  case atStart => exact ⟨0, _, rfl, Nat.zero_le _, by decide, ⟨⟨HS2.out, HA.out⟩⟩⟩
  case round =>
    obtain ⟨q, g, rfl, hq, hq40, HL⟩ := hrel
    by_cases hex : q < l.length ∧ q < 40
    · obtain ⟨hql, hq4⟩ := hex
      obtain ⟨ad, A1, c1, eA, y0, y1, y2, y3, y4, y5, hc1, hC1⟩ := XRB.at_T42 HR.out (q : Int) (by omega) (by omega)
      cases eA
      rw [Int.toNat_natCast] at y0 y1 y2 y3 y4 y5
      have hC2 := C_cv hC1
      have hrg := hl (XRB.rd_T42 l (q : Int)) (by
        unfold XRB.rd_T42
        rw [Int.toNat_natCast, List.getD_eq_getElem?_getD, List.getElem?_eq_getElem hql]
        exact List.getElem_mem _)
      clear hC1
      generalize XRB.rd_T42 l (q : Int) = y at *
      obtain ⟨an, ⟨⟨x, ym⟩, ab⟩, acut, awide⟩ := y
      simp only at y0 y1 y2 y3 y4 y5 hc1 hC2 hrg
      rw [show ym.length = (ym.map cvR).length from (List.length_map _).symm] at y2 hc1 hC2
      generalize ym.map cvR = m at *
      have HZ := Aside0.mk (fun (W : World) (hb : Below w.heap.size w W) => (⟨cell_old hb y0, cell_old hb y1, cell_old hb y2, cell_old hb y3, cell_old hb y4, cell_old hb y5⟩ : _ ∧ _ ∧ _ ∧ _ ∧ _ ∧ _))
      have HFI := Aside0.mk (fun (W : World) (h : ST w W w1.heap.size g) => bureaulaw04_Fits.calls x A1 c1 m _ W (Kd.C_below hC2 h.bl) hc1 (fit_f x m))
      obtain ⟨z0, z1, z2, z3, z4, z5⟩ := HZ.out wr HL.out.1.bl
      have HDO := Aside0.mk (fun (hf : m.length ≤ 5000) (W : World) (h : ST w W w1.heap.size g) => does_w h ⟨x, m, ab⟩ A1 c1 an acut awide (RA.of_old hC2 hc1 h.bl h.le) (by show m.length ≤ 100000; omega) hrg.1 hrg.2)
      clear y0 y1 y2 y3 y4 y5 hC2 hc1 hrg
      cases hfi : fitB x m
      · rw [hfi] at HFI
        clear hfi HDO
        go_wp2_with (first | (go_at_call 9; (with_reducible refine (HFI.out _ HL.out.1).mono ?_); rintro e w3 ⟨rfl, hb3⟩; have HL := Aside0.mk (⟨HL.out.1.below hb3, (hb3.block _ (blk_lt HL.out.2)).trans HL.out.2⟩ : _ ∧ _); clear hb3 z0 z1 z2 z3 z4 z5; obtain ⟨z0, z1, z2, z3, z4, z5⟩ := HZ.out w3 HL.out.1.bl))
        exact ⟨⟨q + 1, g, by go_num, by omega, by omega, HL⟩, by simp [intOf]; omega⟩
      · have hf5 : m.length ≤ 5000 := (of_decide_eq_true hfi : _ ∧ _).2
        have HDO := Aside0.mk (HDO.out hf5)
        rw [hfi] at HFI
        clear hfi hf5
        go_wp2_with (first | (go_at_call 9; (with_reducible refine (HFI.out _ HL.out.1).mono ?_); rintro e w3 ⟨rfl, hb3⟩; have HL := Aside0.mk (⟨HL.out.1.below hb3, (hb3.block _ (blk_lt HL.out.2)).trans HL.out.2⟩ : _ ∧ _); clear hb3 z0 z1 z2 z3 z4 z5; obtain ⟨z0, z1, z2, z3, z4, z5⟩ := HZ.out w3 HL.out.1.bl) | (go_at_call 15; (with_reducible refine (HDO.out _ HL.out.1).mono ?_); rintro e w5 ⟨rfl, hs5, hg5⟩; have HL := Aside0.mk (⟨hs5, blk_grown HL.out.2 hg5 (fun e => HNE.out (by injection e))⟩ : _ ∧ _); clear hs5 hg5 z0 z1 z2 z3 z4 z5))
        exact ⟨⟨q + 1, _, by go_num, by omega, by omega, HL⟩, by simp [intOf]; omega⟩
    · have hex2 : ¬ q < l.length ∨ (q < l.length ∧ ¬ q < 40) := by omega
      clear hl HR hc
      rcases hex2 with hx | ⟨hx, hx2⟩
      · have hx' : l.length ≤ q := by omega
        have HF2 := Aside0.mk (fun (W : World) (hb : Below w.heap.size w W) => bureaulaw04_Fits.calls s A c ml _ W (Kd.C_below HM.out.1 hb) HM.out.2 (fit_f s ml))
        cases hf2 : fitB s ml
        · rw [hf2] at HF2
          go_wp2_with (first | (go_at_call 17; (with_reducible refine (copy_s HL.out.1).mono ?_); rintro e w6 ⟨C, rfl, hC, hc6, hb6⟩; have HB := Aside0.mk (⟨HL.out.1.below hb6, hc6, (by have := HL.out.1.lt; omega), (hb6.block _ (blk_lt HL.out.2)).trans HL.out.2⟩ : B2 w w6 w1.heap.size C g g _); have hx6 := HB.out.x; have x0 := cell_of_row w6 w.heap.size 0 _ _ _ hx6; have x1 := cell_of_row w6 w.heap.size 1 _ _ _ hx6; have x2 := cell_of_row w6 w.heap.size 2 _ _ _ hx6; have x3 := cell_of_row w6 w.heap.size 3 _ _ _ hx6; have x4 := cell_of_row w6 w.heap.size 4 _ _ _ hx6; have x5 := cell_of_row w6 w.heap.size 5 _ _ _ hx6; clear hc6 hb6 hx6) | (go_at_call 9; (with_reducible refine (HF2.out _ HB.out.b.bl).mono ?_); rintro e w7 ⟨rfl, hb7⟩; have HB := Aside0.mk (HB.out.below hb7); clear hb7 x0 x1 x2 x3 x4 x5; have hx7 := HB.out.x; have x0 := cell_of_row w7 w.heap.size 0 _ _ _ hx7; have x1 := cell_of_row w7 w.heap.size 1 _ _ _ hx7; have x2 := cell_of_row w7 w.heap.size 2 _ _ _ hx7; have x3 := cell_of_row w7 w.heap.size 3 _ _ _ hx7; have x4 := cell_of_row w7 w.heap.size 4 _ _ _ hx7; have x5 := cell_of_row w7 w.heap.size 5 _ _ _ hx7; clear hx7))
          go_ret
          exact ⟨rfl, HB.out.b.bl⟩
        · have hf5 : ml.length ≤ 5000 := (of_decide_eq_true hf2 : _ ∧ _).2
          rw [hf2] at HF2
          have HD2 := Aside0.mk (fun (W : World) (h : ST w W w1.heap.size g) => does_w h ⟨s, ml, b⟩ A c n cut wide (RA.of_old HM.out.1 HM.out.2 h.bl h.le) (by show ml.length ≤ 100000; omega) h0 h1)
          obtain ⟨g', ev, hdo⟩ : ∃ g' ev, doM g n ⟨s, ml, b⟩ cut wide = (g', ev) := ⟨_, _, rfl⟩
          have HDO := Aside0.mk hdo
          rw [hdo] at HD2
          clear hf2 hf5 hdo
          by_cases hlo : n < 65
          · obtain ⟨nl, hnl⟩ : ∃ nl : Int, nl = n := ⟨_, rfl⟩
            have HLN : Aside0 (lowN n = nl) := ⟨by unfold lowN; rw [if_neg (by omega), hnl]⟩
            have HBS : Aside0 (∀ k : Int, (k = 34 ∨ k = 45 ∨ (48 ≤ k ∧ k ≤ 57) ∨ (97 ≤ k ∧ k ≤ 122)) → ¬ (ev = 0 ∧ nl ≠ 95 ∧ (nl < 97 ∨ nl > 122)) → ¬ (ev = 0 ∧ nl ≠ 95 ∧ (k = nl ∨ k = 34)) → getM g' k = getM g k) := ⟨fun k hk a1 a2 => by
              have := beside (g := g) (n := n) (x := ⟨s, ml, b⟩) (cut := cut) (wide := wide) hk (by rw [HDO.out, HLN.out]; exact a1) (by rw [HDO.out, HLN.out]; exact a2)
              rw [HDO.out] at this
              exact this⟩
            by_cases he : ev = 0
            · subst he
              have l95 : (n != 95) = true := bne_iff_ne.2 (by omega)
              have l97 : n < 97 := by omega
              go_wp2_with (first | (go_at_call 17; (with_reducible refine (copy_s HL.out.1).mono ?_); rintro e w6 ⟨C, rfl, hC, hc6, hb6⟩; have HB := Aside0.mk (⟨HL.out.1.below hb6, hc6, (by have := HL.out.1.lt; omega), (hb6.block _ (blk_lt HL.out.2)).trans HL.out.2⟩ : B2 w w6 w1.heap.size C g g _); have hx6 := HB.out.x; have x0 := cell_of_row w6 w.heap.size 0 _ _ _ hx6; have x1 := cell_of_row w6 w.heap.size 1 _ _ _ hx6; have x2 := cell_of_row w6 w.heap.size 2 _ _ _ hx6; have x3 := cell_of_row w6 w.heap.size 3 _ _ _ hx6; have x4 := cell_of_row w6 w.heap.size 4 _ _ _ hx6; have x5 := cell_of_row w6 w.heap.size 5 _ _ _ hx6; clear hc6 hb6 hx6) | (go_at_call 9; (with_reducible refine (HF2.out _ HB.out.b.bl).mono ?_); rintro e w7 ⟨rfl, hb7⟩; have HB := Aside0.mk (HB.out.below hb7); clear hb7 x0 x1 x2 x3 x4 x5; have hx7 := HB.out.x; have x0 := cell_of_row w7 w.heap.size 0 _ _ _ hx7; have x1 := cell_of_row w7 w.heap.size 1 _ _ _ hx7; have x2 := cell_of_row w7 w.heap.size 2 _ _ _ hx7; have x3 := cell_of_row w7 w.heap.size 3 _ _ _ hx7; have x4 := cell_of_row w7 w.heap.size 4 _ _ _ hx7; have x5 := cell_of_row w7 w.heap.size 5 _ _ _ hx7; clear hx7) | (go_at_call 15; (with_reducible refine (HD2.out _ HB.out.b).mono ?_); rintro e w8 ⟨rfl, hs8, hg8⟩; have HB := Aside0.mk (HB.out.turn hs8 hg8 HNE.out); clear hs8 hg8 x0 x1 x2 x3 x4 x5; have hx8 := HB.out.x; have x0 := cell_of_row w8 w.heap.size 0 _ _ _ hx8; clear hx8))
              go_ret
              exact ⟨rfl, HB.out.b.bl⟩
            · have he' : (ev == 0) = false := beq_eq_false_iff_ne.2 he
              go_wp2_with (first | (go_at_call 17; (with_reducible refine (copy_s HL.out.1).mono ?_); rintro e w6 ⟨C, rfl, hC, hc6, hb6⟩; have HB := Aside0.mk (⟨HL.out.1.below hb6, hc6, (by have := HL.out.1.lt; omega), (hb6.block _ (blk_lt HL.out.2)).trans HL.out.2⟩ : B2 w w6 w1.heap.size C g g _); have hx6 := HB.out.x; have x0 := cell_of_row w6 w.heap.size 0 _ _ _ hx6; have x1 := cell_of_row w6 w.heap.size 1 _ _ _ hx6; have x2 := cell_of_row w6 w.heap.size 2 _ _ _ hx6; have x3 := cell_of_row w6 w.heap.size 3 _ _ _ hx6; have x4 := cell_of_row w6 w.heap.size 4 _ _ _ hx6; have x5 := cell_of_row w6 w.heap.size 5 _ _ _ hx6; clear hc6 hb6 hx6) | (go_at_call 9; (with_reducible refine (HF2.out _ HB.out.b.bl).mono ?_); rintro e w7 ⟨rfl, hb7⟩; have HB := Aside0.mk (HB.out.below hb7); clear hb7 x0 x1 x2 x3 x4 x5; have hx7 := HB.out.x; have x0 := cell_of_row w7 w.heap.size 0 _ _ _ hx7; have x1 := cell_of_row w7 w.heap.size 1 _ _ _ hx7; have x2 := cell_of_row w7 w.heap.size 2 _ _ _ hx7; have x3 := cell_of_row w7 w.heap.size 3 _ _ _ hx7; have x4 := cell_of_row w7 w.heap.size 4 _ _ _ hx7; have x5 := cell_of_row w7 w.heap.size 5 _ _ _ hx7; clear hx7) | (go_at_call 15; (with_reducible refine (HD2.out _ HB.out.b).mono ?_); rintro e w8 ⟨rfl, hs8, hg8⟩; have HB := Aside0.mk (HB.out.turn hs8 hg8 HNE.out); clear hs8 hg8 x0 x1 x2 x3 x4 x5; have hx8 := HB.out.x; have x0 := cell_of_row w8 w.heap.size 0 _ _ _ hx8; clear hx8))
              subst hnl
              have HNO : Aside0 (¬ (ev = 0 ∧ nl ≠ 95 ∧ (nl < 97 ∨ nl > 122))) := ⟨fun h => he h.1⟩
              have HNS : Aside0 (¬ (ev = 0 ∧ nl ≠ 95)) := ⟨fun h => he h.1⟩
              have hI0 : I2 w (w8.iter nmB 0) w1.heap.size C w8.heap.size 0 g' g := ⟨World.iter_heap _ _ _, HB.out.b.below (below_alloc (Below.refl _ _) _), HB.out.c.below (below_alloc (Below.refl _ _) _), HB.out.b.bl.size⟩
              have HI0 := Aside0.mk hI0
              clear hI0 HB
              go_loopw [11] (fun _ wr => ∃ (wr1 : World) (q : Nat), wr1 = wr ∧ q ≤ 38 ∧ Aside0 (I2 w wr1 w1.heap.size C w8.heap.size q g' g)) (fun _ wr => 38 - wr.iterPos w8.heap.size)
              case atStart => exact ⟨_, 0, rfl, by decide, HI0⟩
              case round =>
                obtain ⟨wr1, q, rfl, hq, HI⟩ := hrel
                by_cases hq38 : q < 38
                · skip
                  obtain ⟨W2, hnx, hI2⟩ := HI.out.step hq38
                  have HI0 := HI
                  have HI := Aside0.mk hI2
                  have hk := nm_kind q hq38
                  generalize (nmB.get! q).toNat = k at *
                  have HGB := Aside0.mk (fun (W : World) (h : ST w W w1.heap.size g') => get_s h (k : Int) (by omega) (by omega))
                  have HGC := Aside0.mk (fun (W : World) (h : ST w W C g) => get_s h (k : Int) (by omega) (by omega))
                  have hsk : ¬ (ev = 0 ∧ nl ≠ 95 ∧ ((k : Int) = nl ∨ (k : Int) = 34)) := fun h => HNS.out ⟨(by first | exact h.1 | trivial), h.2.1⟩
                  have heq : getM g' (k : Int) = getM g (k : Int) := HBS.out (k : Int) hk (fun h => HNO.out (by first | exact h | exact ⟨rfl, h.2⟩)) (fun h => hsk (by first | exact h | exact ⟨rfl, h.2⟩))
                  have hlen : (getM g (k : Int)).1.l.length ≤ 100000 := Nat.le_trans (get_len HI.out.c.gg (k : Int)) (by decide)
                  rw [heq] at HGB
                  generalize getM g (k : Int) = r at *
                  obtain ⟨⟨rs, rl, rb⟩, re⟩ := r
                  dsimp only at HGB HGC hlen
                  have HSA := Aside0.mk (fun (W : World) (A7 : Option Addr) (c7 : Nat) (A9 : Option Addr) (c9 : Nat) {base base2 : Nat} (hr : Kd.R k58 58 W base (fun _ => True) (.slice A7 rl.length c7) rl) (hr2 : Kd.R k58 58 W base2 (fun _ => True) (.slice A9 rl.length c9) rl) => bureauref09_Same.calls (rl.length + 1) rs A7 c7 rl rb rs A9 c9 rl rb true W (Kd.R_reads' hr).2.2 (Kd.R_reads' hr).2.1 (Kd.R_reads' hr2).2.2 (Kd.R_reads' hr2).2.1 (same9 rs rl rb (by omega)))
                  clear hI2 heq hlen hk
                  go_wp2_with (first | (go_at_call 12; (with_reducible refine (HGB.out _ HI.out.b).mono ?_); rintro e w3 ⟨A3, c3, rfl, hr3, hb3⟩; have HR3 := Aside0.mk hr3; have HI := Aside0.mk (HI.out.below hb3); clear hr3 hb3) | (go_at_call 12; (with_reducible refine (HGC.out _ (HI.out.below (below_alloc (Below.refl _ _) _)).c).mono ?_); rintro e w4 ⟨A4, c4, rfl, hr4, hb4⟩; have HR4 := Aside0.mk hr4; have bx := (hb4.block w3.heap.size (by simp)).trans (heap_alloc_new w3 _); have u0 := cell_of_row w4 w3.heap.size 0 _ _ _ bx; have u1 := cell_of_row w4 w3.heap.size 1 _ _ _ bx; have u2 := cell_of_row w4 w3.heap.size 2 _ _ _ bx; have lx := blk_lt bx; have hb34 := below_step (below_alloc (Below.refl w3.heap.size w3) _) hb4; have HR3 := Aside0.mk (Kd.R_below HR3.out hb34); have HI := Aside0.mk (HI.out.below hb34); clear hr4 hb4 hb34 bx) | (go_at_call 18; (with_reducible refine (HSA.out _ _ _ _ _ (Kd.R_below HR3.out ?sb) (Kd.R_below HR4.out ?sb2)).mono ?_); (case sb => exact (by repeat (first | (with_reducible first | exact Below.refl _ _ | apply pw_below_drewN | apply below_alloc | apply below_drew) | exact Below.refl _ _))); (case sb2 => exact (by repeat (first | (with_reducible first | exact Below.refl _ _ | apply pw_below_drewN | apply below_alloc | apply below_drew) | exact Below.refl _ _))); rintro e w5 ⟨rfl, hb5⟩; have HI := Aside0.mk (HI.out.below (below_step (by repeat (first | (with_reducible first | exact Below.refl _ _ | apply pw_below_drewN | apply below_alloc | apply below_drew) | exact Below.refl _ _)) hb5)); clear hb5))
                  exact ⟨⟨_, q + 1, rfl, by omega, HI⟩, HI0.out.less HI.out hq38⟩
                · skip
                  have hnx := next_end wr1 w8.heap.size nmB q HI.out.it hq38
                  go_wp2
                  go_ret
                  exact ⟨rfl, HI.out.b.bl⟩
          by_cases hup : n ≤ 90
          · have c65 : 65 ≤ n := by omega
            obtain ⟨nl, hnl⟩ : ∃ nl : Int, nl = n + 32 := ⟨_, rfl⟩
            have HLN : Aside0 (lowN n = nl) := ⟨by unfold lowN; rw [if_pos ⟨c65, hup⟩, hnl]⟩
            have HBS : Aside0 (∀ k : Int, (k = 34 ∨ k = 45 ∨ (48 ≤ k ∧ k ≤ 57) ∨ (97 ≤ k ∧ k ≤ 122)) → ¬ (ev = 0 ∧ nl ≠ 95 ∧ (nl < 97 ∨ nl > 122)) → ¬ (ev = 0 ∧ nl ≠ 95 ∧ (k = nl ∨ k = 34)) → getM g' k = getM g k) := ⟨fun k hk a1 a2 => by
              have := beside (g := g) (n := n) (x := ⟨s, ml, b⟩) (cut := cut) (wide := wide) hk (by rw [HDO.out, HLN.out]; exact a1) (by rw [HDO.out, HLN.out]; exact a2)
              rw [HDO.out] at this
              exact this⟩
            have l97 : (97 : Int) ≤ n + 32 := by omega
            have l122 : n + 32 ≤ 122 := by omega
            have l95 : (n + 32 != 95) = true := bne_iff_ne.2 (by omega)
            clear hlo
            by_cases he : ev = 0
            · subst he
              go_wp2_with (first | (go_at_call 17; (with_reducible refine (copy_s HL.out.1).mono ?_); rintro e w6 ⟨C, rfl, hC, hc6, hb6⟩; have HB := Aside0.mk (⟨HL.out.1.below hb6, hc6, (by have := HL.out.1.lt; omega), (hb6.block _ (blk_lt HL.out.2)).trans HL.out.2⟩ : B2 w w6 w1.heap.size C g g _); have hx6 := HB.out.x; have x0 := cell_of_row w6 w.heap.size 0 _ _ _ hx6; have x1 := cell_of_row w6 w.heap.size 1 _ _ _ hx6; have x2 := cell_of_row w6 w.heap.size 2 _ _ _ hx6; have x3 := cell_of_row w6 w.heap.size 3 _ _ _ hx6; have x4 := cell_of_row w6 w.heap.size 4 _ _ _ hx6; have x5 := cell_of_row w6 w.heap.size 5 _ _ _ hx6; clear hc6 hb6 hx6) | (go_at_call 9; (with_reducible refine (HF2.out _ HB.out.b.bl).mono ?_); rintro e w7 ⟨rfl, hb7⟩; have HB := Aside0.mk (HB.out.below hb7); clear hb7 x0 x1 x2 x3 x4 x5; have hx7 := HB.out.x; have x0 := cell_of_row w7 w.heap.size 0 _ _ _ hx7; have x1 := cell_of_row w7 w.heap.size 1 _ _ _ hx7; have x2 := cell_of_row w7 w.heap.size 2 _ _ _ hx7; have x3 := cell_of_row w7 w.heap.size 3 _ _ _ hx7; have x4 := cell_of_row w7 w.heap.size 4 _ _ _ hx7; have x5 := cell_of_row w7 w.heap.size 5 _ _ _ hx7; clear hx7) | (go_at_call 15; (with_reducible refine (HD2.out _ HB.out.b).mono ?_); rintro e w8 ⟨rfl, hs8, hg8⟩; have HB := Aside0.mk (HB.out.turn hs8 hg8 HNE.out); clear hs8 hg8 x0 x1 x2 x3 x4 x5; have hx8 := HB.out.x; have x0 := cell_of_row w8 w.heap.size 0 _ _ _ hx8; clear hx8))
              have HNO : Aside0 (¬ ((0 : Int) = 0 ∧ nl ≠ 95 ∧ (nl < 97 ∨ nl > 122))) := ⟨fun h => by omega⟩
              rw [← hnl] at l97 l122 l95 ⊢
              clear hnl c65 hup
              have hI0 : I2 w (w8.iter nmB 0) w1.heap.size C w8.heap.size 0 g' g := ⟨World.iter_heap _ _ _, HB.out.b.below (below_alloc (Below.refl _ _) _), HB.out.c.below (below_alloc (Below.refl _ _) _), HB.out.b.bl.size⟩
              have HI0 := Aside0.mk hI0
              clear hI0 HB
              go_loopw [11] (fun _ wr => ∃ (wr1 : World) (q : Nat), wr1 = wr ∧ q ≤ 38 ∧ Aside0 (I2 w wr1 w1.heap.size C w8.heap.size q g' g)) (fun _ wr => 38 - wr.iterPos w8.heap.size)
              case atStart => exact ⟨_, 0, rfl, by decide, HI0⟩
              case round =>
                obtain ⟨wr1, q, rfl, hq, HI⟩ := hrel
                by_cases hq38 : q < 38
                · skip
                  obtain ⟨W2, hnx, hI2⟩ := HI.out.step hq38
                  have HI0 := HI
                  have HI := Aside0.mk hI2
                  have hk := nm_kind q hq38
                  generalize (nmB.get! q).toNat = k at *
                  have HGB := Aside0.mk (fun (W : World) (h : ST w W w1.heap.size g') => get_s h (k : Int) (by omega) (by omega))
                  have HGC := Aside0.mk (fun (W : World) (h : ST w W C g) => get_s h (k : Int) (by omega) (by omega))
                  by_cases hkn : (k : Int) = nl
                  · have hkn' : ((k : Int) == nl) = true := beq_iff_eq.2 hkn
                    clear hkn
                    clear hI2 hk
                    go_wp2_with (first | (go_at_call 12; (with_reducible refine (HGB.out _ HI.out.b).mono ?_); rintro e w3 ⟨A3, c3, rfl, hr3, hb3⟩; have HR3 := Aside0.mk hr3; have HI := Aside0.mk (HI.out.below hb3); clear hr3 hb3) | (go_at_call 12; (with_reducible refine (HGC.out _ (HI.out.below (below_alloc (Below.refl _ _) _)).c).mono ?_); rintro e w4 ⟨A4, c4, rfl, hr4, hb4⟩; have HR4 := Aside0.mk hr4; have bx := (hb4.block w3.heap.size (by simp)).trans (heap_alloc_new w3 _); have u0 := cell_of_row w4 w3.heap.size 0 _ _ _ bx; have u1 := cell_of_row w4 w3.heap.size 1 _ _ _ bx; have u2 := cell_of_row w4 w3.heap.size 2 _ _ _ bx; have lx := blk_lt bx; have hb34 := below_step (below_alloc (Below.refl w3.heap.size w3) _) hb4; have HR3 := Aside0.mk (Kd.R_below HR3.out hb34); have HI := Aside0.mk (HI.out.below hb34); clear hr4 hb4 hb34 bx))
                    have HI := Aside0.mk (HI.out.below (below_alloc (Below.refl _ _) (.cells #[.string (getM g (k : Int)).1.s, .slice A4 (getM g (k : Int)).1.l.length c4, .bool (getM g (k : Int)).1.b] 33)))
                    exact ⟨⟨_, q + 1, rfl, by omega, HI⟩, HI0.out.less HI.out hq38⟩
                  · have hkn' : ((k : Int) == nl) = false := beq_eq_false_iff_ne.2 hkn
                    by_cases hk34 : (k : Int) = 34
                    · have hk34' : ((k : Int) == 34) = true := beq_iff_eq.2 hk34
                      clear hk34 hkn
                      clear hI2 hk
                      go_wp2_with (first | (go_at_call 12; (with_reducible refine (HGB.out _ HI.out.b).mono ?_); rintro e w3 ⟨A3, c3, rfl, hr3, hb3⟩; have HR3 := Aside0.mk hr3; have HI := Aside0.mk (HI.out.below hb3); clear hr3 hb3) | (go_at_call 12; (with_reducible refine (HGC.out _ (HI.out.below (below_alloc (Below.refl _ _) _)).c).mono ?_); rintro e w4 ⟨A4, c4, rfl, hr4, hb4⟩; have HR4 := Aside0.mk hr4; have bx := (hb4.block w3.heap.size (by simp)).trans (heap_alloc_new w3 _); have u0 := cell_of_row w4 w3.heap.size 0 _ _ _ bx; have u1 := cell_of_row w4 w3.heap.size 1 _ _ _ bx; have u2 := cell_of_row w4 w3.heap.size 2 _ _ _ bx; have lx := blk_lt bx; have hb34 := below_step (below_alloc (Below.refl w3.heap.size w3) _) hb4; have HR3 := Aside0.mk (Kd.R_below HR3.out hb34); have HI := Aside0.mk (HI.out.below hb34); clear hr4 hb4 hb34 bx))
                      have HI := Aside0.mk (HI.out.below (below_alloc (Below.refl _ _) (.cells #[.string (getM g (k : Int)).1.s, .slice A4 (getM g (k : Int)).1.l.length c4, .bool (getM g (k : Int)).1.b] 33)))
                      exact ⟨⟨_, q + 1, rfl, by omega, HI⟩, HI0.out.less HI.out hq38⟩
                    · have hk34' : ((k : Int) == 34) = false := beq_eq_false_iff_ne.2 hk34
                      have hsk : ¬ ((0 : Int) = 0 ∧ nl ≠ 95 ∧ ((k : Int) = nl ∨ (k : Int) = 34)) := fun h => h.2.2.elim hkn hk34
                      clear hk34 hkn
                      have heq : getM g' (k : Int) = getM g (k : Int) := HBS.out (k : Int) hk (fun h => HNO.out (by first | exact h | exact ⟨rfl, h.2⟩)) (fun h => hsk (by first | exact h | exact ⟨rfl, h.2⟩))
                      have hlen : (getM g (k : Int)).1.l.length ≤ 100000 := Nat.le_trans (get_len HI.out.c.gg (k : Int)) (by decide)
                      rw [heq] at HGB
                      generalize getM g (k : Int) = r at *
                      obtain ⟨⟨rs, rl, rb⟩, re⟩ := r
                      dsimp only at HGB HGC hlen
                      have HSA := Aside0.mk (fun (W : World) (A7 : Option Addr) (c7 : Nat) (A9 : Option Addr) (c9 : Nat) {base base2 : Nat} (hr : Kd.R k58 58 W base (fun _ => True) (.slice A7 rl.length c7) rl) (hr2 : Kd.R k58 58 W base2 (fun _ => True) (.slice A9 rl.length c9) rl) => bureauref09_Same.calls (rl.length + 1) rs A7 c7 rl rb rs A9 c9 rl rb true W (Kd.R_reads' hr).2.2 (Kd.R_reads' hr).2.1 (Kd.R_reads' hr2).2.2 (Kd.R_reads' hr2).2.1 (same9 rs rl rb (by omega)))
                      clear hI2 heq hlen hk
                      go_wp2_with (first | (go_at_call 12; (with_reducible refine (HGB.out _ HI.out.b).mono ?_); rintro e w3 ⟨A3, c3, rfl, hr3, hb3⟩; have HR3 := Aside0.mk hr3; have HI := Aside0.mk (HI.out.below hb3); clear hr3 hb3) | (go_at_call 12; (with_reducible refine (HGC.out _ (HI.out.below (below_alloc (Below.refl _ _) _)).c).mono ?_); rintro e w4 ⟨A4, c4, rfl, hr4, hb4⟩; have HR4 := Aside0.mk hr4; have bx := (hb4.block w3.heap.size (by simp)).trans (heap_alloc_new w3 _); have u0 := cell_of_row w4 w3.heap.size 0 _ _ _ bx; have u1 := cell_of_row w4 w3.heap.size 1 _ _ _ bx; have u2 := cell_of_row w4 w3.heap.size 2 _ _ _ bx; have lx := blk_lt bx; have hb34 := below_step (below_alloc (Below.refl w3.heap.size w3) _) hb4; have HR3 := Aside0.mk (Kd.R_below HR3.out hb34); have HI := Aside0.mk (HI.out.below hb34); clear hr4 hb4 hb34 bx) | (go_at_call 18; (with_reducible refine (HSA.out _ _ _ _ _ (Kd.R_below HR3.out ?sb) (Kd.R_below HR4.out ?sb2)).mono ?_); (case sb => exact (by repeat (first | (with_reducible first | exact Below.refl _ _ | apply pw_below_drewN | apply below_alloc | apply below_drew) | exact Below.refl _ _))); (case sb2 => exact (by repeat (first | (with_reducible first | exact Below.refl _ _ | apply pw_below_drewN | apply below_alloc | apply below_drew) | exact Below.refl _ _))); rintro e w5 ⟨rfl, hb5⟩; have HI := Aside0.mk (HI.out.below (below_step (by repeat (first | (with_reducible first | exact Below.refl _ _ | apply pw_below_drewN | apply below_alloc | apply below_drew) | exact Below.refl _ _)) hb5)); clear hb5))
                      exact ⟨⟨_, q + 1, rfl, by omega, HI⟩, HI0.out.less HI.out hq38⟩
                · skip
                  have hnx := next_end wr1 w8.heap.size nmB q HI.out.it hq38
                  go_wp2
                  go_ret
                  exact ⟨rfl, HI.out.b.bl⟩
            · have he' : (ev == 0) = false := beq_eq_false_iff_ne.2 he
              go_wp2_with (first | (go_at_call 17; (with_reducible refine (copy_s HL.out.1).mono ?_); rintro e w6 ⟨C, rfl, hC, hc6, hb6⟩; have HB := Aside0.mk (⟨HL.out.1.below hb6, hc6, (by have := HL.out.1.lt; omega), (hb6.block _ (blk_lt HL.out.2)).trans HL.out.2⟩ : B2 w w6 w1.heap.size C g g _); have hx6 := HB.out.x; have x0 := cell_of_row w6 w.heap.size 0 _ _ _ hx6; have x1 := cell_of_row w6 w.heap.size 1 _ _ _ hx6; have x2 := cell_of_row w6 w.heap.size 2 _ _ _ hx6; have x3 := cell_of_row w6 w.heap.size 3 _ _ _ hx6; have x4 := cell_of_row w6 w.heap.size 4 _ _ _ hx6; have x5 := cell_of_row w6 w.heap.size 5 _ _ _ hx6; clear hc6 hb6 hx6) | (go_at_call 9; (with_reducible refine (HF2.out _ HB.out.b.bl).mono ?_); rintro e w7 ⟨rfl, hb7⟩; have HB := Aside0.mk (HB.out.below hb7); clear hb7 x0 x1 x2 x3 x4 x5; have hx7 := HB.out.x; have x0 := cell_of_row w7 w.heap.size 0 _ _ _ hx7; have x1 := cell_of_row w7 w.heap.size 1 _ _ _ hx7; have x2 := cell_of_row w7 w.heap.size 2 _ _ _ hx7; have x3 := cell_of_row w7 w.heap.size 3 _ _ _ hx7; have x4 := cell_of_row w7 w.heap.size 4 _ _ _ hx7; have x5 := cell_of_row w7 w.heap.size 5 _ _ _ hx7; clear hx7) | (go_at_call 15; (with_reducible refine (HD2.out _ HB.out.b).mono ?_); rintro e w8 ⟨rfl, hs8, hg8⟩; have HB := Aside0.mk (HB.out.turn hs8 hg8 HNE.out); clear hs8 hg8 x0 x1 x2 x3 x4 x5; have hx8 := HB.out.x; have x0 := cell_of_row w8 w.heap.size 0 _ _ _ hx8; clear hx8))
              have HNO : Aside0 (¬ (ev = 0 ∧ nl ≠ 95 ∧ (nl < 97 ∨ nl > 122))) := ⟨fun h => he h.1⟩
              have HNS : Aside0 (¬ (ev = 0 ∧ nl ≠ 95)) := ⟨fun h => he h.1⟩
              rw [← hnl] at l97 l122 l95 ⊢
              clear hnl c65 hup
              have hI0 : I2 w (w8.iter nmB 0) w1.heap.size C w8.heap.size 0 g' g := ⟨World.iter_heap _ _ _, HB.out.b.below (below_alloc (Below.refl _ _) _), HB.out.c.below (below_alloc (Below.refl _ _) _), HB.out.b.bl.size⟩
              have HI0 := Aside0.mk hI0
              clear hI0 HB
              go_loopw [11] (fun _ wr => ∃ (wr1 : World) (q : Nat), wr1 = wr ∧ q ≤ 38 ∧ Aside0 (I2 w wr1 w1.heap.size C w8.heap.size q g' g)) (fun _ wr => 38 - wr.iterPos w8.heap.size)
              case atStart => exact ⟨_, 0, rfl, by decide, HI0⟩
              case round =>
                obtain ⟨wr1, q, rfl, hq, HI⟩ := hrel
                by_cases hq38 : q < 38
                · skip
                  obtain ⟨W2, hnx, hI2⟩ := HI.out.step hq38
                  have HI0 := HI
                  have HI := Aside0.mk hI2
                  have hk := nm_kind q hq38
                  generalize (nmB.get! q).toNat = k at *
                  have HGB := Aside0.mk (fun (W : World) (h : ST w W w1.heap.size g') => get_s h (k : Int) (by omega) (by omega))
                  have HGC := Aside0.mk (fun (W : World) (h : ST w W C g) => get_s h (k : Int) (by omega) (by omega))
                  have hsk : ¬ (ev = 0 ∧ nl ≠ 95 ∧ ((k : Int) = nl ∨ (k : Int) = 34)) := fun h => HNS.out ⟨(by first | exact h.1 | trivial), h.2.1⟩
                  have heq : getM g' (k : Int) = getM g (k : Int) := HBS.out (k : Int) hk (fun h => HNO.out (by first | exact h | exact ⟨rfl, h.2⟩)) (fun h => hsk (by first | exact h | exact ⟨rfl, h.2⟩))
                  have hlen : (getM g (k : Int)).1.l.length ≤ 100000 := Nat.le_trans (get_len HI.out.c.gg (k : Int)) (by decide)
                  rw [heq] at HGB
                  generalize getM g (k : Int) = r at *
                  obtain ⟨⟨rs, rl, rb⟩, re⟩ := r
                  dsimp only at HGB HGC hlen
                  have HSA := Aside0.mk (fun (W : World) (A7 : Option Addr) (c7 : Nat) (A9 : Option Addr) (c9 : Nat) {base base2 : Nat} (hr : Kd.R k58 58 W base (fun _ => True) (.slice A7 rl.length c7) rl) (hr2 : Kd.R k58 58 W base2 (fun _ => True) (.slice A9 rl.length c9) rl) => bureauref09_Same.calls (rl.length + 1) rs A7 c7 rl rb rs A9 c9 rl rb true W (Kd.R_reads' hr).2.2 (Kd.R_reads' hr).2.1 (Kd.R_reads' hr2).2.2 (Kd.R_reads' hr2).2.1 (same9 rs rl rb (by omega)))
                  clear hI2 heq hlen hk
                  go_wp2_with (first | (go_at_call 12; (with_reducible refine (HGB.out _ HI.out.b).mono ?_); rintro e w3 ⟨A3, c3, rfl, hr3, hb3⟩; have HR3 := Aside0.mk hr3; have HI := Aside0.mk (HI.out.below hb3); clear hr3 hb3) | (go_at_call 12; (with_reducible refine (HGC.out _ (HI.out.below (below_alloc (Below.refl _ _) _)).c).mono ?_); rintro e w4 ⟨A4, c4, rfl, hr4, hb4⟩; have HR4 := Aside0.mk hr4; have bx := (hb4.block w3.heap.size (by simp)).trans (heap_alloc_new w3 _); have u0 := cell_of_row w4 w3.heap.size 0 _ _ _ bx; have u1 := cell_of_row w4 w3.heap.size 1 _ _ _ bx; have u2 := cell_of_row w4 w3.heap.size 2 _ _ _ bx; have lx := blk_lt bx; have hb34 := below_step (below_alloc (Below.refl w3.heap.size w3) _) hb4; have HR3 := Aside0.mk (Kd.R_below HR3.out hb34); have HI := Aside0.mk (HI.out.below hb34); clear hr4 hb4 hb34 bx) | (go_at_call 18; (with_reducible refine (HSA.out _ _ _ _ _ (Kd.R_below HR3.out ?sb) (Kd.R_below HR4.out ?sb2)).mono ?_); (case sb => exact (by repeat (first | (with_reducible first | exact Below.refl _ _ | apply pw_below_drewN | apply below_alloc | apply below_drew) | exact Below.refl _ _))); (case sb2 => exact (by repeat (first | (with_reducible first | exact Below.refl _ _ | apply pw_below_drewN | apply below_alloc | apply below_drew) | exact Below.refl _ _))); rintro e w5 ⟨rfl, hb5⟩; have HI := Aside0.mk (HI.out.below (below_step (by repeat (first | (with_reducible first | exact Below.refl _ _ | apply pw_below_drewN | apply below_alloc | apply below_drew) | exact Below.refl _ _)) hb5)); clear hb5))
                  exact ⟨⟨_, q + 1, rfl, by omega, HI⟩, HI0.out.less HI.out hq38⟩
                · skip
                  have hnx := next_end wr1 w8.heap.size nmB q HI.out.it hq38
                  go_wp2
                  go_ret
                  exact ⟨rfl, HI.out.b.bl⟩
          · have c65 : 65 ≤ n := by omega
            have c90 : 90 < n := by omega
            obtain ⟨nl, hnl⟩ : ∃ nl : Int, nl = n := ⟨_, rfl⟩
            have HLN : Aside0 (lowN n = nl) := ⟨by unfold lowN; rw [if_neg (by omega), hnl]⟩
            have HBS : Aside0 (∀ k : Int, (k = 34 ∨ k = 45 ∨ (48 ≤ k ∧ k ≤ 57) ∨ (97 ≤ k ∧ k ≤ 122)) → ¬ (ev = 0 ∧ nl ≠ 95 ∧ (nl < 97 ∨ nl > 122)) → ¬ (ev = 0 ∧ nl ≠ 95 ∧ (k = nl ∨ k = 34)) → getM g' k = getM g k) := ⟨fun k hk a1 a2 => by
              have := beside (g := g) (n := n) (x := ⟨s, ml, b⟩) (cut := cut) (wide := wide) hk (by rw [HDO.out, HLN.out]; exact a1) (by rw [HDO.out, HLN.out]; exact a2)
              rw [HDO.out] at this
              exact this⟩
            clear hup hlo
            by_cases he : ev = 0
            · subst he
              by_cases h95 : n = 95
              · have l95 : (n != 95) = false := by rw [h95]; rfl
                have HNS : Aside0 (¬ ((0 : Int) = 0 ∧ nl ≠ 95)) := ⟨fun h => h.2 (hnl.trans h95)⟩
                have HNO : Aside0 (¬ ((0 : Int) = 0 ∧ nl ≠ 95 ∧ (nl < 97 ∨ nl > 122))) := ⟨fun h => h.2.1 (hnl.trans h95)⟩
                clear h95
                go_wp2_with (first | (go_at_call 17; (with_reducible refine (copy_s HL.out.1).mono ?_); rintro e w6 ⟨C, rfl, hC, hc6, hb6⟩; have HB := Aside0.mk (⟨HL.out.1.below hb6, hc6, (by have := HL.out.1.lt; omega), (hb6.block _ (blk_lt HL.out.2)).trans HL.out.2⟩ : B2 w w6 w1.heap.size C g g _); have hx6 := HB.out.x; have x0 := cell_of_row w6 w.heap.size 0 _ _ _ hx6; have x1 := cell_of_row w6 w.heap.size 1 _ _ _ hx6; have x2 := cell_of_row w6 w.heap.size 2 _ _ _ hx6; have x3 := cell_of_row w6 w.heap.size 3 _ _ _ hx6; have x4 := cell_of_row w6 w.heap.size 4 _ _ _ hx6; have x5 := cell_of_row w6 w.heap.size 5 _ _ _ hx6; clear hc6 hb6 hx6) | (go_at_call 9; (with_reducible refine (HF2.out _ HB.out.b.bl).mono ?_); rintro e w7 ⟨rfl, hb7⟩; have HB := Aside0.mk (HB.out.below hb7); clear hb7 x0 x1 x2 x3 x4 x5; have hx7 := HB.out.x; have x0 := cell_of_row w7 w.heap.size 0 _ _ _ hx7; have x1 := cell_of_row w7 w.heap.size 1 _ _ _ hx7; have x2 := cell_of_row w7 w.heap.size 2 _ _ _ hx7; have x3 := cell_of_row w7 w.heap.size 3 _ _ _ hx7; have x4 := cell_of_row w7 w.heap.size 4 _ _ _ hx7; have x5 := cell_of_row w7 w.heap.size 5 _ _ _ hx7; clear hx7) | (go_at_call 15; (with_reducible refine (HD2.out _ HB.out.b).mono ?_); rintro e w8 ⟨rfl, hs8, hg8⟩; have HB := Aside0.mk (HB.out.turn hs8 hg8 HNE.out); clear hs8 hg8 x0 x1 x2 x3 x4 x5; have hx8 := HB.out.x; have x0 := cell_of_row w8 w.heap.size 0 _ _ _ hx8; clear hx8))
                subst hnl
                have hI0 : I2 w (w8.iter nmB 0) w1.heap.size C w8.heap.size 0 g' g := ⟨World.iter_heap _ _ _, HB.out.b.below (below_alloc (Below.refl _ _) _), HB.out.c.below (below_alloc (Below.refl _ _) _), HB.out.b.bl.size⟩
                have HI0 := Aside0.mk hI0
                clear hI0 HB
                go_loopw [11] (fun _ wr => ∃ (wr1 : World) (q : Nat), wr1 = wr ∧ q ≤ 38 ∧ Aside0 (I2 w wr1 w1.heap.size C w8.heap.size q g' g)) (fun _ wr => 38 - wr.iterPos w8.heap.size)
                case atStart => exact ⟨_, 0, rfl, by decide, HI0⟩
                case round =>
                  obtain ⟨wr1, q, rfl, hq, HI⟩ := hrel
                  by_cases hq38 : q < 38
                  · skip
                    obtain ⟨W2, hnx, hI2⟩ := HI.out.step hq38
                    have HI0 := HI
                    have HI := Aside0.mk hI2
                    have hk := nm_kind q hq38
                    generalize (nmB.get! q).toNat = k at *
                    have HGB := Aside0.mk (fun (W : World) (h : ST w W w1.heap.size g') => get_s h (k : Int) (by omega) (by omega))
                    have HGC := Aside0.mk (fun (W : World) (h : ST w W C g) => get_s h (k : Int) (by omega) (by omega))
                    have hsk : ¬ ((0 : Int) = 0 ∧ nl ≠ 95 ∧ ((k : Int) = nl ∨ (k : Int) = 34)) := fun h => HNS.out ⟨(by first | exact h.1 | trivial), h.2.1⟩
                    have heq : getM g' (k : Int) = getM g (k : Int) := HBS.out (k : Int) hk (fun h => HNO.out (by first | exact h | exact ⟨rfl, h.2⟩)) (fun h => hsk (by first | exact h | exact ⟨rfl, h.2⟩))
                    have hlen : (getM g (k : Int)).1.l.length ≤ 100000 := Nat.le_trans (get_len HI.out.c.gg (k : Int)) (by decide)
                    rw [heq] at HGB
                    generalize getM g (k : Int) = r at *
                    obtain ⟨⟨rs, rl, rb⟩, re⟩ := r
                    dsimp only at HGB HGC hlen
                    have HSA := Aside0.mk (fun (W : World) (A7 : Option Addr) (c7 : Nat) (A9 : Option Addr) (c9 : Nat) {base base2 : Nat} (hr : Kd.R k58 58 W base (fun _ => True) (.slice A7 rl.length c7) rl) (hr2 : Kd.R k58 58 W base2 (fun _ => True) (.slice A9 rl.length c9) rl) => bureauref09_Same.calls (rl.length + 1) rs A7 c7 rl rb rs A9 c9 rl rb true W (Kd.R_reads' hr).2.2 (Kd.R_reads' hr).2.1 (Kd.R_reads' hr2).2.2 (Kd.R_reads' hr2).2.1 (same9 rs rl rb (by omega)))
                    clear hI2 heq hlen hk
                    go_wp2_with (first | (go_at_call 12; (with_reducible refine (HGB.out _ HI.out.b).mono ?_); rintro e w3 ⟨A3, c3, rfl, hr3, hb3⟩; have HR3 := Aside0.mk hr3; have HI := Aside0.mk (HI.out.below hb3); clear hr3 hb3) | (go_at_call 12; (with_reducible refine (HGC.out _ (HI.out.below (below_alloc (Below.refl _ _) _)).c).mono ?_); rintro e w4 ⟨A4, c4, rfl, hr4, hb4⟩; have HR4 := Aside0.mk hr4; have bx := (hb4.block w3.heap.size (by simp)).trans (heap_alloc_new w3 _); have u0 := cell_of_row w4 w3.heap.size 0 _ _ _ bx; have u1 := cell_of_row w4 w3.heap.size 1 _ _ _ bx; have u2 := cell_of_row w4 w3.heap.size 2 _ _ _ bx; have lx := blk_lt bx; have hb34 := below_step (below_alloc (Below.refl w3.heap.size w3) _) hb4; have HR3 := Aside0.mk (Kd.R_below HR3.out hb34); have HI := Aside0.mk (HI.out.below hb34); clear hr4 hb4 hb34 bx) | (go_at_call 18; (with_reducible refine (HSA.out _ _ _ _ _ (Kd.R_below HR3.out ?sb) (Kd.R_below HR4.out ?sb2)).mono ?_); (case sb => exact (by repeat (first | (with_reducible first | exact Below.refl _ _ | apply pw_below_drewN | apply below_alloc | apply below_drew) | exact Below.refl _ _))); (case sb2 => exact (by repeat (first | (with_reducible first | exact Below.refl _ _ | apply pw_below_drewN | apply below_alloc | apply below_drew) | exact Below.refl _ _))); rintro e w5 ⟨rfl, hb5⟩; have HI := Aside0.mk (HI.out.below (below_step (by repeat (first | (with_reducible first | exact Below.refl _ _ | apply pw_below_drewN | apply below_alloc | apply below_drew) | exact Below.refl _ _)) hb5)); clear hb5))
                    exact ⟨⟨_, q + 1, rfl, by omega, HI⟩, HI0.out.less HI.out hq38⟩
                  · skip
                    have hnx := next_end wr1 w8.heap.size nmB q HI.out.it hq38
                    go_wp2
                    go_ret
                    exact ⟨rfl, HI.out.b.bl⟩
              · have l95 : (n != 95) = true := bne_iff_ne.2 h95
                by_cases h97 : n < 97
                · go_wp2_with (first | (go_at_call 17; (with_reducible refine (copy_s HL.out.1).mono ?_); rintro e w6 ⟨C, rfl, hC, hc6, hb6⟩; have HB := Aside0.mk (⟨HL.out.1.below hb6, hc6, (by have := HL.out.1.lt; omega), (hb6.block _ (blk_lt HL.out.2)).trans HL.out.2⟩ : B2 w w6 w1.heap.size C g g _); have hx6 := HB.out.x; have x0 := cell_of_row w6 w.heap.size 0 _ _ _ hx6; have x1 := cell_of_row w6 w.heap.size 1 _ _ _ hx6; have x2 := cell_of_row w6 w.heap.size 2 _ _ _ hx6; have x3 := cell_of_row w6 w.heap.size 3 _ _ _ hx6; have x4 := cell_of_row w6 w.heap.size 4 _ _ _ hx6; have x5 := cell_of_row w6 w.heap.size 5 _ _ _ hx6; clear hc6 hb6 hx6) | (go_at_call 9; (with_reducible refine (HF2.out _ HB.out.b.bl).mono ?_); rintro e w7 ⟨rfl, hb7⟩; have HB := Aside0.mk (HB.out.below hb7); clear hb7 x0 x1 x2 x3 x4 x5; have hx7 := HB.out.x; have x0 := cell_of_row w7 w.heap.size 0 _ _ _ hx7; have x1 := cell_of_row w7 w.heap.size 1 _ _ _ hx7; have x2 := cell_of_row w7 w.heap.size 2 _ _ _ hx7; have x3 := cell_of_row w7 w.heap.size 3 _ _ _ hx7; have x4 := cell_of_row w7 w.heap.size 4 _ _ _ hx7; have x5 := cell_of_row w7 w.heap.size 5 _ _ _ hx7; clear hx7) | (go_at_call 15; (with_reducible refine (HD2.out _ HB.out.b).mono ?_); rintro e w8 ⟨rfl, hs8, hg8⟩; have HB := Aside0.mk (HB.out.turn hs8 hg8 HNE.out); clear hs8 hg8 x0 x1 x2 x3 x4 x5; have hx8 := HB.out.x; have x0 := cell_of_row w8 w.heap.size 0 _ _ _ hx8; clear hx8))
                  go_ret
                  exact ⟨rfl, HB.out.b.bl⟩
                · have l97 : 97 ≤ n := by omega
                  by_cases h122 : n ≤ 122
                  · go_wp2_with (first | (go_at_call 17; (with_reducible refine (copy_s HL.out.1).mono ?_); rintro e w6 ⟨C, rfl, hC, hc6, hb6⟩; have HB := Aside0.mk (⟨HL.out.1.below hb6, hc6, (by have := HL.out.1.lt; omega), (hb6.block _ (blk_lt HL.out.2)).trans HL.out.2⟩ : B2 w w6 w1.heap.size C g g _); have hx6 := HB.out.x; have x0 := cell_of_row w6 w.heap.size 0 _ _ _ hx6; have x1 := cell_of_row w6 w.heap.size 1 _ _ _ hx6; have x2 := cell_of_row w6 w.heap.size 2 _ _ _ hx6; have x3 := cell_of_row w6 w.heap.size 3 _ _ _ hx6; have x4 := cell_of_row w6 w.heap.size 4 _ _ _ hx6; have x5 := cell_of_row w6 w.heap.size 5 _ _ _ hx6; clear hc6 hb6 hx6) | (go_at_call 9; (with_reducible refine (HF2.out _ HB.out.b.bl).mono ?_); rintro e w7 ⟨rfl, hb7⟩; have HB := Aside0.mk (HB.out.below hb7); clear hb7 x0 x1 x2 x3 x4 x5; have hx7 := HB.out.x; have x0 := cell_of_row w7 w.heap.size 0 _ _ _ hx7; have x1 := cell_of_row w7 w.heap.size 1 _ _ _ hx7; have x2 := cell_of_row w7 w.heap.size 2 _ _ _ hx7; have x3 := cell_of_row w7 w.heap.size 3 _ _ _ hx7; have x4 := cell_of_row w7 w.heap.size 4 _ _ _ hx7; have x5 := cell_of_row w7 w.heap.size 5 _ _ _ hx7; clear hx7) | (go_at_call 15; (with_reducible refine (HD2.out _ HB.out.b).mono ?_); rintro e w8 ⟨rfl, hs8, hg8⟩; have HB := Aside0.mk (HB.out.turn hs8 hg8 HNE.out); clear hs8 hg8 x0 x1 x2 x3 x4 x5; have hx8 := HB.out.x; have x0 := cell_of_row w8 w.heap.size 0 _ _ _ hx8; clear hx8))
                    subst hnl
                    have HNO : Aside0 (¬ ((0 : Int) = 0 ∧ nl ≠ 95 ∧ (nl < 97 ∨ nl > 122))) := ⟨fun h => by omega⟩
                    clear h97 h95
                    have hI0 : I2 w (w8.iter nmB 0) w1.heap.size C w8.heap.size 0 g' g := ⟨World.iter_heap _ _ _, HB.out.b.below (below_alloc (Below.refl _ _) _), HB.out.c.below (below_alloc (Below.refl _ _) _), HB.out.b.bl.size⟩
                    have HI0 := Aside0.mk hI0
                    clear hI0 HB
                    go_loopw [11] (fun _ wr => ∃ (wr1 : World) (q : Nat), wr1 = wr ∧ q ≤ 38 ∧ Aside0 (I2 w wr1 w1.heap.size C w8.heap.size q g' g)) (fun _ wr => 38 - wr.iterPos w8.heap.size)
                    case atStart => exact ⟨_, 0, rfl, by decide, HI0⟩
                    case round =>
                      obtain ⟨wr1, q, rfl, hq, HI⟩ := hrel
                      by_cases hq38 : q < 38
                      · skip
                        obtain ⟨W2, hnx, hI2⟩ := HI.out.step hq38
                        have HI0 := HI
                        have HI := Aside0.mk hI2
                        have hk := nm_kind q hq38
                        generalize (nmB.get! q).toNat = k at *
                        have HGB := Aside0.mk (fun (W : World) (h : ST w W w1.heap.size g') => get_s h (k : Int) (by omega) (by omega))
                        have HGC := Aside0.mk (fun (W : World) (h : ST w W C g) => get_s h (k : Int) (by omega) (by omega))
                        by_cases hkn : (k : Int) = nl
                        · have hkn' : ((k : Int) == nl) = true := beq_iff_eq.2 hkn
                          clear hkn
                          clear hI2 hk
                          go_wp2_with (first | (go_at_call 12; (with_reducible refine (HGB.out _ HI.out.b).mono ?_); rintro e w3 ⟨A3, c3, rfl, hr3, hb3⟩; have HR3 := Aside0.mk hr3; have HI := Aside0.mk (HI.out.below hb3); clear hr3 hb3) | (go_at_call 12; (with_reducible refine (HGC.out _ (HI.out.below (below_alloc (Below.refl _ _) _)).c).mono ?_); rintro e w4 ⟨A4, c4, rfl, hr4, hb4⟩; have HR4 := Aside0.mk hr4; have bx := (hb4.block w3.heap.size (by simp)).trans (heap_alloc_new w3 _); have u0 := cell_of_row w4 w3.heap.size 0 _ _ _ bx; have u1 := cell_of_row w4 w3.heap.size 1 _ _ _ bx; have u2 := cell_of_row w4 w3.heap.size 2 _ _ _ bx; have lx := blk_lt bx; have hb34 := below_step (below_alloc (Below.refl w3.heap.size w3) _) hb4; have HR3 := Aside0.mk (Kd.R_below HR3.out hb34); have HI := Aside0.mk (HI.out.below hb34); clear hr4 hb4 hb34 bx))
                          have HI := Aside0.mk (HI.out.below (below_alloc (Below.refl _ _) (.cells #[.string (getM g (k : Int)).1.s, .slice A4 (getM g (k : Int)).1.l.length c4, .bool (getM g (k : Int)).1.b] 33)))
                          exact ⟨⟨_, q + 1, rfl, by omega, HI⟩, HI0.out.less HI.out hq38⟩
                        · have hkn' : ((k : Int) == nl) = false := beq_eq_false_iff_ne.2 hkn
                          by_cases hk34 : (k : Int) = 34
                          · have hk34' : ((k : Int) == 34) = true := beq_iff_eq.2 hk34
                            clear hk34 hkn
                            clear hI2 hk
                            go_wp2_with (first | (go_at_call 12; (with_reducible refine (HGB.out _ HI.out.b).mono ?_); rintro e w3 ⟨A3, c3, rfl, hr3, hb3⟩; have HR3 := Aside0.mk hr3; have HI := Aside0.mk (HI.out.below hb3); clear hr3 hb3) | (go_at_call 12; (with_reducible refine (HGC.out _ (HI.out.below (below_alloc (Below.refl _ _) _)).c).mono ?_); rintro e w4 ⟨A4, c4, rfl, hr4, hb4⟩; have HR4 := Aside0.mk hr4; have bx := (hb4.block w3.heap.size (by simp)).trans (heap_alloc_new w3 _); have u0 := cell_of_row w4 w3.heap.size 0 _ _ _ bx; have u1 := cell_of_row w4 w3.heap.size 1 _ _ _ bx; have u2 := cell_of_row w4 w3.heap.size 2 _ _ _ bx; have lx := blk_lt bx; have hb34 := below_step (below_alloc (Below.refl w3.heap.size w3) _) hb4; have HR3 := Aside0.mk (Kd.R_below HR3.out hb34); have HI := Aside0.mk (HI.out.below hb34); clear hr4 hb4 hb34 bx))
                            have HI := Aside0.mk (HI.out.below (below_alloc (Below.refl _ _) (.cells #[.string (getM g (k : Int)).1.s, .slice A4 (getM g (k : Int)).1.l.length c4, .bool (getM g (k : Int)).1.b] 33)))
                            exact ⟨⟨_, q + 1, rfl, by omega, HI⟩, HI0.out.less HI.out hq38⟩
                          · have hk34' : ((k : Int) == 34) = false := beq_eq_false_iff_ne.2 hk34
                            have hsk : ¬ ((0 : Int) = 0 ∧ nl ≠ 95 ∧ ((k : Int) = nl ∨ (k : Int) = 34)) := fun h => h.2.2.elim hkn hk34
                            clear hk34 hkn
                            have heq : getM g' (k : Int) = getM g (k : Int) := HBS.out (k : Int) hk (fun h => HNO.out (by first | exact h | exact ⟨rfl, h.2⟩)) (fun h => hsk (by first | exact h | exact ⟨rfl, h.2⟩))
                            have hlen : (getM g (k : Int)).1.l.length ≤ 100000 := Nat.le_trans (get_len HI.out.c.gg (k : Int)) (by decide)
                            rw [heq] at HGB
                            generalize getM g (k : Int) = r at *
                            obtain ⟨⟨rs, rl, rb⟩, re⟩ := r
                            dsimp only at HGB HGC hlen
                            have HSA := Aside0.mk (fun (W : World) (A7 : Option Addr) (c7 : Nat) (A9 : Option Addr) (c9 : Nat) {base base2 : Nat} (hr : Kd.R k58 58 W base (fun _ => True) (.slice A7 rl.length c7) rl) (hr2 : Kd.R k58 58 W base2 (fun _ => True) (.slice A9 rl.length c9) rl) => bureauref09_Same.calls (rl.length + 1) rs A7 c7 rl rb rs A9 c9 rl rb true W (Kd.R_reads' hr).2.2 (Kd.R_reads' hr).2.1 (Kd.R_reads' hr2).2.2 (Kd.R_reads' hr2).2.1 (same9 rs rl rb (by omega)))
                            clear hI2 heq hlen hk
                            go_wp2_with (first | (go_at_call 12; (with_reducible refine (HGB.out _ HI.out.b).mono ?_); rintro e w3 ⟨A3, c3, rfl, hr3, hb3⟩; have HR3 := Aside0.mk hr3; have HI := Aside0.mk (HI.out.below hb3); clear hr3 hb3) | (go_at_call 12; (with_reducible refine (HGC.out _ (HI.out.below (below_alloc (Below.refl _ _) _)).c).mono ?_); rintro e w4 ⟨A4, c4, rfl, hr4, hb4⟩; have HR4 := Aside0.mk hr4; have bx := (hb4.block w3.heap.size (by simp)).trans (heap_alloc_new w3 _); have u0 := cell_of_row w4 w3.heap.size 0 _ _ _ bx; have u1 := cell_of_row w4 w3.heap.size 1 _ _ _ bx; have u2 := cell_of_row w4 w3.heap.size 2 _ _ _ bx; have lx := blk_lt bx; have hb34 := below_step (below_alloc (Below.refl w3.heap.size w3) _) hb4; have HR3 := Aside0.mk (Kd.R_below HR3.out hb34); have HI := Aside0.mk (HI.out.below hb34); clear hr4 hb4 hb34 bx) | (go_at_call 18; (with_reducible refine (HSA.out _ _ _ _ _ (Kd.R_below HR3.out ?sb) (Kd.R_below HR4.out ?sb2)).mono ?_); (case sb => exact (by repeat (first | (with_reducible first | exact Below.refl _ _ | apply pw_below_drewN | apply below_alloc | apply below_drew) | exact Below.refl _ _))); (case sb2 => exact (by repeat (first | (with_reducible first | exact Below.refl _ _ | apply pw_below_drewN | apply below_alloc | apply below_drew) | exact Below.refl _ _))); rintro e w5 ⟨rfl, hb5⟩; have HI := Aside0.mk (HI.out.below (below_step (by repeat (first | (with_reducible first | exact Below.refl _ _ | apply pw_below_drewN | apply below_alloc | apply below_drew) | exact Below.refl _ _)) hb5)); clear hb5))
                            exact ⟨⟨_, q + 1, rfl, by omega, HI⟩, HI0.out.less HI.out hq38⟩
                      · skip
                        have hnx := next_end wr1 w8.heap.size nmB q HI.out.it hq38
                        go_wp2
                        go_ret
                        exact ⟨rfl, HI.out.b.bl⟩
                  · have l122 : 122 < n := by omega
                    go_wp2_with (first | (go_at_call 17; (with_reducible refine (copy_s HL.out.1).mono ?_); rintro e w6 ⟨C, rfl, hC, hc6, hb6⟩; have HB := Aside0.mk (⟨HL.out.1.below hb6, hc6, (by have := HL.out.1.lt; omega), (hb6.block _ (blk_lt HL.out.2)).trans HL.out.2⟩ : B2 w w6 w1.heap.size C g g _); have hx6 := HB.out.x; have x0 := cell_of_row w6 w.heap.size 0 _ _ _ hx6; have x1 := cell_of_row w6 w.heap.size 1 _ _ _ hx6; have x2 := cell_of_row w6 w.heap.size 2 _ _ _ hx6; have x3 := cell_of_row w6 w.heap.size 3 _ _ _ hx6; have x4 := cell_of_row w6 w.heap.size 4 _ _ _ hx6; have x5 := cell_of_row w6 w.heap.size 5 _ _ _ hx6; clear hc6 hb6 hx6) | (go_at_call 9; (with_reducible refine (HF2.out _ HB.out.b.bl).mono ?_); rintro e w7 ⟨rfl, hb7⟩; have HB := Aside0.mk (HB.out.below hb7); clear hb7 x0 x1 x2 x3 x4 x5; have hx7 := HB.out.x; have x0 := cell_of_row w7 w.heap.size 0 _ _ _ hx7; have x1 := cell_of_row w7 w.heap.size 1 _ _ _ hx7; have x2 := cell_of_row w7 w.heap.size 2 _ _ _ hx7; have x3 := cell_of_row w7 w.heap.size 3 _ _ _ hx7; have x4 := cell_of_row w7 w.heap.size 4 _ _ _ hx7; have x5 := cell_of_row w7 w.heap.size 5 _ _ _ hx7; clear hx7) | (go_at_call 15; (with_reducible refine (HD2.out _ HB.out.b).mono ?_); rintro e w8 ⟨rfl, hs8, hg8⟩; have HB := Aside0.mk (HB.out.turn hs8 hg8 HNE.out); clear hs8 hg8 x0 x1 x2 x3 x4 x5; have hx8 := HB.out.x; have x0 := cell_of_row w8 w.heap.size 0 _ _ _ hx8; clear hx8))
                    go_ret
                    exact ⟨rfl, HB.out.b.bl⟩
            · have he' : (ev == 0) = false := beq_eq_false_iff_ne.2 he
              go_wp2_with (first | (go_at_call 17; (with_reducible refine (copy_s HL.out.1).mono ?_); rintro e w6 ⟨C, rfl, hC, hc6, hb6⟩; have HB := Aside0.mk (⟨HL.out.1.below hb6, hc6, (by have := HL.out.1.lt; omega), (hb6.block _ (blk_lt HL.out.2)).trans HL.out.2⟩ : B2 w w6 w1.heap.size C g g _); have hx6 := HB.out.x; have x0 := cell_of_row w6 w.heap.size 0 _ _ _ hx6; have x1 := cell_of_row w6 w.heap.size 1 _ _ _ hx6; have x2 := cell_of_row w6 w.heap.size 2 _ _ _ hx6; have x3 := cell_of_row w6 w.heap.size 3 _ _ _ hx6; have x4 := cell_of_row w6 w.heap.size 4 _ _ _ hx6; have x5 := cell_of_row w6 w.heap.size 5 _ _ _ hx6; clear hc6 hb6 hx6) | (go_at_call 9; (with_reducible refine (HF2.out _ HB.out.b.bl).mono ?_); rintro e w7 ⟨rfl, hb7⟩; have HB := Aside0.mk (HB.out.below hb7); clear hb7 x0 x1 x2 x3 x4 x5; have hx7 := HB.out.x; have x0 := cell_of_row w7 w.heap.size 0 _ _ _ hx7; have x1 := cell_of_row w7 w.heap.size 1 _ _ _ hx7; have x2 := cell_of_row w7 w.heap.size 2 _ _ _ hx7; have x3 := cell_of_row w7 w.heap.size 3 _ _ _ hx7; have x4 := cell_of_row w7 w.heap.size 4 _ _ _ hx7; have x5 := cell_of_row w7 w.heap.size 5 _ _ _ hx7; clear hx7) | (go_at_call 15; (with_reducible refine (HD2.out _ HB.out.b).mono ?_); rintro e w8 ⟨rfl, hs8, hg8⟩; have HB := Aside0.mk (HB.out.turn hs8 hg8 HNE.out); clear hs8 hg8 x0 x1 x2 x3 x4 x5; have hx8 := HB.out.x; have x0 := cell_of_row w8 w.heap.size 0 _ _ _ hx8; clear hx8))
              subst hnl
              have HNO : Aside0 (¬ (ev = 0 ∧ nl ≠ 95 ∧ (nl < 97 ∨ nl > 122))) := ⟨fun h => he h.1⟩
              have HNS : Aside0 (¬ (ev = 0 ∧ nl ≠ 95)) := ⟨fun h => he h.1⟩
              have hI0 : I2 w (w8.iter nmB 0) w1.heap.size C w8.heap.size 0 g' g := ⟨World.iter_heap _ _ _, HB.out.b.below (below_alloc (Below.refl _ _) _), HB.out.c.below (below_alloc (Below.refl _ _) _), HB.out.b.bl.size⟩
              have HI0 := Aside0.mk hI0
              clear hI0 HB
              go_loopw [11] (fun _ wr => ∃ (wr1 : World) (q : Nat), wr1 = wr ∧ q ≤ 38 ∧ Aside0 (I2 w wr1 w1.heap.size C w8.heap.size q g' g)) (fun _ wr => 38 - wr.iterPos w8.heap.size)
              case atStart => exact ⟨_, 0, rfl, by decide, HI0⟩
              case round =>
                obtain ⟨wr1, q, rfl, hq, HI⟩ := hrel
                by_cases hq38 : q < 38
                · skip
                  obtain ⟨W2, hnx, hI2⟩ := HI.out.step hq38
                  have HI0 := HI
                  have HI := Aside0.mk hI2
                  have hk := nm_kind q hq38
                  generalize (nmB.get! q).toNat = k at *
                  have HGB := Aside0.mk (fun (W : World) (h : ST w W w1.heap.size g') => get_s h (k : Int) (by omega) (by omega))
                  have HGC := Aside0.mk (fun (W : World) (h : ST w W C g) => get_s h (k : Int) (by omega) (by omega))
                  have hsk : ¬ (ev = 0 ∧ nl ≠ 95 ∧ ((k : Int) = nl ∨ (k : Int) = 34)) := fun h => HNS.out ⟨(by first | exact h.1 | trivial), h.2.1⟩
                  have heq : getM g' (k : Int) = getM g (k : Int) := HBS.out (k : Int) hk (fun h => HNO.out (by first | exact h | exact ⟨rfl, h.2⟩)) (fun h => hsk (by first | exact h | exact ⟨rfl, h.2⟩))
                  have hlen : (getM g (k : Int)).1.l.length ≤ 100000 := Nat.le_trans (get_len HI.out.c.gg (k : Int)) (by decide)
                  rw [heq] at HGB
                  generalize getM g (k : Int) = r at *
                  obtain ⟨⟨rs, rl, rb⟩, re⟩ := r
                  dsimp only at HGB HGC hlen
                  have HSA := Aside0.mk (fun (W : World) (A7 : Option Addr) (c7 : Nat) (A9 : Option Addr) (c9 : Nat) {base base2 : Nat} (hr : Kd.R k58 58 W base (fun _ => True) (.slice A7 rl.length c7) rl) (hr2 : Kd.R k58 58 W base2 (fun _ => True) (.slice A9 rl.length c9) rl) => bureauref09_Same.calls (rl.length + 1) rs A7 c7 rl rb rs A9 c9 rl rb true W (Kd.R_reads' hr).2.2 (Kd.R_reads' hr).2.1 (Kd.R_reads' hr2).2.2 (Kd.R_reads' hr2).2.1 (same9 rs rl rb (by omega)))
                  clear hI2 heq hlen hk
                  go_wp2_with (first | (go_at_call 12; (with_reducible refine (HGB.out _ HI.out.b).mono ?_); rintro e w3 ⟨A3, c3, rfl, hr3, hb3⟩; have HR3 := Aside0.mk hr3; have HI := Aside0.mk (HI.out.below hb3); clear hr3 hb3) | (go_at_call 12; (with_reducible refine (HGC.out _ (HI.out.below (below_alloc (Below.refl _ _) _)).c).mono ?_); rintro e w4 ⟨A4, c4, rfl, hr4, hb4⟩; have HR4 := Aside0.mk hr4; have bx := (hb4.block w3.heap.size (by simp)).trans (heap_alloc_new w3 _); have u0 := cell_of_row w4 w3.heap.size 0 _ _ _ bx; have u1 := cell_of_row w4 w3.heap.size 1 _ _ _ bx; have u2 := cell_of_row w4 w3.heap.size 2 _ _ _ bx; have lx := blk_lt bx; have hb34 := below_step (below_alloc (Below.refl w3.heap.size w3) _) hb4; have HR3 := Aside0.mk (Kd.R_below HR3.out hb34); have HI := Aside0.mk (HI.out.below hb34); clear hr4 hb4 hb34 bx) | (go_at_call 18; (with_reducible refine (HSA.out _ _ _ _ _ (Kd.R_below HR3.out ?sb) (Kd.R_below HR4.out ?sb2)).mono ?_); (case sb => exact (by repeat (first | (with_reducible first | exact Below.refl _ _ | apply pw_below_drewN | apply below_alloc | apply below_drew) | exact Below.refl _ _))); (case sb2 => exact (by repeat (first | (with_reducible first | exact Below.refl _ _ | apply pw_below_drewN | apply below_alloc | apply below_drew) | exact Below.refl _ _))); rintro e w5 ⟨rfl, hb5⟩; have HI := Aside0.mk (HI.out.below (below_step (by repeat (first | (with_reducible first | exact Below.refl _ _ | apply pw_below_drewN | apply below_alloc | apply below_drew) | exact Below.refl _ _)) hb5)); clear hb5))
                  exact ⟨⟨_, q + 1, rfl, by omega, HI⟩, HI0.out.less HI.out hq38⟩
                · skip
                  have hnx := next_end wr1 w8.heap.size nmB q HI.out.it hq38
                  go_wp2
                  go_ret
                  exact ⟨rfl, HI.out.b.bl⟩
      · have hx' : (q : Int) < (l.length : Int) := by omega
        have hx2' : (40 : Int) ≤ (q : Int) := by omega
        have HF2 := Aside0.mk (fun (W : World) (hb : Below w.heap.size w W) => bureaulaw04_Fits.calls s A c ml _ W (Kd.C_below HM.out.1 hb) HM.out.2 (fit_f s ml))
        cases hf2 : fitB s ml
        · rw [hf2] at HF2
          go_wp2_with (first | (go_at_call 17; (with_reducible refine (copy_s HL.out.1).mono ?_); rintro e w6 ⟨C, rfl, hC, hc6, hb6⟩; have HB := Aside0.mk (⟨HL.out.1.below hb6, hc6, (by have := HL.out.1.lt; omega), (hb6.block _ (blk_lt HL.out.2)).trans HL.out.2⟩ : B2 w w6 w1.heap.size C g g _); have hx6 := HB.out.x; have x0 := cell_of_row w6 w.heap.size 0 _ _ _ hx6; have x1 := cell_of_row w6 w.heap.size 1 _ _ _ hx6; have x2 := cell_of_row w6 w.heap.size 2 _ _ _ hx6; have x3 := cell_of_row w6 w.heap.size 3 _ _ _ hx6; have x4 := cell_of_row w6 w.heap.size 4 _ _ _ hx6; have x5 := cell_of_row w6 w.heap.size 5 _ _ _ hx6; clear hc6 hb6 hx6) | (go_at_call 9; (with_reducible refine (HF2.out _ HB.out.b.bl).mono ?_); rintro e w7 ⟨rfl, hb7⟩; have HB := Aside0.mk (HB.out.below hb7); clear hb7 x0 x1 x2 x3 x4 x5; have hx7 := HB.out.x; have x0 := cell_of_row w7 w.heap.size 0 _ _ _ hx7; have x1 := cell_of_row w7 w.heap.size 1 _ _ _ hx7; have x2 := cell_of_row w7 w.heap.size 2 _ _ _ hx7; have x3 := cell_of_row w7 w.heap.size 3 _ _ _ hx7; have x4 := cell_of_row w7 w.heap.size 4 _ _ _ hx7; have x5 := cell_of_row w7 w.heap.size 5 _ _ _ hx7; clear hx7))
          go_ret
          exact ⟨rfl, HB.out.b.bl⟩
        · have hf5 : ml.length ≤ 5000 := (of_decide_eq_true hf2 : _ ∧ _).2
          rw [hf2] at HF2
          have HD2 := Aside0.mk (fun (W : World) (h : ST w W w1.heap.size g) => does_w h ⟨s, ml, b⟩ A c n cut wide (RA.of_old HM.out.1 HM.out.2 h.bl h.le) (by show ml.length ≤ 100000; omega) h0 h1)
          obtain ⟨g', ev, hdo⟩ : ∃ g' ev, doM g n ⟨s, ml, b⟩ cut wide = (g', ev) := ⟨_, _, rfl⟩
          have HDO := Aside0.mk hdo
          rw [hdo] at HD2
          clear hf2 hf5 hdo
          by_cases hlo : n < 65
          · obtain ⟨nl, hnl⟩ : ∃ nl : Int, nl = n := ⟨_, rfl⟩
            have HLN : Aside0 (lowN n = nl) := ⟨by unfold lowN; rw [if_neg (by omega), hnl]⟩
            have HBS : Aside0 (∀ k : Int, (k = 34 ∨ k = 45 ∨ (48 ≤ k ∧ k ≤ 57) ∨ (97 ≤ k ∧ k ≤ 122)) → ¬ (ev = 0 ∧ nl ≠ 95 ∧ (nl < 97 ∨ nl > 122)) → ¬ (ev = 0 ∧ nl ≠ 95 ∧ (k = nl ∨ k = 34)) → getM g' k = getM g k) := ⟨fun k hk a1 a2 => by
              have := beside (g := g) (n := n) (x := ⟨s, ml, b⟩) (cut := cut) (wide := wide) hk (by rw [HDO.out, HLN.out]; exact a1) (by rw [HDO.out, HLN.out]; exact a2)
              rw [HDO.out] at this
              exact this⟩
            by_cases he : ev = 0
            · subst he
              have l95 : (n != 95) = true := bne_iff_ne.2 (by omega)
              have l97 : n < 97 := by omega
              go_wp2_with (first | (go_at_call 17; (with_reducible refine (copy_s HL.out.1).mono ?_); rintro e w6 ⟨C, rfl, hC, hc6, hb6⟩; have HB := Aside0.mk (⟨HL.out.1.below hb6, hc6, (by have := HL.out.1.lt; omega), (hb6.block _ (blk_lt HL.out.2)).trans HL.out.2⟩ : B2 w w6 w1.heap.size C g g _); have hx6 := HB.out.x; have x0 := cell_of_row w6 w.heap.size 0 _ _ _ hx6; have x1 := cell_of_row w6 w.heap.size 1 _ _ _ hx6; have x2 := cell_of_row w6 w.heap.size 2 _ _ _ hx6; have x3 := cell_of_row w6 w.heap.size 3 _ _ _ hx6; have x4 := cell_of_row w6 w.heap.size 4 _ _ _ hx6; have x5 := cell_of_row w6 w.heap.size 5 _ _ _ hx6; clear hc6 hb6 hx6) | (go_at_call 9; (with_reducible refine (HF2.out _ HB.out.b.bl).mono ?_); rintro e w7 ⟨rfl, hb7⟩; have HB := Aside0.mk (HB.out.below hb7); clear hb7 x0 x1 x2 x3 x4 x5; have hx7 := HB.out.x; have x0 := cell_of_row w7 w.heap.size 0 _ _ _ hx7; have x1 := cell_of_row w7 w.heap.size 1 _ _ _ hx7; have x2 := cell_of_row w7 w.heap.size 2 _ _ _ hx7; have x3 := cell_of_row w7 w.heap.size 3 _ _ _ hx7; have x4 := cell_of_row w7 w.heap.size 4 _ _ _ hx7; have x5 := cell_of_row w7 w.heap.size 5 _ _ _ hx7; clear hx7) | (go_at_call 15; (with_reducible refine (HD2.out _ HB.out.b).mono ?_); rintro e w8 ⟨rfl, hs8, hg8⟩; have HB := Aside0.mk (HB.out.turn hs8 hg8 HNE.out); clear hs8 hg8 x0 x1 x2 x3 x4 x5; have hx8 := HB.out.x; have x0 := cell_of_row w8 w.heap.size 0 _ _ _ hx8; clear hx8))
              go_ret
              exact ⟨rfl, HB.out.b.bl⟩
            · have he' : (ev == 0) = false := beq_eq_false_iff_ne.2 he
              go_wp2_with (first | (go_at_call 17; (with_reducible refine (copy_s HL.out.1).mono ?_); rintro e w6 ⟨C, rfl, hC, hc6, hb6⟩; have HB := Aside0.mk (⟨HL.out.1.below hb6, hc6, (by have := HL.out.1.lt; omega), (hb6.block _ (blk_lt HL.out.2)).trans HL.out.2⟩ : B2 w w6 w1.heap.size C g g _); have hx6 := HB.out.x; have x0 := cell_of_row w6 w.heap.size 0 _ _ _ hx6; have x1 := cell_of_row w6 w.heap.size 1 _ _ _ hx6; have x2 := cell_of_row w6 w.heap.size 2 _ _ _ hx6; have x3 := cell_of_row w6 w.heap.size 3 _ _ _ hx6; have x4 := cell_of_row w6 w.heap.size 4 _ _ _ hx6; have x5 := cell_of_row w6 w.heap.size 5 _ _ _ hx6; clear hc6 hb6 hx6) | (go_at_call 9; (with_reducible refine (HF2.out _ HB.out.b.bl).mono ?_); rintro e w7 ⟨rfl, hb7⟩; have HB := Aside0.mk (HB.out.below hb7); clear hb7 x0 x1 x2 x3 x4 x5; have hx7 := HB.out.x; have x0 := cell_of_row w7 w.heap.size 0 _ _ _ hx7; have x1 := cell_of_row w7 w.heap.size 1 _ _ _ hx7; have x2 := cell_of_row w7 w.heap.size 2 _ _ _ hx7; have x3 := cell_of_row w7 w.heap.size 3 _ _ _ hx7; have x4 := cell_of_row w7 w.heap.size 4 _ _ _ hx7; have x5 := cell_of_row w7 w.heap.size 5 _ _ _ hx7; clear hx7) | (go_at_call 15; (with_reducible refine (HD2.out _ HB.out.b).mono ?_); rintro e w8 ⟨rfl, hs8, hg8⟩; have HB := Aside0.mk (HB.out.turn hs8 hg8 HNE.out); clear hs8 hg8 x0 x1 x2 x3 x4 x5; have hx8 := HB.out.x; have x0 := cell_of_row w8 w.heap.size 0 _ _ _ hx8; clear hx8))
              subst hnl
              have HNO : Aside0 (¬ (ev = 0 ∧ nl ≠ 95 ∧ (nl < 97 ∨ nl > 122))) := ⟨fun h => he h.1⟩
              have HNS : Aside0 (¬ (ev = 0 ∧ nl ≠ 95)) := ⟨fun h => he h.1⟩
              have hI0 : I2 w (w8.iter nmB 0) w1.heap.size C w8.heap.size 0 g' g := ⟨World.iter_heap _ _ _, HB.out.b.below (below_alloc (Below.refl _ _) _), HB.out.c.below (below_alloc (Below.refl _ _) _), HB.out.b.bl.size⟩
              have HI0 := Aside0.mk hI0
              clear hI0 HB
              go_loopw [11] (fun _ wr => ∃ (wr1 : World) (q : Nat), wr1 = wr ∧ q ≤ 38 ∧ Aside0 (I2 w wr1 w1.heap.size C w8.heap.size q g' g)) (fun _ wr => 38 - wr.iterPos w8.heap.size)
              case atStart => exact ⟨_, 0, rfl, by decide, HI0⟩
              case round =>
                obtain ⟨wr1, q, rfl, hq, HI⟩ := hrel
                by_cases hq38 : q < 38
                · skip
                  obtain ⟨W2, hnx, hI2⟩ := HI.out.step hq38
                  have HI0 := HI
                  have HI := Aside0.mk hI2
                  have hk := nm_kind q hq38
                  generalize (nmB.get! q).toNat = k at *
                  have HGB := Aside0.mk (fun (W : World) (h : ST w W w1.heap.size g') => get_s h (k : Int) (by omega) (by omega))
                  have HGC := Aside0.mk (fun (W : World) (h : ST w W C g) => get_s h (k : Int) (by omega) (by omega))
                  have hsk : ¬ (ev = 0 ∧ nl ≠ 95 ∧ ((k : Int) = nl ∨ (k : Int) = 34)) := fun h => HNS.out ⟨(by first | exact h.1 | trivial), h.2.1⟩
                  have heq : getM g' (k : Int) = getM g (k : Int) := HBS.out (k : Int) hk (fun h => HNO.out (by first | exact h | exact ⟨rfl, h.2⟩)) (fun h => hsk (by first | exact h | exact ⟨rfl, h.2⟩))
                  have hlen : (getM g (k : Int)).1.l.length ≤ 100000 := Nat.le_trans (get_len HI.out.c.gg (k : Int)) (by decide)
                  rw [heq] at HGB
                  generalize getM g (k : Int) = r at *
                  obtain ⟨⟨rs, rl, rb⟩, re⟩ := r
                  dsimp only at HGB HGC hlen
                  have HSA := Aside0.mk (fun (W : World) (A7 : Option Addr) (c7 : Nat) (A9 : Option Addr) (c9 : Nat) {base base2 : Nat} (hr : Kd.R k58 58 W base (fun _ => True) (.slice A7 rl.length c7) rl) (hr2 : Kd.R k58 58 W base2 (fun _ => True) (.slice A9 rl.length c9) rl) => bureauref09_Same.calls (rl.length + 1) rs A7 c7 rl rb rs A9 c9 rl rb true W (Kd.R_reads' hr).2.2 (Kd.R_reads' hr).2.1 (Kd.R_reads' hr2).2.2 (Kd.R_reads' hr2).2.1 (same9 rs rl rb (by omega)))
                  clear hI2 heq hlen hk
                  go_wp2_with (first | (go_at_call 12; (with_reducible refine (HGB.out _ HI.out.b).mono ?_); rintro e w3 ⟨A3, c3, rfl, hr3, hb3⟩; have HR3 := Aside0.mk hr3; have HI := Aside0.mk (HI.out.below hb3); clear hr3 hb3) | (go_at_call 12; (with_reducible refine (HGC.out _ (HI.out.below (below_alloc (Below.refl _ _) _)).c).mono ?_); rintro e w4 ⟨A4, c4, rfl, hr4, hb4⟩; have HR4 := Aside0.mk hr4; have bx := (hb4.block w3.heap.size (by simp)).trans (heap_alloc_new w3 _); have u0 := cell_of_row w4 w3.heap.size 0 _ _ _ bx; have u1 := cell_of_row w4 w3.heap.size 1 _ _ _ bx; have u2 := cell_of_row w4 w3.heap.size 2 _ _ _ bx; have lx := blk_lt bx; have hb34 := below_step (below_alloc (Below.refl w3.heap.size w3) _) hb4; have HR3 := Aside0.mk (Kd.R_below HR3.out hb34); have HI := Aside0.mk (HI.out.below hb34); clear hr4 hb4 hb34 bx) | (go_at_call 18; (with_reducible refine (HSA.out _ _ _ _ _ (Kd.R_below HR3.out ?sb) (Kd.R_below HR4.out ?sb2)).mono ?_); (case sb => exact (by repeat (first | (with_reducible first | exact Below.refl _ _ | apply pw_below_drewN | apply below_alloc | apply below_drew) | exact Below.refl _ _))); (case sb2 => exact (by repeat (first | (with_reducible first | exact Below.refl _ _ | apply pw_below_drewN | apply below_alloc | apply below_drew) | exact Below.refl _ _))); rintro e w5 ⟨rfl, hb5⟩; have HI := Aside0.mk (HI.out.below (below_step (by repeat (first | (with_reducible first | exact Below.refl _ _ | apply pw_below_drewN | apply below_alloc | apply below_drew) | exact Below.refl _ _)) hb5)); clear hb5))
                  exact ⟨⟨_, q + 1, rfl, by omega, HI⟩, HI0.out.less HI.out hq38⟩
                · skip
                  have hnx := next_end wr1 w8.heap.size nmB q HI.out.it hq38
                  go_wp2
                  go_ret
                  exact ⟨rfl, HI.out.b.bl⟩
          by_cases hup : n ≤ 90
          · have c65 : 65 ≤ n := by omega
            obtain ⟨nl, hnl⟩ : ∃ nl : Int, nl = n + 32 := ⟨_, rfl⟩
            have HLN : Aside0 (lowN n = nl) := ⟨by unfold lowN; rw [if_pos ⟨c65, hup⟩, hnl]⟩
            have HBS : Aside0 (∀ k : Int, (k = 34 ∨ k = 45 ∨ (48 ≤ k ∧ k ≤ 57) ∨ (97 ≤ k ∧ k ≤ 122)) → ¬ (ev = 0 ∧ nl ≠ 95 ∧ (nl < 97 ∨ nl > 122)) → ¬ (ev = 0 ∧ nl ≠ 95 ∧ (k = nl ∨ k = 34)) → getM g' k = getM g k) := ⟨fun k hk a1 a2 => by
              have := beside (g := g) (n := n) (x := ⟨s, ml, b⟩) (cut := cut) (wide := wide) hk (by rw [HDO.out, HLN.out]; exact a1) (by rw [HDO.out, HLN.out]; exact a2)
              rw [HDO.out] at this
              exact this⟩
            have l97 : (97 : Int) ≤ n + 32 := by omega
            have l122 : n + 32 ≤ 122 := by omega
            have l95 : (n + 32 != 95) = true := bne_iff_ne.2 (by omega)
            clear hlo
            by_cases he : ev = 0
            · subst he
              go_wp2_with (first | (go_at_call 17; (with_reducible refine (copy_s HL.out.1).mono ?_); rintro e w6 ⟨C, rfl, hC, hc6, hb6⟩; have HB := Aside0.mk (⟨HL.out.1.below hb6, hc6, (by have := HL.out.1.lt; omega), (hb6.block _ (blk_lt HL.out.2)).trans HL.out.2⟩ : B2 w w6 w1.heap.size C g g _); have hx6 := HB.out.x; have x0 := cell_of_row w6 w.heap.size 0 _ _ _ hx6; have x1 := cell_of_row w6 w.heap.size 1 _ _ _ hx6; have x2 := cell_of_row w6 w.heap.size 2 _ _ _ hx6; have x3 := cell_of_row w6 w.heap.size 3 _ _ _ hx6; have x4 := cell_of_row w6 w.heap.size 4 _ _ _ hx6; have x5 := cell_of_row w6 w.heap.size 5 _ _ _ hx6; clear hc6 hb6 hx6) | (go_at_call 9; (with_reducible refine (HF2.out _ HB.out.b.bl).mono ?_); rintro e w7 ⟨rfl, hb7⟩; have HB := Aside0.mk (HB.out.below hb7); clear hb7 x0 x1 x2 x3 x4 x5; have hx7 := HB.out.x; have x0 := cell_of_row w7 w.heap.size 0 _ _ _ hx7; have x1 := cell_of_row w7 w.heap.size 1 _ _ _ hx7; have x2 := cell_of_row w7 w.heap.size 2 _ _ _ hx7; have x3 := cell_of_row w7 w.heap.size 3 _ _ _ hx7; have x4 := cell_of_row w7 w.heap.size 4 _ _ _ hx7; have x5 := cell_of_row w7 w.heap.size 5 _ _ _ hx7; clear hx7) | (go_at_call 15; (with_reducible refine (HD2.out _ HB.out.b).mono ?_); rintro e w8 ⟨rfl, hs8, hg8⟩; have HB := Aside0.mk (HB.out.turn hs8 hg8 HNE.out); clear hs8 hg8 x0 x1 x2 x3 x4 x5; have hx8 := HB.out.x; have x0 := cell_of_row w8 w.heap.size 0 _ _ _ hx8; clear hx8))
              have HNO : Aside0 (¬ ((0 : Int) = 0 ∧ nl ≠ 95 ∧ (nl < 97 ∨ nl > 122))) := ⟨fun h => by omega⟩
              rw [← hnl] at l97 l122 l95 ⊢
              clear hnl c65 hup
              have hI0 : I2 w (w8.iter nmB 0) w1.heap.size C w8.heap.size 0 g' g := ⟨World.iter_heap _ _ _, HB.out.b.below (below_alloc (Below.refl _ _) _), HB.out.c.below (below_alloc (Below.refl _ _) _), HB.out.b.bl.size⟩
              have HI0 := Aside0.mk hI0
              clear hI0 HB
              go_loopw [11] (fun _ wr => ∃ (wr1 : World) (q : Nat), wr1 = wr ∧ q ≤ 38 ∧ Aside0 (I2 w wr1 w1.heap.size C w8.heap.size q g' g)) (fun _ wr => 38 - wr.iterPos w8.heap.size)
              case atStart => exact ⟨_, 0, rfl, by decide, HI0⟩
              case round =>
                obtain ⟨wr1, q, rfl, hq, HI⟩ := hrel
                by_cases hq38 : q < 38
                · skip
                  obtain ⟨W2, hnx, hI2⟩ := HI.out.step hq38
                  have HI0 := HI
                  have HI := Aside0.mk hI2
                  have hk := nm_kind q hq38
                  generalize (nmB.get! q).toNat = k at *
                  have HGB := Aside0.mk (fun (W : World) (h : ST w W w1.heap.size g') => get_s h (k : Int) (by omega) (by omega))
                  have HGC := Aside0.mk (fun (W : World) (h : ST w W C g) => get_s h (k : Int) (by omega) (by omega))
                  by_cases hkn : (k : Int) = nl
                  · have hkn' : ((k : Int) == nl) = true := beq_iff_eq.2 hkn
                    clear hkn
                    clear hI2 hk
                    go_wp2_with (first | (go_at_call 12; (with_reducible refine (HGB.out _ HI.out.b).mono ?_); rintro e w3 ⟨A3, c3, rfl, hr3, hb3⟩; have HR3 := Aside0.mk hr3; have HI := Aside0.mk (HI.out.below hb3); clear hr3 hb3) | (go_at_call 12; (with_reducible refine (HGC.out _ (HI.out.below (below_alloc (Below.refl _ _) _)).c).mono ?_); rintro e w4 ⟨A4, c4, rfl, hr4, hb4⟩; have HR4 := Aside0.mk hr4; have bx := (hb4.block w3.heap.size (by simp)).trans (heap_alloc_new w3 _); have u0 := cell_of_row w4 w3.heap.size 0 _ _ _ bx; have u1 := cell_of_row w4 w3.heap.size 1 _ _ _ bx; have u2 := cell_of_row w4 w3.heap.size 2 _ _ _ bx; have lx := blk_lt bx; have hb34 := below_step (below_alloc (Below.refl w3.heap.size w3) _) hb4; have HR3 := Aside0.mk (Kd.R_below HR3.out hb34); have HI := Aside0.mk (HI.out.below hb34); clear hr4 hb4 hb34 bx))
                    have HI := Aside0.mk (HI.out.below (below_alloc (Below.refl _ _) (.cells #[.string (getM g (k : Int)).1.s, .slice A4 (getM g (k : Int)).1.l.length c4, .bool (getM g (k : Int)).1.b] 33)))
                    exact ⟨⟨_, q + 1, rfl, by omega, HI⟩, HI0.out.less HI.out hq38⟩
                  · have hkn' : ((k : Int) == nl) = false := beq_eq_false_iff_ne.2 hkn
                    by_cases hk34 : (k : Int) = 34
                    · have hk34' : ((k : Int) == 34) = true := beq_iff_eq.2 hk34
                      clear hk34 hkn
                      clear hI2 hk
                      go_wp2_with (first | (go_at_call 12; (with_reducible refine (HGB.out _ HI.out.b).mono ?_); rintro e w3 ⟨A3, c3, rfl, hr3, hb3⟩; have HR3 := Aside0.mk hr3; have HI := Aside0.mk (HI.out.below hb3); clear hr3 hb3) | (go_at_call 12; (with_reducible refine (HGC.out _ (HI.out.below (below_alloc (Below.refl _ _) _)).c).mono ?_); rintro e w4 ⟨A4, c4, rfl, hr4, hb4⟩; have HR4 := Aside0.mk hr4; have bx := (hb4.block w3.heap.size (by simp)).trans (heap_alloc_new w3 _); have u0 := cell_of_row w4 w3.heap.size 0 _ _ _ bx; have u1 := cell_of_row w4 w3.heap.size 1 _ _ _ bx; have u2 := cell_of_row w4 w3.heap.size 2 _ _ _ bx; have lx := blk_lt bx; have hb34 := below_step (below_alloc (Below.refl w3.heap.size w3) _) hb4; have HR3 := Aside0.mk (Kd.R_below HR3.out hb34); have HI := Aside0.mk (HI.out.below hb34); clear hr4 hb4 hb34 bx))
                      have HI := Aside0.mk (HI.out.below (below_alloc (Below.refl _ _) (.cells #[.string (getM g (k : Int)).1.s, .slice A4 (getM g (k : Int)).1.l.length c4, .bool (getM g (k : Int)).1.b] 33)))
                      exact ⟨⟨_, q + 1, rfl, by omega, HI⟩, HI0.out.less HI.out hq38⟩
                    · have hk34' : ((k : Int) == 34) = false := beq_eq_false_iff_ne.2 hk34
                      have hsk : ¬ ((0 : Int) = 0 ∧ nl ≠ 95 ∧ ((k : Int) = nl ∨ (k : Int) = 34)) := fun h => h.2.2.elim hkn hk34
                      clear hk34 hkn
                      have heq : getM g' (k : Int) = getM g (k : Int) := HBS.out (k : Int) hk (fun h => HNO.out (by first | exact h | exact ⟨rfl, h.2⟩)) (fun h => hsk (by first | exact h | exact ⟨rfl, h.2⟩))
                      have hlen : (getM g (k : Int)).1.l.length ≤ 100000 := Nat.le_trans (get_len HI.out.c.gg (k : Int)) (by decide)
                      rw [heq] at HGB
                      generalize getM g (k : Int) = r at *
                      obtain ⟨⟨rs, rl, rb⟩, re⟩ := r
                      dsimp only at HGB HGC hlen
                      have HSA := Aside0.mk (fun (W : World) (A7 : Option Addr) (c7 : Nat) (A9 : Option Addr) (c9 : Nat) {base base2 : Nat} (hr : Kd.R k58 58 W base (fun _ => True) (.slice A7 rl.length c7) rl) (hr2 : Kd.R k58 58 W base2 (fun _ => True) (.slice A9 rl.length c9) rl) => bureauref09_Same.calls (rl.length + 1) rs A7 c7 rl rb rs A9 c9 rl rb true W (Kd.R_reads' hr).2.2 (Kd.R_reads' hr).2.1 (Kd.R_reads' hr2).2.2 (Kd.R_reads' hr2).2.1 (same9 rs rl rb (by omega)))
                      clear hI2 heq hlen hk
                      go_wp2_with (first | (go_at_call 12; (with_reducible refine (HGB.out _ HI.out.b).mono ?_); rintro e w3 ⟨A3, c3, rfl, hr3, hb3⟩; have HR3 := Aside0.mk hr3; have HI := Aside0.mk (HI.out.below hb3); clear hr3 hb3) | (go_at_call 12; (with_reducible refine (HGC.out _ (HI.out.below (below_alloc (Below.refl _ _) _)).c).mono ?_); rintro e w4 ⟨A4, c4, rfl, hr4, hb4⟩; have HR4 := Aside0.mk hr4; have bx := (hb4.block w3.heap.size (by simp)).trans (heap_alloc_new w3 _); have u0 := cell_of_row w4 w3.heap.size 0 _ _ _ bx; have u1 := cell_of_row w4 w3.heap.size 1 _ _ _ bx; have u2 := cell_of_row w4 w3.heap.size 2 _ _ _ bx; have lx := blk_lt bx; have hb34 := below_step (below_alloc (Below.refl w3.heap.size w3) _) hb4; have HR3 := Aside0.mk (Kd.R_below HR3.out hb34); have HI := Aside0.mk (HI.out.below hb34); clear hr4 hb4 hb34 bx) | (go_at_call 18; (with_reducible refine (HSA.out _ _ _ _ _ (Kd.R_below HR3.out ?sb) (Kd.R_below HR4.out ?sb2)).mono ?_); (case sb => exact (by repeat (first | (with_reducible first | exact Below.refl _ _ | apply pw_below_drewN | apply below_alloc | apply below_drew) | exact Below.refl _ _))); (case sb2 => exact (by repeat (first | (with_reducible first | exact Below.refl _ _ | apply pw_below_drewN | apply below_alloc | apply below_drew) | exact Below.refl _ _))); rintro e w5 ⟨rfl, hb5⟩; have HI := Aside0.mk (HI.out.below (below_step (by repeat (first | (with_reducible first | exact Below.refl _ _ | apply pw_below_drewN | apply below_alloc | apply below_drew) | exact Below.refl _ _)) hb5)); clear hb5))
                      exact ⟨⟨_, q + 1, rfl, by omega, HI⟩, HI0.out.less HI.out hq38⟩
                · skip
                  have hnx := next_end wr1 w8.heap.size nmB q HI.out.it hq38
                  go_wp2
                  go_ret
                  exact ⟨rfl, HI.out.b.bl⟩
            · have he' : (ev == 0) = false := beq_eq_false_iff_ne.2 he
              go_wp2_with (first | (go_at_call 17; (with_reducible refine (copy_s HL.out.1).mono ?_); rintro e w6 ⟨C, rfl, hC, hc6, hb6⟩; have HB := Aside0.mk (⟨HL.out.1.below hb6, hc6, (by have := HL.out.1.lt; omega), (hb6.block _ (blk_lt HL.out.2)).trans HL.out.2⟩ : B2 w w6 w1.heap.size C g g _); have hx6 := HB.out.x; have x0 := cell_of_row w6 w.heap.size 0 _ _ _ hx6; have x1 := cell_of_row w6 w.heap.size 1 _ _ _ hx6; have x2 := cell_of_row w6 w.heap.size 2 _ _ _ hx6; have x3 := cell_of_row w6 w.heap.size 3 _ _ _ hx6; have x4 := cell_of_row w6 w.heap.size 4 _ _ _ hx6; have x5 := cell_of_row w6 w.heap.size 5 _ _ _ hx6; clear hc6 hb6 hx6) | (go_at_call 9; (with_reducible refine (HF2.out _ HB.out.b.bl).mono ?_); rintro e w7 ⟨rfl, hb7⟩; have HB := Aside0.mk (HB.out.below hb7); clear hb7 x0 x1 x2 x3 x4 x5; have hx7 := HB.out.x; have x0 := cell_of_row w7 w.heap.size 0 _ _ _ hx7; have x1 := cell_of_row w7 w.heap.size 1 _ _ _ hx7; have x2 := cell_of_row w7 w.heap.size 2 _ _ _ hx7; have x3 := cell_of_row w7 w.heap.size 3 _ _ _ hx7; have x4 := cell_of_row w7 w.heap.size 4 _ _ _ hx7; have x5 := cell_of_row w7 w.heap.size 5 _ _ _ hx7; clear hx7) | (go_at_call 15; (with_reducible refine (HD2.out _ HB.out.b).mono ?_); rintro e w8 ⟨rfl, hs8, hg8⟩; have HB := Aside0.mk (HB.out.turn hs8 hg8 HNE.out); clear hs8 hg8 x0 x1 x2 x3 x4 x5; have hx8 := HB.out.x; have x0 := cell_of_row w8 w.heap.size 0 _ _ _ hx8; clear hx8))
              have HNO : Aside0 (¬ (ev = 0 ∧ nl ≠ 95 ∧ (nl < 97 ∨ nl > 122))) := ⟨fun h => he h.1⟩
              have HNS : Aside0 (¬ (ev = 0 ∧ nl ≠ 95)) := ⟨fun h => he h.1⟩
              rw [← hnl] at l97 l122 l95 ⊢
              clear hnl c65 hup
              have hI0 : I2 w (w8.iter nmB 0) w1.heap.size C w8.heap.size 0 g' g := ⟨World.iter_heap _ _ _, HB.out.b.below (below_alloc (Below.refl _ _) _), HB.out.c.below (below_alloc (Below.refl _ _) _), HB.out.b.bl.size⟩
              have HI0 := Aside0.mk hI0
              clear hI0 HB
              go_loopw [11] (fun _ wr => ∃ (wr1 : World) (q : Nat), wr1 = wr ∧ q ≤ 38 ∧ Aside0 (I2 w wr1 w1.heap.size C w8.heap.size q g' g)) (fun _ wr => 38 - wr.iterPos w8.heap.size)
              case atStart => exact ⟨_, 0, rfl, by decide, HI0⟩
              case round =>
                obtain ⟨wr1, q, rfl, hq, HI⟩ := hrel
                by_cases hq38 : q < 38
                · skip
                  obtain ⟨W2, hnx, hI2⟩ := HI.out.step hq38
                  have HI0 := HI
                  have HI := Aside0.mk hI2
                  have hk := nm_kind q hq38
                  generalize (nmB.get! q).toNat = k at *
                  have HGB := Aside0.mk (fun (W : World) (h : ST w W w1.heap.size g') => get_s h (k : Int) (by omega) (by omega))
                  have HGC := Aside0.mk (fun (W : World) (h : ST w W C g) => get_s h (k : Int) (by omega) (by omega))
                  have hsk : ¬ (ev = 0 ∧ nl ≠ 95 ∧ ((k : Int) = nl ∨ (k : Int) = 34)) := fun h => HNS.out ⟨(by first | exact h.1 | trivial), h.2.1⟩
                  have heq : getM g' (k : Int) = getM g (k : Int) := HBS.out (k : Int) hk (fun h => HNO.out (by first | exact h | exact ⟨rfl, h.2⟩)) (fun h => hsk (by first | exact h | exact ⟨rfl, h.2⟩))
                  have hlen : (getM g (k : Int)).1.l.length ≤ 100000 := Nat.le_trans (get_len HI.out.c.gg (k : Int)) (by decide)
                  rw [heq] at HGB
                  generalize getM g (k : Int) = r at *
                  obtain ⟨⟨rs, rl, rb⟩, re⟩ := r
                  dsimp only at HGB HGC hlen
                  have HSA := Aside0.mk (fun (W : World) (A7 : Option Addr) (c7 : Nat) (A9 : Option Addr) (c9 : Nat) {base base2 : Nat} (hr : Kd.R k58 58 W base (fun _ => True) (.slice A7 rl.length c7) rl) (hr2 : Kd.R k58 58 W base2 (fun _ => True) (.slice A9 rl.length c9) rl) => bureauref09_Same.calls (rl.length + 1) rs A7 c7 rl rb rs A9 c9 rl rb true W (Kd.R_reads' hr).2.2 (Kd.R_reads' hr).2.1 (Kd.R_reads' hr2).2.2 (Kd.R_reads' hr2).2.1 (same9 rs rl rb (by omega)))
                  clear hI2 heq hlen hk
                  go_wp2_with (first | (go_at_call 12; (with_reducible refine (HGB.out _ HI.out.b).mono ?_); rintro e w3 ⟨A3, c3, rfl, hr3, hb3⟩; have HR3 := Aside0.mk hr3; have HI := Aside0.mk (HI.out.below hb3); clear hr3 hb3) | (go_at_call 12; (with_reducible refine (HGC.out _ (HI.out.below (below_alloc (Below.refl _ _) _)).c).mono ?_); rintro e w4 ⟨A4, c4, rfl, hr4, hb4⟩; have HR4 := Aside0.mk hr4; have bx := (hb4.block w3.heap.size (by simp)).trans (heap_alloc_new w3 _); have u0 := cell_of_row w4 w3.heap.size 0 _ _ _ bx; have u1 := cell_of_row w4 w3.heap.size 1 _ _ _ bx; have u2 := cell_of_row w4 w3.heap.size 2 _ _ _ bx; have lx := blk_lt bx; have hb34 := below_step (below_alloc (Below.refl w3.heap.size w3) _) hb4; have HR3 := Aside0.mk (Kd.R_below HR3.out hb34); have HI := Aside0.mk (HI.out.below hb34); clear hr4 hb4 hb34 bx) | (go_at_call 18; (with_reducible refine (HSA.out _ _ _ _ _ (Kd.R_below HR3.out ?sb) (Kd.R_below HR4.out ?sb2)).mono ?_); (case sb => exact (by repeat (first | (with_reducible first | exact Below.refl _ _ | apply pw_below_drewN | apply below_alloc | apply below_drew) | exact Below.refl _ _))); (case sb2 => exact (by repeat (first | (with_reducible first | exact Below.refl _ _ | apply pw_below_drewN | apply below_alloc | apply below_drew) | exact Below.refl _ _))); rintro e w5 ⟨rfl, hb5⟩; have HI := Aside0.mk (HI.out.below (below_step (by repeat (first | (with_reducible first | exact Below.refl _ _ | apply pw_below_drewN | apply below_alloc | apply below_drew) | exact Below.refl _ _)) hb5)); clear hb5))
                  exact ⟨⟨_, q + 1, rfl, by omega, HI⟩, HI0.out.less HI.out hq38⟩
                · skip
                  have hnx := next_end wr1 w8.heap.size nmB q HI.out.it hq38
                  go_wp2
                  go_ret
                  exact ⟨rfl, HI.out.b.bl⟩
          · have c65 : 65 ≤ n := by omega
            have c90 : 90 < n := by omega
            obtain ⟨nl, hnl⟩ : ∃ nl : Int, nl = n := ⟨_, rfl⟩
            have HLN : Aside0 (lowN n = nl) := ⟨by unfold lowN; rw [if_neg (by omega), hnl]⟩
            have HBS : Aside0 (∀ k : Int, (k = 34 ∨ k = 45 ∨ (48 ≤ k ∧ k ≤ 57) ∨ (97 ≤ k ∧ k ≤ 122)) → ¬ (ev = 0 ∧ nl ≠ 95 ∧ (nl < 97 ∨ nl > 122)) → ¬ (ev = 0 ∧ nl ≠ 95 ∧ (k = nl ∨ k = 34)) → getM g' k = getM g k) := ⟨fun k hk a1 a2 => by
              have := beside (g := g) (n := n) (x := ⟨s, ml, b⟩) (cut := cut) (wide := wide) hk (by rw [HDO.out, HLN.out]; exact a1) (by rw [HDO.out, HLN.out]; exact a2)
              rw [HDO.out] at this
              exact this⟩
            clear hup hlo
            by_cases he : ev = 0
            · subst he
              by_cases h95 : n = 95
              · have l95 : (n != 95) = false := by rw [h95]; rfl
                have HNS : Aside0 (¬ ((0 : Int) = 0 ∧ nl ≠ 95)) := ⟨fun h => h.2 (hnl.trans h95)⟩
                have HNO : Aside0 (¬ ((0 : Int) = 0 ∧ nl ≠ 95 ∧ (nl < 97 ∨ nl > 122))) := ⟨fun h => h.2.1 (hnl.trans h95)⟩
                clear h95
                go_wp2_with (first | (go_at_call 17; (with_reducible refine (copy_s HL.out.1).mono ?_); rintro e w6 ⟨C, rfl, hC, hc6, hb6⟩; have HB := Aside0.mk (⟨HL.out.1.below hb6, hc6, (by have := HL.out.1.lt; omega), (hb6.block _ (blk_lt HL.out.2)).trans HL.out.2⟩ : B2 w w6 w1.heap.size C g g _); have hx6 := HB.out.x; have x0 := cell_of_row w6 w.heap.size 0 _ _ _ hx6; have x1 := cell_of_row w6 w.heap.size 1 _ _ _ hx6; have x2 := cell_of_row w6 w.heap.size 2 _ _ _ hx6; have x3 := cell_of_row w6 w.heap.size 3 _ _ _ hx6; have x4 := cell_of_row w6 w.heap.size 4 _ _ _ hx6; have x5 := cell_of_row w6 w.heap.size 5 _ _ _ hx6; clear hc6 hb6 hx6) | (go_at_call 9; (with_reducible refine (HF2.out _ HB.out.b.bl).mono ?_); rintro e w7 ⟨rfl, hb7⟩; have HB := Aside0.mk (HB.out.below hb7); clear hb7 x0 x1 x2 x3 x4 x5; have hx7 := HB.out.x; have x0 := cell_of_row w7 w.heap.size 0 _ _ _ hx7; have x1 := cell_of_row w7 w.heap.size 1 _ _ _ hx7; have x2 := cell_of_row w7 w.heap.size 2 _ _ _ hx7; have x3 := cell_of_row w7 w.heap.size 3 _ _ _ hx7; have x4 := cell_of_row w7 w.heap.size 4 _ _ _ hx7; have x5 := cell_of_row w7 w.heap.size 5 _ _ _ hx7; clear hx7) | (go_at_call 15; (with_reducible refine (HD2.out _ HB.out.b).mono ?_); rintro e w8 ⟨rfl, hs8, hg8⟩; have HB := Aside0.mk (HB.out.turn hs8 hg8 HNE.out); clear hs8 hg8 x0 x1 x2 x3 x4 x5; have hx8 := HB.out.x; have x0 := cell_of_row w8 w.heap.size 0 _ _ _ hx8; clear hx8))
                subst hnl
                have hI0 : I2 w (w8.iter nmB 0) w1.heap.size C w8.heap.size 0 g' g := ⟨World.iter_heap _ _ _, HB.out.b.below (below_alloc (Below.refl _ _) _), HB.out.c.below (below_alloc (Below.refl _ _) _), HB.out.b.bl.size⟩
                have HI0 := Aside0.mk hI0
                clear hI0 HB
                go_loopw [11] (fun _ wr => ∃ (wr1 : World) (q : Nat), wr1 = wr ∧ q ≤ 38 ∧ Aside0 (I2 w wr1 w1.heap.size C w8.heap.size q g' g)) (fun _ wr => 38 - wr.iterPos w8.heap.size)
                case atStart => exact ⟨_, 0, rfl, by decide, HI0⟩
                case round =>
                  obtain ⟨wr1, q, rfl, hq, HI⟩ := hrel
                  by_cases hq38 : q < 38
                  · skip
                    obtain ⟨W2, hnx, hI2⟩ := HI.out.step hq38
                    have HI0 := HI
                    have HI := Aside0.mk hI2
                    have hk := nm_kind q hq38
                    generalize (nmB.get! q).toNat = k at *
                    have HGB := Aside0.mk (fun (W : World) (h : ST w W w1.heap.size g') => get_s h (k : Int) (by omega) (by omega))
                    have HGC := Aside0.mk (fun (W : World) (h : ST w W C g) => get_s h (k : Int) (by omega) (by omega))
                    have hsk : ¬ ((0 : Int) = 0 ∧ nl ≠ 95 ∧ ((k : Int) = nl ∨ (k : Int) = 34)) := fun h => HNS.out ⟨(by first | exact h.1 | trivial), h.2.1⟩
                    have heq : getM g' (k : Int) = getM g (k : Int) := HBS.out (k : Int) hk (fun h => HNO.out (by first | exact h | exact ⟨rfl, h.2⟩)) (fun h => hsk (by first | exact h | exact ⟨rfl, h.2⟩))
                    have hlen : (getM g (k : Int)).1.l.length ≤ 100000 := Nat.le_trans (get_len HI.out.c.gg (k : Int)) (by decide)
                    rw [heq] at HGB
                    generalize getM g (k : Int) = r at *
                    obtain ⟨⟨rs, rl, rb⟩, re⟩ := r
                    dsimp only at HGB HGC hlen
                    have HSA := Aside0.mk (fun (W : World) (A7 : Option Addr) (c7 : Nat) (A9 : Option Addr) (c9 : Nat) {base base2 : Nat} (hr : Kd.R k58 58 W base (fun _ => True) (.slice A7 rl.length c7) rl) (hr2 : Kd.R k58 58 W base2 (fun _ => True) (.slice A9 rl.length c9) rl) => bureauref09_Same.calls (rl.length + 1) rs A7 c7 rl rb rs A9 c9 rl rb true W (Kd.R_reads' hr).2.2 (Kd.R_reads' hr).2.1 (Kd.R_reads' hr2).2.2 (Kd.R_reads' hr2).2.1 (same9 rs rl rb (by omega)))
                    clear hI2 heq hlen hk
                    go_wp2_with (first | (go_at_call 12; (with_reducible refine (HGB.out _ HI.out.b).mono ?_); rintro e w3 ⟨A3, c3, rfl, hr3, hb3⟩; have HR3 := Aside0.mk hr3; have HI := Aside0.mk (HI.out.below hb3); clear hr3 hb3) | (go_at_call 12; (with_reducible refine (HGC.out _ (HI.out.below (below_alloc (Below.refl _ _) _)).c).mono ?_); rintro e w4 ⟨A4, c4, rfl, hr4, hb4⟩; have HR4 := Aside0.mk hr4; have bx := (hb4.block w3.heap.size (by simp)).trans (heap_alloc_new w3 _); have u0 := cell_of_row w4 w3.heap.size 0 _ _ _ bx; have u1 := cell_of_row w4 w3.heap.size 1 _ _ _ bx; have u2 := cell_of_row w4 w3.heap.size 2 _ _ _ bx; have lx := blk_lt bx; have hb34 := below_step (below_alloc (Below.refl w3.heap.size w3) _) hb4; have HR3 := Aside0.mk (Kd.R_below HR3.out hb34); have HI := Aside0.mk (HI.out.below hb34); clear hr4 hb4 hb34 bx) | (go_at_call 18; (with_reducible refine (HSA.out _ _ _ _ _ (Kd.R_below HR3.out ?sb) (Kd.R_below HR4.out ?sb2)).mono ?_); (case sb => exact (by repeat (first | (with_reducible first | exact Below.refl _ _ | apply pw_below_drewN | apply below_alloc | apply below_drew) | exact Below.refl _ _))); (case sb2 => exact (by repeat (first | (with_reducible first | exact Below.refl _ _ | apply pw_below_drewN | apply below_alloc | apply below_drew) | exact Below.refl _ _))); rintro e w5 ⟨rfl, hb5⟩; have HI := Aside0.mk (HI.out.below (below_step (by repeat (first | (with_reducible first | exact Below.refl _ _ | apply pw_below_drewN | apply below_alloc | apply below_drew) | exact Below.refl _ _)) hb5)); clear hb5))
                    exact ⟨⟨_, q + 1, rfl, by omega, HI⟩, HI0.out.less HI.out hq38⟩
                  · skip
                    have hnx := next_end wr1 w8.heap.size nmB q HI.out.it hq38
                    go_wp2
                    go_ret
                    exact ⟨rfl, HI.out.b.bl⟩
              · have l95 : (n != 95) = true := bne_iff_ne.2 h95
                by_cases h97 : n < 97
                · go_wp2_with (first | (go_at_call 17; (with_reducible refine (copy_s HL.out.1).mono ?_); rintro e w6 ⟨C, rfl, hC, hc6, hb6⟩; have HB := Aside0.mk (⟨HL.out.1.below hb6, hc6, (by have := HL.out.1.lt; omega), (hb6.block _ (blk_lt HL.out.2)).trans HL.out.2⟩ : B2 w w6 w1.heap.size C g g _); have hx6 := HB.out.x; have x0 := cell_of_row w6 w.heap.size 0 _ _ _ hx6; have x1 := cell_of_row w6 w.heap.size 1 _ _ _ hx6; have x2 := cell_of_row w6 w.heap.size 2 _ _ _ hx6; have x3 := cell_of_row w6 w.heap.size 3 _ _ _ hx6; have x4 := cell_of_row w6 w.heap.size 4 _ _ _ hx6; have x5 := cell_of_row w6 w.heap.size 5 _ _ _ hx6; clear hc6 hb6 hx6) | (go_at_call 9; (with_reducible refine (HF2.out _ HB.out.b.bl).mono ?_); rintro e w7 ⟨rfl, hb7⟩; have HB := Aside0.mk (HB.out.below hb7); clear hb7 x0 x1 x2 x3 x4 x5; have hx7 := HB.out.x; have x0 := cell_of_row w7 w.heap.size 0 _ _ _ hx7; have x1 := cell_of_row w7 w.heap.size 1 _ _ _ hx7; have x2 := cell_of_row w7 w.heap.size 2 _ _ _ hx7; have x3 := cell_of_row w7 w.heap.size 3 _ _ _ hx7; have x4 := cell_of_row w7 w.heap.size 4 _ _ _ hx7; have x5 := cell_of_row w7 w.heap.size 5 _ _ _ hx7; clear hx7) | (go_at_call 15; (with_reducible refine (HD2.out _ HB.out.b).mono ?_); rintro e w8 ⟨rfl, hs8, hg8⟩; have HB := Aside0.mk (HB.out.turn hs8 hg8 HNE.out); clear hs8 hg8 x0 x1 x2 x3 x4 x5; have hx8 := HB.out.x; have x0 := cell_of_row w8 w.heap.size 0 _ _ _ hx8; clear hx8))
                  go_ret
                  exact ⟨rfl, HB.out.b.bl⟩
                · have l97 : 97 ≤ n := by omega
                  by_cases h122 : n ≤ 122
                  · go_wp2_with (first | (go_at_call 17; (with_reducible refine (copy_s HL.out.1).mono ?_); rintro e w6 ⟨C, rfl, hC, hc6, hb6⟩; have HB := Aside0.mk (⟨HL.out.1.below hb6, hc6, (by have := HL.out.1.lt; omega), (hb6.block _ (blk_lt HL.out.2)).trans HL.out.2⟩ : B2 w w6 w1.heap.size C g g _); have hx6 := HB.out.x; have x0 := cell_of_row w6 w.heap.size 0 _ _ _ hx6; have x1 := cell_of_row w6 w.heap.size 1 _ _ _ hx6; have x2 := cell_of_row w6 w.heap.size 2 _ _ _ hx6; have x3 := cell_of_row w6 w.heap.size 3 _ _ _ hx6; have x4 := cell_of_row w6 w.heap.size 4 _ _ _ hx6; have x5 := cell_of_row w6 w.heap.size 5 _ _ _ hx6; clear hc6 hb6 hx6) | (go_at_call 9; (with_reducible refine (HF2.out _ HB.out.b.bl).mono ?_); rintro e w7 ⟨rfl, hb7⟩; have HB := Aside0.mk (HB.out.below hb7); clear hb7 x0 x1 x2 x3 x4 x5; have hx7 := HB.out.x; have x0 := cell_of_row w7 w.heap.size 0 _ _ _ hx7; have x1 := cell_of_row w7 w.heap.size 1 _ _ _ hx7; have x2 := cell_of_row w7 w.heap.size 2 _ _ _ hx7; have x3 := cell_of_row w7 w.heap.size 3 _ _ _ hx7; have x4 := cell_of_row w7 w.heap.size 4 _ _ _ hx7; have x5 := cell_of_row w7 w.heap.size 5 _ _ _ hx7; clear hx7) | (go_at_call 15; (with_reducible refine (HD2.out _ HB.out.b).mono ?_); rintro e w8 ⟨rfl, hs8, hg8⟩; have HB := Aside0.mk (HB.out.turn hs8 hg8 HNE.out); clear hs8 hg8 x0 x1 x2 x3 x4 x5; have hx8 := HB.out.x; have x0 := cell_of_row w8 w.heap.size 0 _ _ _ hx8; clear hx8))
                    subst hnl
                    have HNO : Aside0 (¬ ((0 : Int) = 0 ∧ nl ≠ 95 ∧ (nl < 97 ∨ nl > 122))) := ⟨fun h => by omega⟩
                    clear h97 h95
                    have hI0 : I2 w (w8.iter nmB 0) w1.heap.size C w8.heap.size 0 g' g := ⟨World.iter_heap _ _ _, HB.out.b.below (below_alloc (Below.refl _ _) _), HB.out.c.below (below_alloc (Below.refl _ _) _), HB.out.b.bl.size⟩
                    have HI0 := Aside0.mk hI0
                    clear hI0 HB
                    go_loopw [11] (fun _ wr => ∃ (wr1 : World) (q : Nat), wr1 = wr ∧ q ≤ 38 ∧ Aside0 (I2 w wr1 w1.heap.size C w8.heap.size q g' g)) (fun _ wr => 38 - wr.iterPos w8.heap.size)
                    case atStart => exact ⟨_, 0, rfl, by decide, HI0⟩
                    case round =>
                      obtain ⟨wr1, q, rfl, hq, HI⟩ := hrel
                      by_cases hq38 : q < 38
                      · skip
                        obtain ⟨W2, hnx, hI2⟩ := HI.out.step hq38
                        have HI0 := HI
                        have HI := Aside0.mk hI2
                        have hk := nm_kind q hq38
                        generalize (nmB.get! q).toNat = k at *
                        have HGB := Aside0.mk (fun (W : World) (h : ST w W w1.heap.size g') => get_s h (k : Int) (by omega) (by omega))
                        have HGC := Aside0.mk (fun (W : World) (h : ST w W C g) => get_s h (k : Int) (by omega) (by omega))
                        by_cases hkn : (k : Int) = nl
                        · have hkn' : ((k : Int) == nl) = true := beq_iff_eq.2 hkn
                          clear hkn
                          clear hI2 hk
                          go_wp2_with (first | (go_at_call 12; (with_reducible refine (HGB.out _ HI.out.b).mono ?_); rintro e w3 ⟨A3, c3, rfl, hr3, hb3⟩; have HR3 := Aside0.mk hr3; have HI := Aside0.mk (HI.out.below hb3); clear hr3 hb3) | (go_at_call 12; (with_reducible refine (HGC.out _ (HI.out.below (below_alloc (Below.refl _ _) _)).c).mono ?_); rintro e w4 ⟨A4, c4, rfl, hr4, hb4⟩; have HR4 := Aside0.mk hr4; have bx := (hb4.block w3.heap.size (by simp)).trans (heap_alloc_new w3 _); have u0 := cell_of_row w4 w3.heap.size 0 _ _ _ bx; have u1 := cell_of_row w4 w3.heap.size 1 _ _ _ bx; have u2 := cell_of_row w4 w3.heap.size 2 _ _ _ bx; have lx := blk_lt bx; have hb34 := below_step (below_alloc (Below.refl w3.heap.size w3) _) hb4; have HR3 := Aside0.mk (Kd.R_below HR3.out hb34); have HI := Aside0.mk (HI.out.below hb34); clear hr4 hb4 hb34 bx))
                          have HI := Aside0.mk (HI.out.below (below_alloc (Below.refl _ _) (.cells #[.string (getM g (k : Int)).1.s, .slice A4 (getM g (k : Int)).1.l.length c4, .bool (getM g (k : Int)).1.b] 33)))
                          exact ⟨⟨_, q + 1, rfl, by omega, HI⟩, HI0.out.less HI.out hq38⟩
                        · have hkn' : ((k : Int) == nl) = false := beq_eq_false_iff_ne.2 hkn
                          by_cases hk34 : (k : Int) = 34
                          · have hk34' : ((k : Int) == 34) = true := beq_iff_eq.2 hk34
                            clear hk34 hkn
                            clear hI2 hk
                            go_wp2_with (first | (go_at_call 12; (with_reducible refine (HGB.out _ HI.out.b).mono ?_); rintro e w3 ⟨A3, c3, rfl, hr3, hb3⟩; have HR3 := Aside0.mk hr3; have HI := Aside0.mk (HI.out.below hb3); clear hr3 hb3) | (go_at_call 12; (with_reducible refine (HGC.out _ (HI.out.below (below_alloc (Below.refl _ _) _)).c).mono ?_); rintro e w4 ⟨A4, c4, rfl, hr4, hb4⟩; have HR4 := Aside0.mk hr4; have bx := (hb4.block w3.heap.size (by simp)).trans (heap_alloc_new w3 _); have u0 := cell_of_row w4 w3.heap.size 0 _ _ _ bx; have u1 := cell_of_row w4 w3.heap.size 1 _ _ _ bx; have u2 := cell_of_row w4 w3.heap.size 2 _ _ _ bx; have lx := blk_lt bx; have hb34 := below_step (below_alloc (Below.refl w3.heap.size w3) _) hb4; have HR3 := Aside0.mk (Kd.R_below HR3.out hb34); have HI := Aside0.mk (HI.out.below hb34); clear hr4 hb4 hb34 bx))
                            have HI := Aside0.mk (HI.out.below (below_alloc (Below.refl _ _) (.cells #[.string (getM g (k : Int)).1.s, .slice A4 (getM g (k : Int)).1.l.length c4, .bool (getM g (k : Int)).1.b] 33)))
                            exact ⟨⟨_, q + 1, rfl, by omega, HI⟩, HI0.out.less HI.out hq38⟩
                          · have hk34' : ((k : Int) == 34) = false := beq_eq_false_iff_ne.2 hk34
                            have hsk : ¬ ((0 : Int) = 0 ∧ nl ≠ 95 ∧ ((k : Int) = nl ∨ (k : Int) = 34)) := fun h => h.2.2.elim hkn hk34
                            clear hk34 hkn
                            have heq : getM g' (k : Int) = getM g (k : Int) := HBS.out (k : Int) hk (fun h => HNO.out (by first | exact h | exact ⟨rfl, h.2⟩)) (fun h => hsk (by first | exact h | exact ⟨rfl, h.2⟩))
                            have hlen : (getM g (k : Int)).1.l.length ≤ 100000 := Nat.le_trans (get_len HI.out.c.gg (k : Int)) (by decide)
                            rw [heq] at HGB
                            generalize getM g (k : Int) = r at *
                            obtain ⟨⟨rs, rl, rb⟩, re⟩ := r
                            dsimp only at HGB HGC hlen
                            have HSA := Aside0.mk (fun (W : World) (A7 : Option Addr) (c7 : Nat) (A9 : Option Addr) (c9 : Nat) {base base2 : Nat} (hr : Kd.R k58 58 W base (fun _ => True) (.slice A7 rl.length c7) rl) (hr2 : Kd.R k58 58 W base2 (fun _ => True) (.slice A9 rl.length c9) rl) => bureauref09_Same.calls (rl.length + 1) rs A7 c7 rl rb rs A9 c9 rl rb true W (Kd.R_reads' hr).2.2 (Kd.R_reads' hr).2.1 (Kd.R_reads' hr2).2.2 (Kd.R_reads' hr2).2.1 (same9 rs rl rb (by omega)))
                            clear hI2 heq hlen hk
                            go_wp2_with (first | (go_at_call 12; (with_reducible refine (HGB.out _ HI.out.b).mono ?_); rintro e w3 ⟨A3, c3, rfl, hr3, hb3⟩; have HR3 := Aside0.mk hr3; have HI := Aside0.mk (HI.out.below hb3); clear hr3 hb3) | (go_at_call 12; (with_reducible refine (HGC.out _ (HI.out.below (below_alloc (Below.refl _ _) _)).c).mono ?_); rintro e w4 ⟨A4, c4, rfl, hr4, hb4⟩; have HR4 := Aside0.mk hr4; have bx := (hb4.block w3.heap.size (by simp)).trans (heap_alloc_new w3 _); have u0 := cell_of_row w4 w3.heap.size 0 _ _ _ bx; have u1 := cell_of_row w4 w3.heap.size 1 _ _ _ bx; have u2 := cell_of_row w4 w3.heap.size 2 _ _ _ bx; have lx := blk_lt bx; have hb34 := below_step (below_alloc (Below.refl w3.heap.size w3) _) hb4; have HR3 := Aside0.mk (Kd.R_below HR3.out hb34); have HI := Aside0.mk (HI.out.below hb34); clear hr4 hb4 hb34 bx) | (go_at_call 18; (with_reducible refine (HSA.out _ _ _ _ _ (Kd.R_below HR3.out ?sb) (Kd.R_below HR4.out ?sb2)).mono ?_); (case sb => exact (by repeat (first | (with_reducible first | exact Below.refl _ _ | apply pw_below_drewN | apply below_alloc | apply below_drew) | exact Below.refl _ _))); (case sb2 => exact (by repeat (first | (with_reducible first | exact Below.refl _ _ | apply pw_below_drewN | apply below_alloc | apply below_drew) | exact Below.refl _ _))); rintro e w5 ⟨rfl, hb5⟩; have HI := Aside0.mk (HI.out.below (below_step (by repeat (first | (with_reducible first | exact Below.refl _ _ | apply pw_below_drewN | apply below_alloc | apply below_drew) | exact Below.refl _ _)) hb5)); clear hb5))
                            exact ⟨⟨_, q + 1, rfl, by omega, HI⟩, HI0.out.less HI.out hq38⟩
                      · skip
                        have hnx := next_end wr1 w8.heap.size nmB q HI.out.it hq38
                        go_wp2
                        go_ret
                        exact ⟨rfl, HI.out.b.bl⟩
                  · have l122 : 122 < n := by omega
                    go_wp2_with (first | (go_at_call 17; (with_reducible refine (copy_s HL.out.1).mono ?_); rintro e w6 ⟨C, rfl, hC, hc6, hb6⟩; have HB := Aside0.mk (⟨HL.out.1.below hb6, hc6, (by have := HL.out.1.lt; omega), (hb6.block _ (blk_lt HL.out.2)).trans HL.out.2⟩ : B2 w w6 w1.heap.size C g g _); have hx6 := HB.out.x; have x0 := cell_of_row w6 w.heap.size 0 _ _ _ hx6; have x1 := cell_of_row w6 w.heap.size 1 _ _ _ hx6; have x2 := cell_of_row w6 w.heap.size 2 _ _ _ hx6; have x3 := cell_of_row w6 w.heap.size 3 _ _ _ hx6; have x4 := cell_of_row w6 w.heap.size 4 _ _ _ hx6; have x5 := cell_of_row w6 w.heap.size 5 _ _ _ hx6; clear hc6 hb6 hx6) | (go_at_call 9; (with_reducible refine (HF2.out _ HB.out.b.bl).mono ?_); rintro e w7 ⟨rfl, hb7⟩; have HB := Aside0.mk (HB.out.below hb7); clear hb7 x0 x1 x2 x3 x4 x5; have hx7 := HB.out.x; have x0 := cell_of_row w7 w.heap.size 0 _ _ _ hx7; have x1 := cell_of_row w7 w.heap.size 1 _ _ _ hx7; have x2 := cell_of_row w7 w.heap.size 2 _ _ _ hx7; have x3 := cell_of_row w7 w.heap.size 3 _ _ _ hx7; have x4 := cell_of_row w7 w.heap.size 4 _ _ _ hx7; have x5 := cell_of_row w7 w.heap.size 5 _ _ _ hx7; clear hx7) | (go_at_call 15; (with_reducible refine (HD2.out _ HB.out.b).mono ?_); rintro e w8 ⟨rfl, hs8, hg8⟩; have HB := Aside0.mk (HB.out.turn hs8 hg8 HNE.out); clear hs8 hg8 x0 x1 x2 x3 x4 x5; have hx8 := HB.out.x; have x0 := cell_of_row w8 w.heap.size 0 _ _ _ hx8; clear hx8))
                    go_ret
                    exact ⟨rfl, HB.out.b.bl⟩
            · have he' : (ev == 0) = false := beq_eq_false_iff_ne.2 he
              go_wp2_with (first | (go_at_call 17; (with_reducible refine (copy_s HL.out.1).mono ?_); rintro e w6 ⟨C, rfl, hC, hc6, hb6⟩; have HB := Aside0.mk (⟨HL.out.1.below hb6, hc6, (by have := HL.out.1.lt; omega), (hb6.block _ (blk_lt HL.out.2)).trans HL.out.2⟩ : B2 w w6 w1.heap.size C g g _); have hx6 := HB.out.x; have x0 := cell_of_row w6 w.heap.size 0 _ _ _ hx6; have x1 := cell_of_row w6 w.heap.size 1 _ _ _ hx6; have x2 := cell_of_row w6 w.heap.size 2 _ _ _ hx6; have x3 := cell_of_row w6 w.heap.size 3 _ _ _ hx6; have x4 := cell_of_row w6 w.heap.size 4 _ _ _ hx6; have x5 := cell_of_row w6 w.heap.size 5 _ _ _ hx6; clear hc6 hb6 hx6) | (go_at_call 9; (with_reducible refine (HF2.out _ HB.out.b.bl).mono ?_); rintro e w7 ⟨rfl, hb7⟩; have HB := Aside0.mk (HB.out.below hb7); clear hb7 x0 x1 x2 x3 x4 x5; have hx7 := HB.out.x; have x0 := cell_of_row w7 w.heap.size 0 _ _ _ hx7; have x1 := cell_of_row w7 w.heap.size 1 _ _ _ hx7; have x2 := cell_of_row w7 w.heap.size 2 _ _ _ hx7; have x3 := cell_of_row w7 w.heap.size 3 _ _ _ hx7; have x4 := cell_of_row w7 w.heap.size 4 _ _ _ hx7; have x5 := cell_of_row w7 w.heap.size 5 _ _ _ hx7; clear hx7) | (go_at_call 15; (with_reducible refine (HD2.out _ HB.out.b).mono ?_); rintro e w8 ⟨rfl, hs8, hg8⟩; have HB := Aside0.mk (HB.out.turn hs8 hg8 HNE.out); clear hs8 hg8 x0 x1 x2 x3 x4 x5; have hx8 := HB.out.x; have x0 := cell_of_row w8 w.heap.size 0 _ _ _ hx8; clear hx8))
              subst hnl
              have HNO : Aside0 (¬ (ev = 0 ∧ nl ≠ 95 ∧ (nl < 97 ∨ nl > 122))) := ⟨fun h => he h.1⟩
              have HNS : Aside0 (¬ (ev = 0 ∧ nl ≠ 95)) := ⟨fun h => he h.1⟩
              have hI0 : I2 w (w8.iter nmB 0) w1.heap.size C w8.heap.size 0 g' g := ⟨World.iter_heap _ _ _, HB.out.b.below (below_alloc (Below.refl _ _) _), HB.out.c.below (below_alloc (Below.refl _ _) _), HB.out.b.bl.size⟩
              have HI0 := Aside0.mk hI0
              clear hI0 HB
              go_loopw [11] (fun _ wr => ∃ (wr1 : World) (q : Nat), wr1 = wr ∧ q ≤ 38 ∧ Aside0 (I2 w wr1 w1.heap.size C w8.heap.size q g' g)) (fun _ wr => 38 - wr.iterPos w8.heap.size)
              case atStart => exact ⟨_, 0, rfl, by decide, HI0⟩
              case round =>
                obtain ⟨wr1, q, rfl, hq, HI⟩ := hrel
                by_cases hq38 : q < 38
                · skip
                  obtain ⟨W2, hnx, hI2⟩ := HI.out.step hq38
                  have HI0 := HI
                  have HI := Aside0.mk hI2
                  have hk := nm_kind q hq38
                  generalize (nmB.get! q).toNat = k at *
                  have HGB := Aside0.mk (fun (W : World) (h : ST w W w1.heap.size g') => get_s h (k : Int) (by omega) (by omega))
                  have HGC := Aside0.mk (fun (W : World) (h : ST w W C g) => get_s h (k : Int) (by omega) (by omega))
                  have hsk : ¬ (ev = 0 ∧ nl ≠ 95 ∧ ((k : Int) = nl ∨ (k : Int) = 34)) := fun h => HNS.out ⟨(by first | exact h.1 | trivial), h.2.1⟩
                  have heq : getM g' (k : Int) = getM g (k : Int) := HBS.out (k : Int) hk (fun h => HNO.out (by first | exact h | exact ⟨rfl, h.2⟩)) (fun h => hsk (by first | exact h | exact ⟨rfl, h.2⟩))
                  have hlen : (getM g (k : Int)).1.l.length ≤ 100000 := Nat.le_trans (get_len HI.out.c.gg (k : Int)) (by decide)
                  rw [heq] at HGB
                  generalize getM g (k : Int) = r at *
                  obtain ⟨⟨rs, rl, rb⟩, re⟩ := r
                  dsimp only at HGB HGC hlen
                  have HSA := Aside0.mk (fun (W : World) (A7 : Option Addr) (c7 : Nat) (A9 : Option Addr) (c9 : Nat) {base base2 : Nat} (hr : Kd.R k58 58 W base (fun _ => True) (.slice A7 rl.length c7) rl) (hr2 : Kd.R k58 58 W base2 (fun _ => True) (.slice A9 rl.length c9) rl) => bureauref09_Same.calls (rl.length + 1) rs A7 c7 rl rb rs A9 c9 rl rb true W (Kd.R_reads' hr).2.2 (Kd.R_reads' hr).2.1 (Kd.R_reads' hr2).2.2 (Kd.R_reads' hr2).2.1 (same9 rs rl rb (by omega)))
                  clear hI2 heq hlen hk
                  go_wp2_with (first | (go_at_call 12; (with_reducible refine (HGB.out _ HI.out.b).mono ?_); rintro e w3 ⟨A3, c3, rfl, hr3, hb3⟩; have HR3 := Aside0.mk hr3; have HI := Aside0.mk (HI.out.below hb3); clear hr3 hb3) | (go_at_call 12; (with_reducible refine (HGC.out _ (HI.out.below (below_alloc (Below.refl _ _) _)).c).mono ?_); rintro e w4 ⟨A4, c4, rfl, hr4, hb4⟩; have HR4 := Aside0.mk hr4; have bx := (hb4.block w3.heap.size (by simp)).trans (heap_alloc_new w3 _); have u0 := cell_of_row w4 w3.heap.size 0 _ _ _ bx; have u1 := cell_of_row w4 w3.heap.size 1 _ _ _ bx; have u2 := cell_of_row w4 w3.heap.size 2 _ _ _ bx; have lx := blk_lt bx; have hb34 := below_step (below_alloc (Below.refl w3.heap.size w3) _) hb4; have HR3 := Aside0.mk (Kd.R_below HR3.out hb34); have HI := Aside0.mk (HI.out.below hb34); clear hr4 hb4 hb34 bx) | (go_at_call 18; (with_reducible refine (HSA.out _ _ _ _ _ (Kd.R_below HR3.out ?sb) (Kd.R_below HR4.out ?sb2)).mono ?_); (case sb => exact (by repeat (first | (with_reducible first | exact Below.refl _ _ | apply pw_below_drewN | apply below_alloc | apply below_drew) | exact Below.refl _ _))); (case sb2 => exact (by repeat (first | (with_reducible first | exact Below.refl _ _ | apply pw_below_drewN | apply below_alloc | apply below_drew) | exact Below.refl _ _))); rintro e w5 ⟨rfl, hb5⟩; have HI := Aside0.mk (HI.out.below (below_step (by repeat (first | (with_reducible first | exact Below.refl _ _ | apply pw_below_drewN | apply below_alloc | apply below_drew) | exact Below.refl _ _)) hb5)); clear hb5))
                  exact ⟨⟨_, q + 1, rfl, by omega, HI⟩, HI0.out.less HI.out hq38⟩
                · skip
                  have hnx := next_end wr1 w8.heap.size nmB q HI.out.it hq38
                  go_wp2
                  go_ret
                  exact ⟨rfl, HI.out.b.bl⟩
def bureaulaw09_RegsBeside.f (l0 : List XRB.S42) (a1_0 : Int) (a1_1 : ByteArray) (l1_2 : List XRB.S58) (a1_3 : Bool) (a1_4 : Bool) (a1_5 : Bool) : Option Bool := if (∀ x, x ∈ l0 → -2147483648 ≤ x.f0 ∧ x.f0 ≤ 2147483647) ∧ -2147483648 ≤ a1_0 ∧ a1_0 ≤ 2147483647 then some true else none
theorem bureaulaw09_RegsBeside.calls (A0 : Option Addr) (c0 : Nat) (l0 : List XRB.S42) (a1_0 : Int) (a1_1 : ByteArray) (A1_2 : Option Addr) (c1_2 : Nat) (l1_2 : List XRB.S58) (a1_3 : Bool) (a1_4 : Bool) (a1_5 : Bool) (r : Bool) (w : World) (hr0 : Kd.C XRB.k42 w A0 l0.length l0) (hc0 : l0.length ≤ c0) (hr1_2 : Kd.C XRB.k58 w A1_2 l1_2.length l1_2) (hc1_2 : l1_2.length ≤ c1_2) (h : bureaulaw09_RegsBeside.f l0 a1_0 a1_1 l1_2 a1_3 a1_4 a1_5 = some r) :
    Calls Try.prog 5 #[.slice A0 l0.length c0, .agg #[.int .i32 a1_0, .string a1_1, .slice A1_2 l1_2.length c1_2, .bool a1_3, .bool a1_4, .bool a1_5]] w fun e w' => e = .returned (.bool r) ∧ Below w.heap.size w w' := by
  unfold bureaulaw09_RegsBeside.f at h
  by_cases hc : (∀ x, x ∈ l0 → -2147483648 ≤ x.f0 ∧ x.f0 ≤ 2147483647) ∧ -2147483648 ≤ a1_0 ∧ a1_0 ≤ 2147483647
  · rw [if_pos hc] at h
    cases h
    have hC := C_cv hr1_2
    have e : l1_2.length = (l1_2.map cvR).length := (List.length_map _).symm
    rw [e] at hC hc1_2 ⊢
    exact Beside_w A0 c0 l0 a1_0 a1_1 A1_2 c1_2 (l1_2.map cvR) a1_3 a1_4 a1_5 w hr0 hc0 hc.1 hC hc1_2 hc.2.1 hc.2.2
  · rw [if_neg hc] at h
    cases h

end Go.Proofs.Ytbcbfmhcoemnpaa.Ext
