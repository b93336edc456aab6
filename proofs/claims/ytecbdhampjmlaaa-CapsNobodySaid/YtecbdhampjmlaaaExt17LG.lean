/- caps: the laws' does, by its walk. -/
import Derived.Test.YtecbdhampjmlaaaExt17IG
import Derived.Test.YtecbdhampjmlaaaWMore
import Derived.WalkKit
import Derived.WalkMore
import Derived.Below
import Derived.KernelRfl
import Derived.LoopTactic
import Derived.Deep.RegionWith
import Derived.Deep.RegionHeld3
import Derived.IntWalk
import Derived.Deep.DeepCutAuto
import Derived.Deep.CutBlock
import Derived.BigQuiet
import Derived.Laws.RangeString
import Derived.Laws.RangeAny
import Derived.Laws.Rows
import Derived.Laws.Runes
import Derived.Lib.OthersKept
import Derived.OpenShut
set_option linter.unusedVariables false
set_option linter.unusedSimpArgs false
namespace Go.Proofs.Ytecbdhampjmlaaa.Ext
open Go.RowKit Go.Lib Go.Proofs.YtecbdhampjmlaaaW.PrintWords Go.Proofs.YtecbdhampjmlaaaW.PrintMore

structure Ac where
  kind : Int
  ks : Int
  kg : Int
  who : Int
  obj : Int
  rights : Int
  owner : Int
  fork : Bool
abbrev vA (a : Ac) : Value := .agg #[.int .u8 a.kind, .int .i64 a.ks, .int .i64 a.kg, .int .i64 a.who, .int .i64 a.obj, .int .i64 a.rights, .int .i64 a.owner, .bool a.fork]
/-- The table behind it, the token, and whether one was given. -/
def doesZ (g : Int) (l : List Sl) (a : Ac) : List Sl × Int × Int × Bool :=
  if a.kind % 4 = 0 then ((mintZ g l a.obj a.rights a.owner).1, (mintZ g l a.obj a.rights a.owner).2.1, (mintZ g l a.obj a.rights a.owner).2.2.1, (mintZ g l a.obj a.rights a.owner).2.2.2 == 0)
  else if a.kind % 4 = 1 then ((deriveZ g l a.ks a.kg a.who a.rights a.owner).1, (deriveZ g l a.ks a.kg a.who a.rights a.owner).2.1, (deriveZ g l a.ks a.kg a.who a.rights a.owner).2.2.1, (deriveZ g l a.ks a.kg a.who a.rights a.owner).2.2.2 == 0)
  else if a.kind % 4 = 2 then ((revokeZ l a.ks a.kg).1, 0, 0, false)
  else (l, 0, 0, false)
def DoesP (w : World) (R B : Nat) (g : Int) (z : List Sl × Int × Int × Bool) (e : Ending) (w' : World) : Prop :=
  e = .returned (.tuple #[vK z.2.1 z.2.2.1, .bool z.2.2.2]) ∧ TRow w' R B z.1 g ∧ w.grownBy w' (some B)
abbrev WA (w : World) (a : Ac) : World := (w.alloc (.cells #[.int .u8 a.kind, .int .i64 a.ks, .int .i64 a.kg, .int .i64 a.who, .int .i64 a.obj, .int .i64 a.rights, .int .i64 a.owner, .bool a.fork] 32)).alloc (.cells #[.int .i64 0, .int .i64 0] 28)
set_option maxRecDepth 100000 in
set_option maxHeartbeats 8000000 in
theorem does_w (R B : Nat) (l : List Sl) (g : Int) (a : Ac) (w : World) (h : TRow w R B l g) (hk : 0 ≤ a.kind ∧ a.kind ≤ 255) :
    Calls Try.prog 10 #[.pointer (some ⟨R, 0, none⟩), vA a] w (DoesP w R B g (doesZ g l a)) := by
  have ltR := h.ltR
  have ltB := h.ltB
  obtain ⟨hk0, hk1⟩ := hk
  have hB1 : Below w.heap.size w (WA w a) := ((Below.refl _ _).alloc (Nat.le_refl _) _).alloc (by simp) _
  have hX1 : (WA w a).heap[w.heap.size + 1]? = some (.cells #[.int .i64 0, .int .i64 0] 28 (0, 0)) := by
    have := heap_alloc_new (w.alloc (.cells #[.int .u8 a.kind, .int .i64 a.ks, .int .i64 a.kg, .int .i64 a.who, .int .i64 a.obj, .int .i64 a.rights, .int .i64 a.owner, .bool a.fork] 32)) (.cells #[.int .i64 0, .int .i64 0] 28)
    simpa using this
  have HT1 := Aside0.mk (h.below hB1)
  have HB1 := Aside0.mk hB1
  have HX1 := Aside0.mk hX1
  have HSZ : Aside0 (w.heap.size + 1 < (WA w a).heap.size) := ⟨by simp⟩
  have HM := Aside0.mk (fun (w1 : World) (h : TRow w1 R B l g) => Mint_w R B l g a.obj a.rights a.owner w1 h)
  have HD := Aside0.mk (fun (w1 : World) (h : TRow w1 R B l g) => Derive_w R B l g a.ks a.kg a.who a.rights a.owner w1 h)
  have HV := Aside0.mk (fun (w1 : World) (h : TRow w1 R B l g) => Revoke_w R B l g a.ks a.kg w1 h)
  clear hB1 hX1 h
  obtain ⟨kind, ks, kg, who, obj, rights, owner, fork⟩ := a
  simp only at hk0 hk1 HM HD HV
  by_cases c0 : kind % 4 = 0
  · have ez : doesZ g l ⟨kind, ks, kg, who, obj, rights, owner, fork⟩ = ((mintZ g l obj rights owner).1, (mintZ g l obj rights owner).2.1, (mintZ g l obj rights owner).2.2.1, (mintZ g l obj rights owner).2.2.2 == 0) := by unfold doesZ; rw [if_pos c0]
    rw [ez]
    have cb : (kind % 4 == 0) = true := beq_iff_eq.2 c0
    clear ez c0
    generalize mintZ g l obj rights owner = z at HM ⊢
    obtain ⟨z1, z2, z3, z4⟩ := z
    go_enter Try.func10, Try.ntmps10
    go_wp2_with (go_at_call 15; (with_reducible refine (HM.out _ HT1.out).mono ?_); rintro e w2 ⟨rfl, hT2, hG2⟩; have x1 := only_cells hG2 HX1.out (by omega); obtain ⟨t0, t1, u0, u1⟩ := tok_lay x1; have hl2 : w.heap.size + 1 < w2.heap.size := (Array.getElem?_eq_some_iff.1 x1).1; have HT2 := Aside0.mk hT2; have HG2 := Aside0.mk (only_after HB1.out hG2); clear x1 hT2 hG2)
    exact bodyPost_ret (v := .tuple #[vK z2 z3, .bool (z4 == 0)]) (by simp [results, Try.results10, go_sem, t0, t1, hl2]) rfl ⟨rfl, (HT2.out.two (T := w.heap.size + 1) (by omega) (by omega) _ _).alloc _, only_alloc (only_two HG2.out (Nat.le_succ _) _ _) _⟩
  have cb0 : (kind % 4 == 0) = false := beq_eq_false_iff_ne.2 c0
  by_cases c1 : kind % 4 = 1
  · have ez : doesZ g l ⟨kind, ks, kg, who, obj, rights, owner, fork⟩ = ((deriveZ g l ks kg who rights owner).1, (deriveZ g l ks kg who rights owner).2.1, (deriveZ g l ks kg who rights owner).2.2.1, (deriveZ g l ks kg who rights owner).2.2.2 == 0) := by unfold doesZ; rw [if_neg c0, if_pos c1]
    rw [ez]
    have cb : (kind % 4 == 1) = true := beq_iff_eq.2 c1
    clear ez c0 c1
    generalize deriveZ g l ks kg who rights owner = z at HD ⊢
    obtain ⟨z1, z2, z3, z4⟩ := z
    go_enter Try.func10, Try.ntmps10
    go_wp2_with (go_at_call 17; (with_reducible refine (HD.out _ HT1.out).mono ?_); rintro e w2 ⟨rfl, hT2, hG2⟩; have x1 := only_cells hG2 HX1.out (by omega); obtain ⟨t0, t1, u0, u1⟩ := tok_lay x1; have hl2 : w.heap.size + 1 < w2.heap.size := (Array.getElem?_eq_some_iff.1 x1).1; have HT2 := Aside0.mk hT2; have HG2 := Aside0.mk (only_after HB1.out hG2); clear x1 hT2 hG2)
    exact bodyPost_ret (v := .tuple #[vK z2 z3, .bool (z4 == 0)]) (by simp [results, Try.results10, go_sem, t0, t1, hl2]) rfl ⟨rfl, (HT2.out.two (T := w.heap.size + 1) (by omega) (by omega) _ _).alloc _, only_alloc (only_two HG2.out (Nat.le_succ _) _ _) _⟩
  have cb1 : (kind % 4 == 1) = false := beq_eq_false_iff_ne.2 c1
  by_cases c2 : kind % 4 = 2
  · have ez : doesZ g l ⟨kind, ks, kg, who, obj, rights, owner, fork⟩ = ((revokeZ l ks kg).1, 0, 0, false) := by unfold doesZ; rw [if_neg c0, if_neg c1, if_pos c2]
    rw [ez]
    have cb : (kind % 4 == 2) = true := beq_iff_eq.2 c2
    clear ez c0 c1 c2
    generalize revokeZ l ks kg = z at HV ⊢
    obtain ⟨z1, z2, z3⟩ := z
    go_enter Try.func10, Try.ntmps10
    go_wp2_with (go_at_call 14; (with_reducible refine (HV.out _ HT1.out).mono ?_); rintro e w2 ⟨rfl, hT2, hG2⟩; have x1 := only_cells hG2 HX1.out (by omega); obtain ⟨t0, t1, u0, u1⟩ := tok_lay x1; have HT2 := Aside0.mk hT2; have HG2 := Aside0.mk (only_after HB1.out hG2); clear x1 hT2 hG2)
    exact bodyPost_ret (v := .tuple #[vK 0 0, .bool false]) (by simp [results, Try.results10, go_sem, t0, t1]) rfl ⟨rfl, HT2.out.two (T := w.heap.size + 1) (by omega) (by omega) _ _, only_two HG2.out (Nat.le_succ _) _ _⟩
  have cb2 : (kind % 4 == 2) = false := beq_eq_false_iff_ne.2 c2
  have ez : doesZ g l ⟨kind, ks, kg, who, obj, rights, owner, fork⟩ = (l, 0, 0, false) := by unfold doesZ; rw [if_neg c0, if_neg c1, if_neg c2]
  rw [ez]
  clear ez c0 c1 c2
  go_enter Try.func10, Try.ntmps10
  go_wp2
  exact bodyPost_ret (v := .tuple #[vK 0 0, .bool false]) (by simp [results, Try.results10, go_sem]) rfl ⟨rfl, HT1.out, only_of_below HB1.out _⟩

end Go.Proofs.Ytecbdhampjmlaaa.Ext
