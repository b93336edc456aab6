/- caps: Revoke, by its walk: an induction on how many are alive. -/
import Derived.Test.YtecbdhampjmlaaaExt17EG
import Derived.Test.YtecbdhampjmlaaaWMore
import Derived.WalkKit
import Derived.WalkMore
import Derived.Below
import Derived.KernelRfl
import Derived.LoopTactic
import Derived.Deep.RegionWith
import Derived.Deep.RegionHeld3
import Derived.IntWalk
import Derived.Deep.DeepCutAuto
import Derived.Deep.CutBlock
import Derived.BigQuiet
import Derived.Laws.RangeString
import Derived.Laws.RangeAny
import Derived.Laws.Rows
import Derived.Laws.Runes
import Derived.Lib.OthersKept
import Derived.OpenShut
set_option linter.unusedVariables false
set_option linter.unusedSimpArgs false
namespace Go.Proofs.Ytecbdhampjmlaaa.Ext
open Go.RowKit Go.Lib Go.Proofs.YtecbdhampjmlaaaW.PrintWords Go.Proofs.YtecbdhampjmlaaaW.PrintMore

def RevP (w : World) (R B : Nat) (g : Int) (z : List Sl × Int) (e : Ending) (w' : World) : Prop :=
  e = .returned (.tuple #[.int .i64 z.2, .int .i64 0]) ∧ TRow w' R B z.1 g ∧ w.grownBy w' (some B)
theorem lives_len (l : List Sl) : lives l ≤ l.length := List.countP_le_length
abbrev WB (w : World) (ks kg : Int) : World := w.alloc (.cells #[.int .i64 ks, .int .i64 kg] 28)
theorem TRow.kill {w : World} {R B : Nat} {l : List Sl} {g : Int} (h : TRow w R B l g) {i : Nat} (hi : i < l.length) : TRow (w.setCell ⟨B, i * 7 + 1, none⟩ (.bool false)) R B (l.set i (killS (atS l i))) g :=
  h.put (j := 1) hi (by decide) rfl (h.gens i)
set_option maxRecDepth 100000 in
set_option maxHeartbeats 16000000 in
theorem Revoke_ok (R B : Nat) (g : Int) : ∀ (f : Nat) (l : List Sl) (i : Nat) (w : World), TRow w R B l g → (atS l i).alive = true → lives l ≤ f →
    Calls Try.prog 14 #[.pointer (some ⟨R, 0, none⟩), vK (i : Int) (atS l i).gen] w (RevP w R B g (revS f l i)) := by
  intro f
  induction f with
  | zero =>
    intro l i w _ ha hf
    have := lives_set ha
    omega
  | succ f ih =>
    intro l i w h ha hf
    have hi := atS_alive_lt ha
    have ltR := h.ltR
    have ltB := h.ltB
    have n := h.n
    have IH := Aside0.mk ih
    have hB1 : Below w.heap.size w (WB w (i : Int) (atS l i).gen) := (Below.refl _ _).alloc (Nat.le_refl _) _
    have hT1 := h.below hB1
    have HG := Aside0.mk (fun w1 (hb : Below w.heap.size w w1) => good_w R B l g w1 (h.below hb))
    have HF := Aside0.mk (find_ok R B l g i _ hT1 hi ha)
    have hX : (WB w (i : Int) (atS l i).gen).heap[w.heap.size]? = some (.cells #[.int .i64 (i : Int), .int .i64 (atS l i).gen] 28 (0, 0)) := heap_alloc_new _ _
    have hs1 := lives_set ha
    have EZ : Aside0 (revS (f + 1) l i = revL (revS f) (i : Int) (atS l i).gen l.length 0 (l.set i (killS (atS l i))) 1) := ⟨rfl⟩
    have hlf : lives (l.set i (killS (atS l i))) ≤ f := by omega
    have HLF := Aside0.mk hlf
    have HA := Aside0.mk ha
    have HX := Aside0.mk hX
    have HT1 := Aside0.mk hT1
    have HB1 := Aside0.mk hB1
    have HN : Aside0 ((1 : Int) + (lives (l.set i (killS (atS l i))) : Int) ≤ 64) := ⟨by have := lives_len l; omega⟩
    have HK := Aside0.mk (fun (w2 : World) (hT : TRow w2 R B l g) => hT.kill hi)
    clear ih hX hT1 hB1 hs1 hlf h ha
    generalize revS (f + 1) l i = Z at EZ ⊢
    generalize hgen : (atS l i).gen = gen at HF HX HT1 HB1 EZ ⊢
    have HGEN := Aside0.mk hgen
    clear hgen
    obtain ⟨Z1, Z2⟩ := Z
    go_enter Try.func14, Try.ntmps14
    go_wp2_with (first | (go_at_call 26; (with_reducible refine (HG.out _ ?sg).mono ?_); (case sg => exact (by repeat (first | (with_reducible first | exact Below.refl _ _ | apply pw_below_drewN | apply below_alloc | apply below_drew) | refine below_set ?_ (by first | exact Nat.le_refl _ | omega | (simp; done) | (simp; omega)) | refine below_step ?_ HB2.out | refine below_step ?_ HB3.out | refine below_step ?_ HB4.out | refine below_step ?_ HB5.out))); rintro e w1 ⟨rfl, rfl⟩) | (go_at_call 27; (with_reducible refine HF.out.mono ?_); rintro e w2 ⟨rfl, hb2⟩; have hT2 := HT1.out.below hb2; obtain ⟨b0, b1⟩ : w2.cell? ⟨B, i * 7 + 1, none⟩ = some (.bool true) ∧ w2.frozen? ⟨B, i * 7 + 1, none⟩ = false := ⟨(hT2.at_ i 1 hi (by decide)).trans (by show some (Value.bool (atS l i).alive) = _; rw [HA.out]), hT2.frozen _⟩; obtain ⟨cc0, hcc0, c0⟩ := hT2.c0; have HT2 := Aside0.mk hT2; have HB2 := Aside0.mk hb2; clear hT2 hb2))
    go_loopw [8, 33] (fun nn kk wr => ∃ (k : Nat) (l2 : List Sl) (n2 : Int), kk = .int .i64 k ∧ nn = .int .i64 n2 ∧ k ≤ l.length ∧ l2.length = l.length ∧ 0 ≤ n2 ∧ n2 + (lives l2 : Int) ≤ 64 ∧ lives l2 ≤ f ∧ Aside0 (TRow wr R B l2 g) ∧ Aside0 ((WB w (i : Int) gen).grownBy wr (some B)) ∧ Aside0 (revL (revS f) (i : Int) gen (l.length - k) k l2 n2 = (Z1, Z2))) (fun _ kk _ => l.length - (intOf kk).toNat)
    case atStart => exact ⟨0, _, 1, rfl, rfl, Nat.zero_le _, List.length_set, by omega, HN.out, HLF.out, ⟨HK.out _ HT2.out⟩, ⟨only_setCell (only_of_below HB2.out _) (.inl rfl) _⟩, ⟨EZ.out.symm⟩⟩
    case round =>
      obtain ⟨k, l2, n2, rfl, rfl, hk, hl2, hn0, hn1, hlv, HT, HW, HE⟩ := hrel
      have hT := HT.out
      obtain ⟨t0, t1, u0, u1⟩ := tok_lay (only_cells HW.out HX.out (by omega))
      have hwsz : w.heap.size < wr.heap.size := Nat.lt_of_lt_of_le (by simp) HW.out.size
      obtain ⟨cc0, hcc0, c0⟩ := hT.c0
      by_cases hlt : k < l.length
      · obtain ⟨gen2, alive, o2, r2, ow, u2, v2, hs⟩ := slEx (atS l2 k)
        obtain ⟨d0, d1, d2, d3, d4, d5, d6⟩ := hT.cs (by omega) hs
        have hee := HE.out
        rw [show l.length - k = (l.length - (k + 1)) + 1 by omega, revL, hs] at hee
        simp only at hee
        cases alive
        · rw [if_neg (by simp)] at hee
          have HE2 := Aside0.mk hee
          clear hee hs HE hT
          go_wp2
          exact ⟨⟨k + 1, l2, n2, by go_num, rfl, by omega, hl2, hn0, hn1, hlv, ⟨HT.out.alloc _⟩, ⟨only_alloc HW.out _⟩, HE2⟩, by simp [intOf]; omega⟩
        · by_cases cu : u2 = (i : Int) ∧ v2 = gen
          · rw [if_pos ⟨rfl, cu⟩] at hee
            obtain ⟨rfl, rfl⟩ := cu
            have HE2 := Aside0.mk hee
            have HS := Aside0.mk hs
            have hal : (atS l2 k).alive = true := by rw [hs]
            have hgn : (atS l2 k).gen = gen2 := by rw [hs]
            have HREC := Aside0.mk (fun (w1 : World) (hT1 : TRow w1 R B l2 g) => IH.out l2 k w1 hT1 hal hlv)
            have hrev := revS_ok f l2 k hal hlv
            have HLL := Aside0.mk (lives_le hrev.less)
            have HLN := Aside0.mk hrev.less.len
            have HNM := Aside0.mk hrev.num
            rw [hgn] at HREC
            clear hee hs HE hT hal hgn hrev
            generalize revS f l2 k = rz at HREC HE2 HLL HLN HNM
            obtain ⟨l3, m3⟩ := rz
            simp only at HREC HE2 HLL HLN HNM
            have hm0 : 0 ≤ m3 ∧ m3 ≤ 64 := by have h1 := HLL.out; have h2 := HNM.out; omega
            obtain ⟨hm1, hm2⟩ := hm0
            have hn2 : n2 ≤ 64 := by omega
            go_wp2_with (go_at_call 14; (with_reducible refine (HREC.out _ (HT.out.alloc _)).mono ?_); rintro e w3 ⟨rfl, hT3, hG3⟩; have HT3 := Aside0.mk hT3; have HG3 := Aside0.mk hG3; clear hT3 hG3)
            exact ⟨⟨k + 1, l3, n2 + m3, by go_num, rfl, by omega, HLN.out.trans hl2, by omega, by have h2 := HNM.out; omega, Nat.le_trans HLL.out hlv, HT3, ⟨only_trans (only_alloc HW.out _) HG3.out⟩, HE2⟩, by simp [intOf]; omega⟩
          · rw [if_neg (fun x => cu x.2)] at hee
            have HE2 := Aside0.mk hee
            clear hee hs HE hT
            by_cases cu1 : u2 = (i : Int)
            · have cb1 : (v2 == gen) = false := beq_eq_false_iff_ne.2 (fun x => cu ⟨cu1, x⟩)
              subst cu1
              clear cu
              go_wp2_with (fail)
              exact ⟨⟨k + 1, l2, n2, by go_num, rfl, by omega, hl2, hn0, hn1, hlv, ⟨HT.out.alloc _⟩, ⟨only_alloc HW.out _⟩, HE2⟩, by simp [intOf]; omega⟩
            · have cb1 : (u2 == (i : Int)) = false := beq_eq_false_iff_ne.2 cu1
              clear cu cu1
              go_wp2_with (fail)
              exact ⟨⟨k + 1, l2, n2, by go_num, rfl, by omega, hl2, hn0, hn1, hlv, ⟨HT.out.alloc _⟩, ⟨only_alloc HW.out _⟩, HE2⟩, by simp [intOf]; omega⟩
      · obtain rfl : k = l.length := by omega
        have hee := HE.out
        rw [Nat.sub_self, revL] at hee
        have HE2 := Aside0.mk hee
        clear hee HE hT
        go_wp2
        go_ret2
        have hz := HE2.out
        injection hz with e1 e2
        subst e1 e2
        exact ⟨rfl, HT.out, only_after HB1.out HW.out⟩
set_option maxRecDepth 100000 in
set_option maxHeartbeats 4000000 in
theorem Revoke_w (R B : Nat) (l : List Sl) (g ks kg : Int) (w : World) (h : TRow w R B l g) :
    Calls Try.prog 14 #[.pointer (some ⟨R, 0, none⟩), vK ks kg] w fun e w' => e = .returned (.tuple #[.int .i64 (revokeZ l ks kg).2.1, .int .i64 (revokeZ l ks kg).2.2]) ∧ TRow w' R B (revokeZ l ks kg).1 g ∧ w.grownBy w' (some B) := by
  by_cases c : findE l ks kg = 0
  · obtain ⟨i, rfl, hi, ha, rfl⟩ := findE_ok c
    have e : revokeZ l (i : Int) (atS l i).gen = ((revS (lives l) l i).1, (revS (lives l) l i).2, 0) := by unfold revokeZ; rw [if_neg (fun x => x c), Int.toNat_natCast]
    rw [e]
    exact Revoke_ok R B g (lives l) l i w h ha (Nat.le_refl _)
  · have e : revokeZ l ks kg = (l, 0, findE l ks kg) := by unfold revokeZ; rw [if_pos c]
    rw [e]
    have hB1 : Below w.heap.size w (WB w ks kg) := (Below.refl _ _).alloc (Nat.le_refl _) _
    have HG := Aside0.mk (fun w1 (hb : Below w.heap.size w w1) => good_w R B l g w1 (h.below hb))
    have HF := Aside0.mk (find_bad R B l g ks kg _ (h.below hB1) c)
    have HT1 := Aside0.mk (h.below hB1)
    have HB1 := Aside0.mk hB1
    have cb : (findE l ks kg != 0) = true := bne_iff_ne.2 c
    clear e c hB1 h
    generalize findE l ks kg = E at *
    go_enter Try.func14, Try.ntmps14
    go_wp2_with (first | (go_at_call 26; (with_reducible refine (HG.out _ ?sg).mono ?_); (case sg => exact (by repeat (first | (with_reducible first | exact Below.refl _ _ | apply pw_below_drewN | apply below_alloc | apply below_drew) | refine below_set ?_ (by first | exact Nat.le_refl _ | omega | (simp; done) | (simp; omega)) | refine below_step ?_ HB2.out | refine below_step ?_ HB3.out | refine below_step ?_ HB4.out | refine below_step ?_ HB5.out))); rintro e w1 ⟨rfl, rfl⟩) | (go_at_call 27; (with_reducible refine HF.out.mono ?_); rintro e w2 ⟨rfl, hb2⟩; have HT2 := Aside0.mk (HT1.out.below hb2); have HB2 := Aside0.mk hb2; clear hb2))
    go_ret2
    exact ⟨rfl, HT2.out, only_after HB1.out (only_of_below HB2.out _)⟩

end Go.Proofs.Ytecbdhampjmlaaa.Ext
