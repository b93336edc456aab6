/- keys.Print and keys.Parse: their walks. -/
import Derived.Test.YtbbogjecpdebbaaDoorExt10N
import Derived.Test.YtbbogjecpdebbaaDoorHelpA
import Derived.Test.YtbbogjecpdebbaaDoorWMore
import Derived.WalkKit
import Derived.WalkMore
import Derived.Below
import Derived.KernelRfl
import Derived.LoopTactic
import Derived.Laws.RangeString
import Derived.Laws.RangeAny
import Derived.Laws.Rows
import Derived.Laws.Runes
import Derived.Lib.OthersKept
import Derived.OpenShut
set_option linter.unusedVariables false
set_option linter.unusedSimpArgs false
namespace Go.Proofs.YtbbogjecpdebbaaDoor.Ext
open Go.RowKit Go.Lib Go.Proofs.YtbbogjecpdebbaaDoorW.PrintWords Go.Proofs.YtbbogjecpdebbaaDoorW.PrintMore Go.Proofs.YtbbogjecpdebbaaDoor.HelpA

theorem wrap32s (a : Int) (h0 : -2147483648 ≤ a) (h1 : a < 2147483648) : wrap32 a = a := by
  unfold wrap32
  omega
theorem may_eq (k : Nat) (r : Int) : keys_May.f (k + 1) r = some (mayZ r) := by
  have hv : utf8_ValidRune.f (k + 1) r = some (validZ r) := by
    unfold utf8_ValidRune.f validZ
    by_cases h0 : 0 ≤ r
    · rw [if_pos h0, utf8_ValidRune.j0]
      by_cases h1 : r < 55296
      · rw [decide_eq_true h1, if_pos rfl, decide_eq_true (by omega)]
      · rw [decide_eq_false h1, if_neg (by decide)]
        by_cases h2 : 57343 < r
        · rw [if_pos h2]
          by_cases h3 : r ≤ 1114111
          · rw [if_pos h3, decide_eq_true (by omega)]
          · rw [if_neg h3, decide_eq_false (by omega)]
        · rw [if_neg h2, decide_eq_false (by omega)]
    · rw [if_neg h0, utf8_ValidRune.j0, if_neg (by decide), if_neg (by omega), decide_eq_false (by omega)]
  unfold keys_May.f mayZ
  rw [hv, Option.bind_some]
  by_cases h1 : r ≥ 1
  · rw [if_pos h1]
    by_cases h2 : r ≤ 27
    · rw [if_pos h2, decide_eq_true (show 1 ≤ r ∧ r ≤ 27 from ⟨h1, h2⟩), Bool.true_or]
    · rw [if_neg h2, decide_eq_false (fun h : 1 ≤ r ∧ r ≤ 27 => h2 h.2), Bool.false_or]
      by_cases h3 : r ≥ 32
      · rw [if_pos h3, decide_eq_true (show 32 ≤ r from h3), Bool.true_and]
        by_cases h4 : r = 127
        · rw [if_pos h4]
          simp [h4]
        · rw [if_neg h4]
          simp [h4]
      · rw [if_neg h3, decide_eq_false (show ¬ 32 ≤ r from h3), Bool.false_and]
  · rw [if_neg h1, decide_eq_false (fun h : 1 ≤ r ∧ r ≤ 27 => h1 h.1), Bool.false_or]
    rw [if_neg (by omega), decide_eq_false (show ¬ 32 ≤ r by omega), Bool.false_and]
theorem may_bounds {r : Int} (h : mayZ r = true) : 1 ≤ r ∧ r ≤ 1114111 := by
  simp only [mayZ, validZ, Bool.or_eq_true, Bool.and_eq_true, decide_eq_true_eq] at h
  omega
theorem encR {x : Int} (h : validZ x = true) (h0 : 0 ≤ x) : Lib.encodeRune x = (Utf8.encode x).data.toList := by
  have hv : Utf8.valid x = true := by
    simp only [validZ, decide_eq_true_eq] at h
    simp only [Utf8.valid, Bool.or_eq_true, Bool.and_eq_true, decide_eq_true_eq]
    omega
  simp only [validZ, decide_eq_true_eq] at h
  obtain ⟨n, rfl⟩ : ∃ n : Nat, x = (n : Int) := ⟨x.toNat, by omega⟩
  unfold Lib.encodeRune Lib.encodeRuneZ Utf8.encode
  simp only [hv, if_true, Int.toNat_natCast]
  by_cases h1 : n < 128
  · rw [if_pos (by omega), if_pos h1]
    rfl
  rw [if_neg (by omega), if_neg h1]
  by_cases h2 : n < 2048
  · rw [if_pos (by omega), if_pos h2]
    have a1 : ((192 : Int) + (n : Int) / 64).toNat = 192 + n / 64 := by omega
    have a2 : ((128 : Int) + (n : Int) % 64).toNat = 128 + n % 64 := by omega
    simp only [List.map_cons, List.map_nil, a1, a2]
    first | done | rfl
  rw [if_neg (by omega), if_neg h2]
  by_cases h3 : n < 65536
  · rw [if_pos (by omega), if_pos h3]
    have a1 : ((224 : Int) + (n : Int) / 4096).toNat = 224 + n / 4096 := by omega
    have a2 : ((128 : Int) + (n : Int) / 64 % 64).toNat = 128 + n / 64 % 64 := by omega
    have a3 : ((128 : Int) + (n : Int) % 64).toNat = 128 + n % 64 := by omega
    simp only [List.map_cons, List.map_nil, a1, a2, a3]
    first | done | rfl
  · rw [if_neg (by omega), if_pos (by omega), if_neg h3]
    have a1 : ((240 : Int) + (n : Int) / 262144).toNat = 240 + n / 262144 := by omega
    have a2 : ((128 : Int) + (n : Int) / 4096 % 64).toNat = 128 + n / 4096 % 64 := by omega
    have a3 : ((128 : Int) + (n : Int) / 64 % 64).toNat = 128 + n / 64 % 64 := by omega
    have a4 : ((128 : Int) + (n : Int) % 64).toNat = 128 + n % 64 := by omega
    simp only [List.map_cons, List.map_nil, a1, a2, a3, a4]
    first | done | rfl
theorem name_len (r : Int) : (nameB r).length ≤ 3 := by
  unfold nameB
  repeat' split
  all_goals simp
theorem may_valid {r : Int} (h : mayZ r = true) : validZ r = true := by
  simp only [mayZ, validZ, Bool.or_eq_true, Bool.and_eq_true, decide_eq_true_eq] at h ⊢
  omega
theorem encode_size_le' (i : Int) : (Utf8.encode i).size ≤ 4 := by
  unfold Utf8.encode
  simp only
  repeat' split
  all_goals simp [ByteArray.size]
theorem writB_len (r : Int) : (writB r).length ≤ 5 := by
  unfold writB
  split
  · have := encode_size_le' r
    rw [Array.length_toList]
    show (Utf8.encode r).size ≤ 5
    omega
  · have := name_len r
    simp only [List.length_append, List.length_cons, List.length_nil]
    omega
theorem drop_get (l : List Int) (i : Nat) (h : i < l.length) : l.drop i = rd l (i : Int) :: l.drop (i + 1) := by
  rw [List.drop_eq_getElem_cons h]
  congr 1
  unfold rd
  rw [Int.toNat_natCast, List.getD_eq_getElem?_getD, List.getElem?_eq_getElem h]
  rfl
set_option maxHeartbeats 4000000 in
set_option maxRecDepth 1000000 in
theorem Print_walk (A0 : Option Addr) (c0 : Nat) (l : List Int) (w : World) (hr0 : Kd.C (Kd.int .i32) w A0 l.length l) (hc0 : l.length ≤ c0) (hT : Tabs w) :
    Calls Tryd.prog 11 #[.slice A0 l.length c0] w fun e w' => e = .returned (.tuple #[.string (printZ l).1, .int .i64 (printZ l).2]) ∧ Below w.heap.size w w' := by
  have HR0 := Aside0.mk hr0
  have HTABS := Aside0.mk hT
  clear hr0 hT
  by_cases hl : l.length > 256
  · have d1 : decide ((l.length : Int) > 256) = true := decide_eq_true (by omega)
    have d2 : decide ((256 : Int) < (l.length : Int)) = true := decide_eq_true (by omega)
    have hp : printZ l = (⟨#[]⟩, 3) := by unfold printZ; rw [if_pos hl]
    rw [hp]
    go_enter Tryd.func11, Tryd.ntmps11
    go_wp2
    go_ret2
    exact ⟨rfl, Below.refl _ _⟩
  · have d1 : decide ((l.length : Int) > 256) = false := decide_eq_false (by omega)
    have d2 : decide ((256 : Int) < (l.length : Int)) = false := decide_eq_false (by omega)
    have HP : Aside0 (l.all mayZ = false → printZ l = (⟨#[]⟩, 2)) := ⟨fun h => by unfold printZ; rw [if_neg hl, h]; rfl⟩
    have HP2 : Aside0 (l.all mayZ = true → printZ l = (⟨(l.flatMap writB).toArray⟩, 0)) := ⟨fun h => by unfold printZ; rw [if_neg hl, if_pos h]⟩
    go_enter Tryd.func11, Tryd.ntmps11
    go_wp2
    go_loopw [13] (fun v w' => ∃ (i : Nat) (acc : List UInt8), v = .int .i64 (i : Int) ∧ i ≤ l.length ∧ Aside0 (Lib.IsBuilderF 42 5 w.heap.size w.heap.size (Lib.byteCells acc) w') ∧ Aside0 (Below w.heap.size w w') ∧ Aside0 (acc ++ (l.drop i).flatMap writB = l.flatMap writB) ∧ acc.length ≤ 5 * i ∧ Aside0 ((l.drop i).all mayZ = l.all mayZ) ∧ w.heap.size < w'.heap.size) (fun v _ => match v with | .int _ z => l.length - z.toNat | _ => 0)
    case atStart =>
      refine ⟨0, [], rfl, by omega, ⟨Lib.IsBuilderF.of (Lib.fresh_isBuilder 42 5 w)⟩, ⟨(Below.refl _ w).alloc (Nat.le_refl _) _⟩, ⟨rfl⟩, by simp, ⟨rfl⟩, by simp⟩
    case round =>
      obtain ⟨i, acc, rfl, hi, HI, HB, HA, hal, HM, hgr⟩ := hrel
      by_cases hlt : i < l.length
      · have e1 : decide ((i : Int) < (l.length : Int)) = true := decide_eq_true (by omega)
        have p0 : 0 ≤ (i : Int) := by omega
        have q0 : (i : Int) < (l.length : Int) := by omega
        obtain ⟨ad, ea, hx⟩ := Kd.at_int HR0.out (i : Int) p0 q0
        cases ea
        replace hx := (HB.out.cell (World.block_lt_of_cell? w _ hx)).trans hx
        have HA1 := HA.out
        have HM1 := HM.out
        rw [drop_get l i hlt, List.flatMap_cons] at HA1
        rw [drop_get l i hlt, List.all_cons] at HM1
        obtain ⟨x, hxx⟩ : ∃ x, rd l (i : Int) = x := ⟨_, rfl⟩
        rw [hxx] at hx HA1 HM1
        rw [Int.toNat_natCast] at hx
        have HT := Aside0.mk (HTABS.out.below HB.out (Nat.le_refl _))
        have cM := keys_May.calls (0 + 1) x (mayZ x) _ (may_eq 0 x) HT.out
        replace p0 := eq_true p0
        replace q0 := eq_true q0
        clear hxx HA HM
        have HA2 := Aside0.mk HA1
        clear HA1
        cases hm : mayZ x with
        | false =>
          rw [hm] at cM HM1
          have HPP := Aside0.mk (HP.out (by rw [← HM1]; rfl))
          clear HM1 HP HP2
          go_wp2_with (go_at_call 8; refine cM.mono ?_; rintro e w2 ⟨rfl, hd⟩)
          go_ret2
          exact ⟨by rw [HPP.out]; rfl, HB.out.trans (hd.below.mono HB.out.size)⟩
        | true =>
          rw [hm] at cM HM1
          rw [Bool.true_and] at HM1
          have HM2 := Aside0.mk HM1
          have hb := may_bounds hm
          have hv := may_valid hm
          have hb1 := hb.1
          have hb2 : x ≤ 2147483647 := by omega
          have hb3 : -2147483648 ≤ x := by omega
          have hx0 : 0 ≤ x := by omega
          have hal2 : acc.length + 5 ≤ 2000 := by omega
          have hlen5 := writB_len x
          have hnl := name_len x
          have HV := Aside0.mk hv
          clear HM1 hb hm hv
          by_cases hn : nameB x = []
          · have cN : ∀ w1, Calls Tryd.prog 18 #[.int .i32 x] w1 fun e w' => e = .returned (.string ⟨#[]⟩) ∧ w' = w1 := fun w1 => by
              have := name_walk x w1 hb1 hb2
              rw [hn] at this
              exact this
            have hwr : writB x = (Utf8.encode x).data.toList := by unfold writB; rw [if_pos hn]
            have HWR := Aside0.mk hwr
            clear hwr hn
            go_wp2_with (first | (go_at_call 8; refine cM.mono ?_; rintro e w2 ⟨rfl, ⟨nd, rfl⟩⟩) | (go_at_call 18; refine (cN _).mono ?_; rintro e w3 ⟨rfl, rfl⟩) | (go_at_call 20; refine (Tryd.Builder_WriteRune_k w.heap.size w.heap.size (Lib.byteCells acc) x hb3 hb2 _ (Tryd.isBuilder_drawn HI.out _) (by rw [Lib.byteCells_length]; omega) (Nat.le_of_lt hgr)).mono ?_; rintro e w4 ⟨rfl, h1, b1, k1⟩))
            have hb4 : Below w.heap.size w w4 := (show Below w.heap.size w (wr.drewN nd) from by apply pw_below_drewN; exact HB.out).trans b1
            have hsz : wr.heap.size ≤ w4.heap.size := b1.size
            have hl4 := (Lib.runeCells_le x).2
            rw [Lib.runeCells_length] at hl4
            refine ⟨⟨i + 1, acc ++ Lib.encodeRune x, rfl, hlt, ⟨by rw [Lib.byteCells_append, Lib.byteCells_encodeRune]; exact h1⟩, ⟨hb4⟩, ⟨by rw [← HA2.out, HWR.out, encR HV.out hx0, List.append_assoc]⟩, by rw [List.length_append]; omega, HM2, by omega⟩, ?_⟩
            simp only []
            omega
          · obtain ⟨s, hs⟩ : ∃ s : ByteArray, (⟨(nameB x).toArray⟩ : ByteArray) = s := ⟨_, rfl⟩
            have cN : ∀ w1, Calls Tryd.prog 18 #[.int .i32 x] w1 fun e w' => e = .returned (.string s) ∧ w' = w1 := fun w1 => by
              have := name_walk x w1 hb1 hb2
              rw [hs] at this
              exact this
            have hsl : s.data.toList = nameB x := by rw [← hs]
            have hss : s.size ≤ 3 := by
              have : s.size = s.data.toList.length := by rw [Array.length_toList]; rfl
              rw [this, hsl]
              exact hnl
            have hne : ¬ s = (⟨#[]⟩ : ByteArray) := by
              intro h
              rw [h] at hsl
              exact hn hsl.symm
            have n1 : s.toList.isEmpty = false := by
              rw [ByteArray.toList_eq, hsl]
              cases hh : nameB x with
              | nil => exact absurd hh hn
              | cons a t => rfl
            have hwr : writB x = 60 :: s.data.toList ++ [62] := by unfold writB; rw [if_neg hn, hsl]
            have HWR := Aside0.mk hwr
            have hc1 : ¬ 9223372036854775807 < 1 + s.size := by omega
            have hc2 : ¬ 9223372036854775807 < 1 + s.size + 1 := by omega
            have hcat : ((⟨#[60]⟩ : ByteArray) ++ s ++ (⟨#[62]⟩ : ByteArray)).data.toList = 60 :: s.data.toList ++ [62] := by
              rw [ByteArray.data_append, ByteArray.data_append, Array.toList_append, Array.toList_append]
              rfl
            have HCAT := Aside0.mk hcat
            have hcs : ((⟨#[60]⟩ : ByteArray) ++ s ++ (⟨#[62]⟩ : ByteArray)).size ≤ 5 := by
              rw [ByteArray.size_append, ByteArray.size_append]
              show 1 + s.size + 1 ≤ 5
              omega
            clear hwr hn hs hsl hcat hne hnl
            go_wp2_with (first | (go_at_call 8; refine cM.mono ?_; rintro e w2 ⟨rfl, ⟨nd, rfl⟩⟩) | (go_at_call 18; refine (cN _).mono ?_; rintro e w3 ⟨rfl, rfl⟩) | (go_at_call 19; refine (Tryd.Builder_WriteString_k w.heap.size w.heap.size (Lib.byteCells acc) _ _ (Tryd.isBuilder_drawn HI.out _) (by rw [Lib.byteCells_length]; omega) (Nat.le_of_lt hgr)).mono ?_; rintro e w4 ⟨rfl, h1, b1, k1⟩))
            have hb4 : Below w.heap.size w w4 := (show Below w.heap.size w (wr.drewN nd) from by apply pw_below_drewN; exact HB.out).trans b1
            have hsz : wr.heap.size ≤ w4.heap.size := b1.size
            refine ⟨⟨i + 1, acc ++ writB x, rfl, hlt, ⟨by rw [Lib.byteCells_append, HWR.out, ← HCAT.out]; exact h1⟩, ⟨hb4⟩, ⟨by rw [← HA2.out, List.append_assoc]⟩, by rw [List.length_append]; omega, HM2, by omega⟩, ?_⟩
            simp only []
            omega
      · have e1 : decide ((i : Int) < (l.length : Int)) = false := decide_eq_false (by omega)
        have HA1 := HA.out
        have HM1 := HM.out
        rw [List.drop_of_length_le (by omega)] at HA1 HM1
        have HPP := Aside0.mk (HP2.out (by rw [← HM1]; rfl))
        rw [List.flatMap_nil, List.append_nil] at HA1
        have HA2 := Aside0.mk HA1
        clear HA1 HM1 HP HP2
        have cS := Tryd.Builder_String_any_k w.heap.size w.heap.size acc _ HI.out (Nat.le_of_lt hgr)
        go_wp2_with (go_at_call 21; refine cS.mono ?_; rintro e w4 ⟨rfl, h1, b1, k1⟩)
        go_ret2
        exact ⟨by rw [HPP.out, ← HA2.out]; rfl, HB.out.trans b1⟩

end Go.Proofs.YtbbogjecpdebbaaDoor.Ext
