/- keys.Parse: its walk. -/
import Derived.Test.YtbbogjecpdebbaaDoorExt10W
import Derived.Test.YtbbogjecpdebbaaDoorHelpA
import Derived.Test.YtbbogjecpdebbaaDoorWMore
import Derived.WalkKit
import Derived.WalkMore
import Derived.Below
import Derived.KernelRfl
import Derived.LoopTactic
import Derived.Laws.RangeString
import Derived.Laws.RangeAny
import Derived.Laws.Rows
import Derived.Laws.Runes
import Derived.Lib.OthersKept
import Derived.OpenShut
set_option linter.unusedVariables false
set_option linter.unusedSimpArgs false
namespace Go.Proofs.YtbbogjecpdebbaaDoor.Ext
open Go.RowKit Go.Lib Go.Proofs.YtbbogjecpdebbaaDoorW.PrintWords Go.Proofs.YtbbogjecpdebbaaDoorW.PrintMore Go.Proofs.YtbbogjecpdebbaaDoor.HelpA

theorem key_loop (s : ByteArray) : ∀ (c i k : Nat), i + c = 28 → 1 ≤ i → keys_key.l0 (c + k + 1) s (i : Int) = some (keyL c i s.data.toList) := by
  intro c
  induction c with
  | zero =>
    intro i k hi h1
    rw [show 0 + k + 1 = k + 1 by omega, keys_key.l0, if_neg (by omega)]
    rfl
  | succ c ih =>
    intro i k hi h1
    have hn : keys_name.f (i : Int) = some ⟨(nameB (i : Int)).toArray⟩ := by unfold keys_name.f; rw [if_pos (by omega)]
    have hw : wrap32 ((i : Int) + 1) = ((i + 1 : Nat) : Int) := by rw [wrap32s _ (by omega) (by omega)]; omega
    rw [show c + 1 + k + 1 = (c + k + 1) + 1 by omega, keys_key.l0, if_pos (by omega), hn, Option.bind_some, ByteArray.toList_eq, ByteArray.toList_eq, hw]
    show (if nameB (i : Int) = s.data.toList then _ else _) = some (if nameB (i : Int) = s.data.toList then _ else _)
    by_cases he : nameB (i : Int) = s.data.toList
    · rw [if_pos he, if_pos he]
    · rw [if_neg he, if_neg he, ih (i + 1) k (by omega) (by omega)]
theorem key_eq (s : ByteArray) (k : Nat) : keys_key.f (27 + k + 1) s = some (keyZ s.data.toList) := by
  unfold keys_key.f keyZ
  rw [ByteArray.toList_eq]
  by_cases he : s.data.toList = [108, 116]
  · rw [if_pos he, if_pos he]
  · rw [if_neg he, if_neg he]
    exact key_loop s 27 1 k rfl (Nat.le_refl _)
theorem pz_nilO (s : ByteArray) (o : Int) (acc : List Int) (h : o ≥ 0) : pz s [] o acc = none := by simp [pz, h]
theorem pz_nil (s : ByteArray) (o : Int) (acc : List Int) (h : ¬ o ≥ 0) : pz s [] o acc = some acc := by simp only [pz]; rw [if_neg h]
theorem pz_key0 (s : ByteArray) (p r n : Nat) (l : List (Nat × Nat × Nat)) (o : Int) (acc : List Int) (h : o ≥ 0) (hr : (r : Int) = 62) (hk : keyZ (s.extract (o + 1).toNat p).data.toList = 0) : pz s ((p, r, n) :: l) o acc = none := by
  rw [pz, if_pos h, if_pos (by omega), if_pos hk]
theorem pz_key (s : ByteArray) (p r n : Nat) (l : List (Nat × Nat × Nat)) (o : Int) (acc : List Int) (h : o ≥ 0) (hr : (r : Int) = 62) (hk : ¬ keyZ (s.extract (o + 1).toNat p).data.toList = 0) :
    pz s ((p, r, n) :: l) o acc = pz s l (-1) (acc ++ [keyZ (s.extract (o + 1).toNat p).data.toList]) := by
  rw [pz, if_pos h, if_pos (by omega), if_neg hk]
theorem pz_in (s : ByteArray) (p r n : Nat) (l : List (Nat × Nat × Nat)) (o : Int) (acc : List Int) (h : o ≥ 0) (hr : ¬ (r : Int) = 62) : pz s ((p, r, n) :: l) o acc = pz s l o acc := by
  rw [pz, if_pos h, if_neg (by omega)]
theorem pz_open (s : ByteArray) (p r n : Nat) (l : List (Nat × Nat × Nat)) (o : Int) (acc : List Int) (h : ¬ o ≥ 0) (hr : (r : Int) = 60) : pz s ((p, r, n) :: l) o acc = pz s l (p : Int) acc := by
  rw [pz, if_neg h, if_pos (by omega)]
theorem pz_bad (s : ByteArray) (p r n : Nat) (l : List (Nat × Nat × Nat)) (o : Int) (acc : List Int) (h : ¬ o ≥ 0) (hr : ¬ (r : Int) = 60) (hb : (r : Int) < 32 ∨ mayZ (r : Int) = false) : pz s ((p, r, n) :: l) o acc = none := by
  rw [pz, if_neg h, if_neg (by omega), if_pos (hb.imp (fun h => by omega) id)]
theorem pz_sign (s : ByteArray) (p r n : Nat) (l : List (Nat × Nat × Nat)) (o : Int) (acc : List Int) (h : ¬ o ≥ 0) (hr : ¬ (r : Int) = 60) (hb : ¬ (r : Int) < 32) (hm : mayZ (r : Int) = true) : pz s ((p, r, n) :: l) o acc = pz s l (-1) (acc ++ [(r : Int)]) := by
  rw [pz, if_neg h, if_neg (by omega), if_neg]
  rintro (h | h)
  · omega
  · rw [hm] at h
    cases h
theorem decN_fits (n b0 b1 b2 b3 : Nat) (hn : 1 ≤ n) : (Lib.decodeN n b0 b1 b2 b3).2 ≤ n := by
  unfold Lib.decodeN
  repeat' split
  all_goals (simp only; omega)
theorem width_fit (s : ByteArray) (i : Nat) (h : i < s.size) : i + (Utf8.decode s i).2 ≤ s.size := by
  rw [Lib.decode_at]
  have := decN_fits (s.size - i) (s.get! i).toNat (s.get! (i + 1)).toNat (s.get! (i + 2)).toNat (s.get! (i + 3)).toNat (by omega)
  omega
theorem R_shape {w : World} {base : Nat} {ok : Nat → Prop} {v : Value} {xs : List Int} (h : Kd.R (Kd.int .i32) 21 w base ok v xs) : ∃ a c, v = .slice a xs.length c := by
  obtain ⟨_, inner, ho, hr⟩ := h
  have hl : xs.length = xs.length := rfl
  rcases ho.2 with ⟨hv, hn⟩ | ⟨g, cap, cur, hv, _⟩
  · exact ⟨none, 0, by rw [hv, hn]⟩
  · exact ⟨_, _, hv⟩
theorem keyL_range : ∀ (c i : Nat) (n : List UInt8), i + c ≤ 28 → 0 ≤ keyL c i n ∧ keyL c i n ≤ 27 := by
  intro c
  induction c with
  | zero => intro i n _; exact ⟨Int.le_refl _, (by decide : (0 : Int) ≤ 27)⟩
  | succ c ih =>
    intro i n h
    unfold keyL
    split
    · omega
    · exact ih (i + 1) n (by omega)
theorem keyZ_range (n : List UInt8) : 0 ≤ keyZ n ∧ keyZ n ≤ 60 := by
  unfold keyZ
  split
  · omega
  · have := keyL_range 27 1 n (by omega)
    omega
set_option maxHeartbeats 8000000 in
set_option maxRecDepth 1000000 in
theorem Parse_walk (s : ByteArray) (w : World) (hs : s.size ≤ 1000000) (hT : Tabs w) :
    Calls Tryd.prog 13 #[.string s] w fun e w' => ∃ v0_ : Value, e = .returned (.tuple #[v0_, .int .i64 (parseZ s).2]) ∧ Kd.R (Kd.int .i32) 21 w' w.heap.size (fun _ => True) v0_ (parseZ s).1 ∧ Below w.heap.size w w' := by
  have cV := Valid_walk s w hT
  cases hv : (scan s s.size 0).all whole with
  | false =>
    rw [hv] at cV
    have hp : parseZ s = ([], 5) := by unfold parseZ; rw [hv]; rfl
    rw [hp]
    go_enter Tryd.func13, Tryd.ntmps13
    go_wp2_with (go_at_call 23; refine cV.mono ?_; rintro e w1 ⟨rfl, hb1⟩)
    go_ret2
    exact ⟨_, rfl, Kd.R_nil _ _ _ _ _, hb1⟩
  | true =>
    rw [hv] at cV
    have HPN : Aside0 (pz s (scan s s.size 0) (-1) [] = none → parseZ s = ([], 5)) := ⟨fun h => by unfold parseZ; rw [if_pos hv, h]⟩
    have HPB : Aside0 (∀ l, pz s (scan s s.size 0) (-1) [] = some l → l.length > 256 → parseZ s = ([], 3)) := ⟨fun l h hl => by unfold parseZ; rw [if_pos hv, h]; exact if_pos hl⟩
    have HPO : Aside0 (∀ l, pz s (scan s s.size 0) (-1) [] = some l → ¬ l.length > 256 → parseZ s = (l, 0)) := ⟨fun l h hl => by unfold parseZ; rw [if_pos hv, h]; exact if_neg hl⟩
    have HTABS := Aside0.mk hT
    clear hv hT
    go_enter Tryd.func13, Tryd.ntmps13
    go_wp2_with (go_at_call 23; refine cV.mono ?_; rintro e w1 ⟨rfl, hb1⟩)
    go_loopw [4, 5] (fun vo vp w' => ∃ (pos b : Nat) (xs : List Int) (o : Int), vp = .int .i64 o ∧ Aside0 (Kd.R (Kd.int .i32) 21 w' w.heap.size (fun k => k ≠ w1.heap.size) vo xs) ∧ Aside0 (w'.heap[w1.heap.size]? = some (.stringIter s pos)) ∧ Aside0 (Below w.heap.size w w') ∧ Aside0 (pz s (scan s b pos) o xs = pz s (scan s s.size 0) (-1) []) ∧ s.size ≤ pos + b ∧ -1 ≤ o ∧ o + 1 ≤ (pos : Int) ∧ xs.length ≤ pos ∧ pos ≤ s.size) (fun _ _ w' => s.size - w'.iterPos w1.heap.size)
    case atStart => exact ⟨0, s.size, [], -1, rfl, ⟨Kd.R_nil _ _ _ _ _⟩, ⟨World.iter_heap w1 s 0⟩, ⟨hb1.alloc hb1.size _⟩, ⟨rfl⟩, by omega, by omega, by omega, by simp, by omega⟩
    case round =>
      obtain ⟨pos, b, xs, o, rfl, HR, ⟨hk⟩, ⟨hB⟩, HC, hb, ho1, ho2, hxl, hps⟩ := hrel
      by_cases hp : pos < s.size
      · have hwd := width_pos s pos hp
        cases b with
        | zero => omega
        | succ b =>
          have hnx0 : ∀ ty, (Instr.next (.pointer (some ⟨w1.heap.size, 0, none⟩)) true ty).run Tryd.prog _ = _ := fun ty => run_next_any_at _ w1.heap.size s pos ty hk hp
          have hcons : (scan s (b + 1) pos) = (pos, (Utf8.decode s pos).1, (Utf8.decode s pos).2) :: scan s b (pos + (Utf8.decode s pos).2) := by
            rw [scan, if_pos hp]
          have HC1 := HC.out
          rw [hcons] at HC1
          have hfit := width_fit s pos hp
          obtain ⟨q, hq⟩ : ∃ q, pos + (Utf8.decode s pos).2 = q := ⟨_, rfl⟩
          obtain ⟨r0, hr0⟩ : ∃ r0, (Utf8.decode s pos).1 = r0 := ⟨_, rfl⟩
          obtain ⟨n0, hn0⟩ : ∃ n0, (Utf8.decode s pos).2 = n0 := ⟨_, rfl⟩
          obtain ⟨R, hR⟩ : ∃ R : Int, (r0 : Int) = R := ⟨_, rfl⟩
          have hnx : ∀ ty, (Instr.next (.pointer (some ⟨w1.heap.size, 0, none⟩)) true ty).run Tryd.prog _ = .ok (.tuple #[.bool true, .int .i64 pos, .int .i32 R]) _ := fun ty => by rw [hnx0 ty, hr0, hR, hq]
          rw [hq, hr0, hn0] at HC1
          rw [hq] at hfit
          have hpq : pos < q := by omega
          have hB1 : Below w.heap.size w _ := below_iterAt hB hb1.size s q
          have HK1 := Aside0.mk (iterAt_heap _ w1.heap.size s pos q hk)
          have HB := Aside0.mk hB1
          have HR1 := Aside0.mk (Kd.R_step HR.out (fun k hk _ => iterAt_other _ w1.heap.size k s q hk))
          have hlt1 := (Array.getElem?_eq_some_iff.1 HK1.out).1
          have HT := Aside0.mk (HTABS.out.below hB1 (Nat.le_refl _))
          have hlen : xs.length + 1 ≤ 2000000 := by omega
          have HH1 := Aside0.mk hb1.size
          clear hcons hnx0 hq hn0 hr0 hwd HC hB1 HR
          by_cases ho : o ≥ 0
          · have do1 : decide (o ≥ 0) = true := decide_eq_true ho
            have do2 : decide (0 ≤ o) = true := decide_eq_true ho
            by_cases h62 : R = 62
            · have e62 : (R == 62) = true := beq_iff_eq.2 h62
              obtain ⟨x, hxx⟩ : ∃ x, s.extract (o + 1).toNat pos = x := ⟨_, rfl⟩
              have hsl : ∀ w', (Instr.slice 9 (.string s) (some (.int .i64 (o + 1))) (some (.int .i64 (pos : Int))) none).run Tryd.prog w' = .ok (.string x) w' := fun w' => by
                rw [run_slice_string w' 9 s .i64 .i64 (o + 1) (pos : Int) Tryd.underlying9 (by omega) ho2 (by omega), Int.toNat_natCast, hxx]
              have cK := keys_key.calls (27 + 0 + 1) x (keyZ x.data.toList) _ (key_eq x 0) HT.out
              have hkr := keyZ_range x.data.toList
              by_cases hz : keyZ x.data.toList = 0
              · rw [pz_key0 _ _ _ _ _ _ _ ho (by rw [hR]; exact h62) (by rw [hxx]; exact hz)] at HC1
                have HPP := Aside0.mk (HPN.out HC1.symm)
                rw [hz] at cK
                clear HC1 hz hkr hxx h62 hR
                go_wp2_with (go_at_call 24; refine cK.mono ?_; rintro e w2 ⟨rfl, hb2⟩)
                go_ret2
                exact ⟨_, by rw [HPP.out]; rfl, by rw [HPP.out]; exact Kd.R_nil _ _ _ _ _, HB.out.trans (hb2.mono HB.out.size)⟩
              · rw [pz_key _ _ _ _ _ _ _ ho (by rw [hR]; exact h62) (by rw [hxx]; exact hz), hxx] at HC1
                have HC2 := Aside0.mk HC1
                obtain ⟨kk, hkk⟩ : ∃ kk, keyZ x.data.toList = kk := ⟨_, rfl⟩
                rw [hkk] at cK HC1 hkr hz HC2
                have ez : (kk == 0) = false := beq_eq_false_iff_ne.2 hz
                clear HC1 hz hxx h62 hR hkk
                go_wp2_with (first | (go_at_call 24; refine cK.mono ?_; rintro e w2 ⟨rfl, hb2⟩; have HB2 := Aside0.mk (HB.out.trans (hb2.mono HB.out.size)); have HR2 := Aside0.mk (Kd.R_below HR1.out hb2); have HK2 := Aside0.mk ((hb2.block _ hlt1).trans HK1.out); have hlt2 := (Array.getElem?_eq_some_iff.1 HK2.out).1; have HS2 := Aside0.mk HB2.out.size) | ((with_reducible refine gate_builtin (b := .append) (xs := #[.tmp 37, .tmp 39]) rfl ?_); at_builtin; refine Kd.R_append (Kd.int .i32) (w0 := w) w.heap.size rfl (.tmp 37) (.tmp 39) 25 21 (.int .i32 0) 4 rfl Tryd.underlying25 (by kernel_rfl) rfl (by decide) (by omega) _ xs kk [.int .i32 kk] (fun k => k ≠ w1.heap.size) (fun _ => False) rfl rfl ?aP (fun _ hk => hk.elim) ?aF ?aO ?aB ?aS ?aL ?_; (case aP => exact rfl); (case aB => exact HB2.out); (case aF => exact (fun k hk e => by omega)); (case aO => exact HR2.out); (case aS => exact HS2.out); (case aL => omega); intro v1 w3 ho hb3 hg hat))
                have hk2 := (hg.block w1.heap.size hlt2 (by intro e; exact HR2.out.1 _ e.symm rfl)).trans HK2.out
                go_roundw
                case rel => exact ⟨q, b, _, -1, rfl, ⟨ho⟩, ⟨hk2⟩, ⟨hb3⟩, HC2, by omega, by omega, by omega, by rw [List.length_append]; simp only [List.length_cons, List.length_nil]; omega, hfit⟩
                case measure =>
                  simp only [World.iterPos, hk2, hk]
                  omega
            · have e62 : (R == 62) = false := beq_eq_false_iff_ne.2 h62
              rw [pz_in _ _ _ _ _ _ _ ho (by rw [hR]; exact h62)] at HC1
              have HC2 := Aside0.mk HC1
              clear HC1 h62 hR
              go_wp2
              go_roundw
              case rel => exact ⟨q, b, xs, o, rfl, HR1, HK1, HB, HC2, by omega, by omega, by omega, by omega, hfit⟩
              case measure =>
                simp only [World.iterPos, HK1.out, hk]
                omega
          · have do1 : decide (o ≥ 0) = false := decide_eq_false ho
            have do2 : decide (0 ≤ o) = false := decide_eq_false ho
            by_cases h60 : R = 60
            · have e60 : (R == 60) = true := beq_iff_eq.2 h60
              rw [pz_open _ _ _ _ _ _ _ ho (by rw [hR]; exact h60)] at HC1
              have HC2 := Aside0.mk HC1
              clear HC1 h60 hR
              go_wp2
              go_roundw
              case rel => exact ⟨q, b, xs, (pos : Int), rfl, HR1, HK1, HB, HC2, by omega, by omega, by omega, by omega, hfit⟩
              case measure =>
                simp only [World.iterPos, HK1.out, hk]
                omega
            · have e60 : (R == 60) = false := beq_eq_false_iff_ne.2 h60
              by_cases h32 : R < 32
              · have d32 : decide (R < 32) = true := decide_eq_true h32
                rw [pz_bad _ _ _ _ _ _ _ ho (by rw [hR]; exact h60) (by rw [hR]; exact Or.inl h32)] at HC1
                have HPP := Aside0.mk (HPN.out HC1.symm)
                clear HC1 h60 h32 hR
                go_wp2
                go_ret2
                exact ⟨_, by rw [HPP.out]; rfl, by rw [HPP.out]; exact Kd.R_nil _ _ _ _ _, HB.out⟩
              · have d32 : decide (R < 32) = false := decide_eq_false h32
                have cM := keys_May.calls (0 + 1) R (mayZ R) _ (may_eq 0 R) HT.out
                cases hm : mayZ R with
                | false =>
                  rw [hm] at cM
                  rw [pz_bad _ _ _ _ _ _ _ ho (by rw [hR]; exact h60) (by rw [hR]; exact Or.inr hm)] at HC1
                  have HPP := Aside0.mk (HPN.out HC1.symm)
                  clear HC1 h60 h32 hR hm
                  go_wp2_with (go_at_call 8; refine cM.mono ?_; rintro e w2 ⟨rfl, hd⟩)
                  go_ret2
                  exact ⟨_, by rw [HPP.out]; rfl, by rw [HPP.out]; exact Kd.R_nil _ _ _ _ _, HB.out.trans (hd.below.mono HB.out.size)⟩
                | true =>
                  rw [hm] at cM
                  rw [pz_sign _ _ _ _ _ _ _ ho (by rw [hR]; exact h60) (by rw [hR]; exact h32) (by rw [hR]; exact hm), hR] at HC1
                  have HC2 := Aside0.mk HC1
                  clear HC1 h60 h32 hR hm
                  go_wp2_with (first | (go_at_call 8; refine cM.mono ?_; rintro e w2 ⟨rfl, hd⟩; have hb2 := hd.below; have HB2 := Aside0.mk (HB.out.trans (hb2.mono HB.out.size)); have HR2 := Aside0.mk (Kd.R_below HR1.out hb2); have HK2 := Aside0.mk ((hb2.block _ hlt1).trans HK1.out); have hlt2 := (Array.getElem?_eq_some_iff.1 HK2.out).1; have HS2 := Aside0.mk HB2.out.size) | ((with_reducible refine gate_builtin (b := .append) (xs := #[.tmp 18, .tmp 20]) rfl ?_); at_builtin; refine Kd.R_append (Kd.int .i32) (w0 := w) w.heap.size rfl (.tmp 18) (.tmp 20) 25 21 (.int .i32 0) 4 rfl Tryd.underlying25 (by kernel_rfl) rfl (by decide) (by omega) _ xs R [.int .i32 R] (fun k => k ≠ w1.heap.size) (fun _ => False) rfl rfl ?aP (fun _ hk => hk.elim) ?aF ?aO ?aB ?aS ?aL ?_; (case aP => exact rfl); (case aB => exact HB2.out); (case aF => exact (fun k hk e => by omega)); (case aO => exact HR2.out); (case aS => exact HS2.out); (case aL => omega); intro v1 w3 ho hb3 hg hat))
                  have hk2 := (hg.block w1.heap.size hlt2 (by intro e; exact HR2.out.1 _ e.symm rfl)).trans HK2.out
                  go_roundw
                  case rel => exact ⟨q, b, _, o, rfl, ⟨ho⟩, ⟨hk2⟩, ⟨hb3⟩, ⟨by rw [show o = -1 by omega]; exact HC2.out⟩, by omega, by omega, by omega, by rw [List.length_append]; simp only [List.length_cons, List.length_nil]; omega, hfit⟩
                  case measure =>
                    simp only [World.iterPos, hk2, hk]
                    omega
      · have hnx : ∀ ty, (Instr.next (.pointer (some ⟨w1.heap.size, 0, none⟩)) true ty).run Tryd.prog _ = _ := fun ty => run_next_end_at _ w1.heap.size s pos ty hk hp
        have HC1 := HC.out
        rw [scan_end s b pos hp] at HC1
        have HB := Aside0.mk hB
        clear hB
        by_cases ho : o ≥ 0
        · have do1 : decide (o ≥ 0) = true := decide_eq_true ho
          have do2 : decide (0 ≤ o) = true := decide_eq_true ho
          rw [pz_nilO _ _ _ ho] at HC1
          have HPP := Aside0.mk (HPN.out HC1.symm)
          clear HC1 HC
          go_wp2
          go_ret2
          exact ⟨_, by rw [HPP.out]; rfl, by rw [HPP.out]; exact Kd.R_nil _ _ _ _ _, HB.out⟩
        · have do1 : decide (o ≥ 0) = false := decide_eq_false ho
          have do2 : decide (0 ≤ o) = false := decide_eq_false ho
          rw [pz_nil _ _ _ ho] at HC1
          by_cases hl : xs.length > 256
          · have HPP := Aside0.mk (HPB.out xs HC1.symm hl)
            have dl : decide ((xs.length : Int) > 256) = true := decide_eq_true (by omega)
            have dl2 : decide ((256 : Int) < (xs.length : Int)) = true := decide_eq_true (by omega)
            obtain ⟨va, vc, rfl⟩ := R_shape HR.out
            clear HC1 HC hl
            go_wp2
            go_ret2
            exact ⟨_, by rw [HPP.out]; rfl, by rw [HPP.out]; exact Kd.R_nil _ _ _ _ _, HB.out⟩
          · have HPP := Aside0.mk (HPO.out xs HC1.symm hl)
            have dl : decide ((xs.length : Int) > 256) = false := decide_eq_false (by omega)
            have dl2 : decide ((256 : Int) < (xs.length : Int)) = false := decide_eq_false (by omega)
            obtain ⟨va, vc, rfl⟩ := R_shape HR.out
            clear HC1 HC hl
            go_wp2
            go_ret2
            exact ⟨_, by rw [HPP.out]; rfl, by rw [HPP.out]; exact Kd.R_mono HR.out (fun _ _ => trivial), HB.out⟩

end Go.Proofs.YtbbogjecpdebbaaDoor.Ext
