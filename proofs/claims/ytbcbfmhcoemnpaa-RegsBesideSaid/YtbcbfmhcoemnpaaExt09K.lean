/- The laws' does, and what the acts leave, in plain words. -/
import Derived.Test.YtbcbfmhcoemnpaaExt09I
import Derived.Test.YtbcbfmhcoemnpaaXRRx2
import Derived.Test.YtbcbfmhcoemnpaaXRRx3
import Derived.Test.YtbcbfmhcoemnpaaXRRx4
import Derived.Test.YtbcbfmhcoemnpaaXRRx0
import Derived.Test.YtbcbfmhcoemnpaaWMore
import Derived.WalkKit
import Derived.WalkMore
import Derived.Below
import Derived.KernelRfl
import Derived.LoopTactic
import Derived.Deep.RegionWith
import Derived.Deep.RegionHeld3
import Derived.IntWalk
import Derived.Deep.DeepCutAuto
import Derived.Deep.CutBlock
import Derived.BigQuiet
import Derived.Laws.RangeString
import Derived.Laws.RangeAny
import Derived.Laws.Rows
import Derived.Laws.Runes
import Derived.Lib.OthersKept
import Derived.OpenShut
set_option linter.unusedVariables false
set_option linter.unusedSimpArgs false
namespace Go.Proofs.Ytbcbfmhcoemnpaa.Ext
open Go.RowKit Go.Lib Go.Proofs.YtbcbfmhcoemnpaaW.PrintWords Go.Proofs.YtbcbfmhcoemnpaaW.PrintMore Go.Proofs.Ytbcbfmhcoemnpaa.XRR

theorem C_map {α β : Type} {d : Kd α} {d' : Kd β} (f : α → β) (hs : d.sz = d'.sz) (h : ∀ w x cs, d.K w x cs → d'.K w (f x) cs) {w : World} {A : Option Addr} {n : Nat} {xs : List α} (hc : d.C w A n xs) : d'.C w A n (xs.map f) := by
  obtain ⟨h1, h2, h3⟩ := hc
  refine ⟨by rw [List.length_map]; exact h1, h2, fun hn => ?_⟩
  obtain ⟨ad, hA, hcell⟩ := h3 hn
  refine ⟨ad, hA, fun j p hj => ?_⟩
  rw [List.getElem?_map] at hj
  cases e : xs[j]? with
  | none => rw [e] at hj; cases hj
  | some x =>
    rw [e] at hj
    cases hj
    obtain ⟨c, hl, hk, hcc⟩ := hcell j x e
    rw [hs] at hl hcc
    exact ⟨c, hl, h w x c hk, hcc⟩
def fitB (s : ByteArray) (m : List Rn) : Bool := decide (s.size ≤ 5000 ∧ m.length ≤ 5000)
theorem fit_f (s : ByteArray) (m : List Rn) : bureaulaw04_Fits.f s m = some (fitB s m) := by
  unfold bureaulaw04_Fits.f fitB
  by_cases c : (s.size : Int) ≤ 5000
  · rw [if_pos c]
    congr 1
    exact decide_eq_decide.2 (by constructor <;> intro h <;> omega)
  · rw [if_neg c, decide_eq_false (by omega)]
def doM (g : List Hs) (n : Int) (x : En) (cut wide : Bool) : List Hs × Int := if cut = true then delM g n x wide else yankM g n x
abbrev aV (n : Int) (s : ByteArray) (v : Value) (b cut wide : Bool) : Value := .agg #[.int .i32 n, .string s, v, .bool b, .bool cut, .bool wide]
set_option maxRecDepth 100000 in
set_option maxHeartbeats 8000000 in
theorem does_w {w W : World} {B : Nat} {g : List Hs} (hs : ST w W B g) (x : En) (A : Option Addr) (c : Nat) (n : Int) (cut wide : Bool) (hx : RA W B A c x.l) (hl : x.l.length ≤ 100000) (h0 : -2147483648 ≤ n) (h1 : n ≤ 2147483647) :
    Calls Try.prog 15 #[.pointer (some ⟨B, 0, none⟩), aV n x.s (.slice A x.l.length c) x.b cut wide] W fun e w' => e = .returned (.int .i64 (doM g n x cut wide).2) ∧ ST w w' B (doM g n x cut wide).1 ∧ W.grownBy w' (some B) := by
  have HB := below_alloc (Below.refl W.heap.size W) (.cells #[.int .i32 n, .string x.s, .slice A x.l.length c, .bool x.b, .bool cut, .bool wide] 42)
  have HDE := Aside0.mk (delete_s (hs.below HB) x A c n wide (hx.below HB) hl h0 h1)
  have HYA := Aside0.mk (yank_s (hs.below HB) x A c n (hx.below HB) hl h0 h1)
  have HB2 := Aside0.mk HB
  clear hs hx hl HB
  cases cut
  · have e : doM g n x false wide = yankM g n x := if_neg (by decide)
    rw [e]
    clear e HDE
    go_enter Try.func15, Try.ntmps15
    go_wp2_with (first | (go_at_call 19; (with_reducible refine HYA.out.mono ?_); rintro e w2 ⟨rfl, hs2, hg2⟩; have HS2 := Aside0.mk hs2; have HG2 := Aside0.mk hg2; clear hs2 hg2))
    go_ret
    exact ⟨rfl, HS2.out, two_grown (grown_of_below HB2.out _) HG2.out⟩
  · have e : doM g n x true wide = delM g n x wide := if_pos rfl
    rw [e]
    clear e HYA
    go_enter Try.func15, Try.ntmps15
    go_wp2_with (first | (go_at_call 10; (with_reducible refine HDE.out.mono ?_); rintro e w2 ⟨rfl, hs2, hg2⟩; have HS2 := Aside0.mk hs2; have HG2 := Aside0.mk hg2; clear hs2 hg2))
    go_ret
    exact ⟨rfl, HS2.out, two_grown (grown_of_below HB2.out _) HG2.out⟩
theorem doM_GG {g : List Hs} (hG : GG g) (n : Int) (x : En) (cut wide : Bool) : GG (doM g n x cut wide).1 := by
  unfold doM
  split
  · exact delM_GG hG n x wide
  · exact yankM_GG hG n x
/-! What a call leaves as it was. -/
theorem letM_err {g : List Hs} {n : Int} {x : En} (h : (letM g n x).2.2 ≠ 0) : (letM g n x).1 = g := by
  unfold letM at h ⊢
  split at h
  · rename_i c; rw [if_pos c]
  · rename_i c; rw [if_neg c]
    split at h
    · rename_i c2; rw [if_pos c2]
    · rename_i c2; rw [if_neg c2]
      split at h
      · rename_i c3; rw [if_pos c3]
        split at h
        · rename_i c4; rw [if_pos c4]
        · exact absurd rfl h
      · exact absurd rfl h
theorem doM_err {g : List Hs} {n : Int} {x : En} {cut wide : Bool} (h : (doM g n x cut wide).2 ≠ 0) : (doM g n x cut wide).1 = g := by
  unfold doM at h ⊢
  cases hd : (letM g n x).2.1
  · have hk := letM_good hd
    split at h
    · exfalso
      unfold delM at h
      rw [if_neg (by rw [hd]; decide)] at h
      split at h <;> exact h rfl
    · exfalso
      unfold yankM at h
      rw [if_neg (by rw [hd]; decide)] at h
      exact h hk.2.1
  · split at h
    · rename_i c; rw [if_pos c]; rw [delM_1 hd] at h ⊢; exact letM_err h
    · rename_i c; rw [if_neg c]
      have e : yankM g n x = ((letM g n x).1, (letM g n x).2.2) := if_pos hd
      rw [e] at h ⊢
      exact letM_err h
theorem doM_done {g : List Hs} {n : Int} {x : En} {cut wide : Bool} (hd : (letM g n x).2.1 = true) : (doM g n x cut wide).1 = (letM g n x).1 := by
  unfold doM
  split
  · rw [delM_1 hd]
  · have e : yankM g n x = ((letM g n x).1, (letM g n x).2.2) := if_pos hd
    rw [e]
theorem doM_us {g : List Hs} {x : En} {cut wide : Bool} : (doM g 95 x cut wide).1 = g := by
  have hp : pIs 95 = false := by decide
  cases hg : goodT x.s x.l
  · have e : letM g 95 x = (g, true, 2) := if_pos (.inr hg)
    rw [doM_done (by rw [e]), e]
  · have e : letM g 95 x = (g, true, 0) := by unfold letM; rw [if_neg (by simp [hg]), if_pos hp]; rfl
    rw [doM_done (by rw [e]), e]
theorem put2_gd (g : List Hs) (x : En) (k i : Nat) (h1 : i ≠ k) (h2 : i ≠ 37) : gd (putM g x [k, 37]) i = gd g i := by
  show gd ((g.set k _).set 37 _) i = _
  rw [gd_set, if_neg (fun h => h2 h.1.symm), gd_set, if_neg (fun h => h1 h.1.symm)]
theorem doM_letter {g : List Hs} {n : Int} {x : En} {cut wide : Bool} (hp : pIs n = true) (i : Nat) (h1 : i ≠ pAt n) (h2 : i ≠ 37) : gd (doM g n x cut wide).1 i = gd g i := by
  have hd : (letM g n x).2.1 = true := by
    unfold letM
    split
    · rfl
    · split
      · rename_i c; rw [hp] at c; cases c
      · split
        · split <;> rfl
        · rfl
  rw [doM_done hd]
  unfold letM
  split
  · rfl
  · split
    · rfl
    · split
      · split
        · rfl
        · exact put2_gd _ _ _ _ h1 h2
      · exact put2_gd _ _ _ _ h1 h2
/-- The name that the law compares with. -/
def lowN (n : Int) : Int := if 65 ≤ n ∧ n ≤ 90 then n + 32 else n
theorem beside {g : List Hs} {n : Int} {x : En} {cut wide : Bool} {k : Int} (hk : k = 34 ∨ k = 45 ∨ (48 ≤ k ∧ k ≤ 57) ∨ (97 ≤ k ∧ k ≤ 122))
    (h1 : ¬ ((doM g n x cut wide).2 = 0 ∧ lowN n ≠ 95 ∧ (lowN n < 97 ∨ lowN n > 122))) (h2 : ¬ ((doM g n x cut wide).2 = 0 ∧ lowN n ≠ 95 ∧ (k = lowN n ∨ k = 34))) :
    getM (doM g n x cut wide).1 k = getM g k := by
  by_cases he : (doM g n x cut wide).2 = 0
  · by_cases hu : lowN n = 95
    · have hn : n = 95 := by unfold lowN at hu; split at hu <;> omega
      subst hn
      rw [doM_us]
    · have hz : 97 ≤ lowN n ∧ lowN n ≤ 122 := by
        by_cases a : 97 ≤ lowN n
        · by_cases b : lowN n ≤ 122
          · exact ⟨a, b⟩
          · exact absurd ⟨he, hu, .inr (by omega)⟩ h1
        · exact absurd ⟨he, hu, .inl (by omega)⟩ h1
      have hp : pIs n = true := by
        unfold pIs
        unfold lowN at hz
        split at hz <;> simp <;> omega
      have hat : (pAt n : Int) = lowN n - 87 := by
        unfold pAt lowN at *
        split <;> (try split) <;> (try split at hz) <;> omega
      have hne : ¬ (k = lowN n ∨ k = 34) := fun h => h2 ⟨he, hu, h⟩
      have key : ∀ i, getI k = some i → i ≠ pAt n ∧ i ≠ 37 := by
        intro i hi
        unfold getI at hi
        split at hi
        · rename_i hpk
          have e : i = pAt k := by injection hi with hi; exact hi.symm
          have : pIs k = true := hpk
          have hk2 : 97 ≤ k ∧ k ≤ 122 := by
            rcases hk with h | h | h | h
            · subst h; revert hpk; decide
            · subst h; revert hpk; decide
            · exfalso; revert hpk; unfold pIs; simp; omega
            · exact h
          have e2 : (i : Int) = k - 87 := by rw [e]; unfold pAt; rw [if_pos hk2]; omega
          exact ⟨fun h => hne (.inl (by omega)), by omega⟩
        · split at hi
          · rename_i hpk c
            exfalso
            rcases c with c | c
            · omega
            · exact hne (.inr c)
          · split at hi
            · have e : i = 36 := by injection hi with hi; exact hi.symm
              exact ⟨by omega, by omega⟩
            · split at hi
              · have e : i = (k - 48).toNat := by injection hi with hi; exact hi.symm
                exact ⟨by omega, by omega⟩
              · cases hi
      unfold getM
      cases hi : getI k with
      | none => rfl
      | some i =>
        obtain ⟨a, b⟩ := key i hi
        simp only [doM_letter hp i a b]
  · rw [doM_err he]
/-- The document's sameness, of one entry and the same. -/
theorem same9 (s : ByteArray) (l : List Rn) (b : Bool) (hl : l.length ≤ 100000) : bureauref09_Same.f (l.length + 1) s l b s l b = some true := by
  unfold bureauref09_Same.f bureauref04_Same.f
  rw [if_pos rfl, dSame l l (by omega) _ (by omega), Option.bind_some, decide_eq_true rfl, Option.bind_some, if_pos rfl]
  cases b <;> rfl
theorem same4 (s : ByteArray) (l : List Rn) (hl : l.length ≤ 100000) : bureauref04_Same.f (l.length + 1) s l s l = some true := by
  unfold bureauref04_Same.f
  rw [if_pos rfl, dSame l l (by omega) _ (by omega), Option.bind_some, decide_eq_true rfl]

end Go.Proofs.Ytbcbfmhcoemnpaa.Ext
