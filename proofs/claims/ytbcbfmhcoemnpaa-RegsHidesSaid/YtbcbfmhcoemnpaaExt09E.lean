/- regs: letter in one, Yank, by their walks. -/
import Derived.Test.YtbcbfmhcoemnpaaExt09D
import Derived.Test.YtbcbfmhcoemnpaaXRRx2
import Derived.Test.YtbcbfmhcoemnpaaXRRx3
import Derived.Test.YtbcbfmhcoemnpaaXRRx4
import Derived.Test.YtbcbfmhcoemnpaaXRRx0
import Derived.Test.YtbcbfmhcoemnpaaWMore
import Derived.WalkKit
import Derived.WalkMore
import Derived.Below
import Derived.KernelRfl
import Derived.LoopTactic
import Derived.Deep.RegionWith
import Derived.Deep.RegionHeld3
import Derived.IntWalk
import Derived.Deep.DeepCutAuto
import Derived.Deep.CutBlock
import Derived.BigQuiet
import Derived.Laws.RangeString
import Derived.Laws.RangeAny
import Derived.Laws.Rows
import Derived.Laws.Runes
import Derived.Lib.OthersKept
import Derived.OpenShut
set_option linter.unusedVariables false
set_option linter.unusedSimpArgs false
namespace Go.Proofs.Ytbcbfmhcoemnpaa.Ext
open Go.RowKit Go.Lib Go.Proofs.YtbcbfmhcoemnpaaW.PrintWords Go.Proofs.YtbcbfmhcoemnpaaW.PrintMore Go.Proofs.Ytbcbfmhcoemnpaa.XRR

variable {bs : Nat}
/-- Registers as they may stand: what is there is good. -/
structure GG (g : List Hs) : Prop where
  n : g.length = 38
  good : ∀ i, (gd g i).is = true → goodT (gd g i).s (gd g i).l = true
  none : ∀ i, (gd g i).is = false → gd g i = hz
theorem pk_len : ∀ {l : List Rn}, pk l → l.length ≤ nB l
  | [], _ => Nat.le_refl _
  | r :: l, h => by
    have h1 := pk_head h
    have h2 := pk_len (pk_tail h)
    rw [nB_cons, List.length_cons]
    omega
theorem good_len {s : ByteArray} {l : List Rn} (h : goodT s l = true) : l.length ≤ 4096 := by
  obtain ⟨h1, h2⟩ := goodT_good h
  exact Nat.le_trans (pk_len (good_pk h1)) (good_n h1)
theorem GG.len {g : List Hs} (h : GG g) (i : Nat) : (gd g i).l.length ≤ 4096 := by
  cases e : (gd g i).is
  · rw [h.none i e]; decide
  · exact good_len (h.good i e)
theorem gd_set (g : List Hs) (k i : Nat) (x : Hs) : gd (g.set k x) i = if k = i ∧ k < g.length then x else gd g i := by
  unfold gd
  rw [List.getD_eq_getElem?_getD, List.getD_eq_getElem?_getD, List.getElem?_set]
  by_cases e : k = i
  · subst e
    by_cases e2 : k < g.length
    · rw [if_pos rfl, if_pos e2, if_pos ⟨rfl, e2⟩]; rfl
    · rw [if_pos rfl, if_neg e2, if_neg (fun h => e2 h.2), List.getElem?_eq_none (by omega)]
  · rw [if_neg e, if_neg (fun h => e h.1)]
theorem GG.set {g : List Hs} (h : GG g) (k : Nat) (x : Hs) (hx : x.is = true → goodT x.s x.l = true) (hn : x.is = false → x = hz) : GG (g.set k x) := by
  refine ⟨by rw [List.length_set]; exact h.n, fun i hi => ?_, fun i hi => ?_⟩
  · rw [gd_set] at hi ⊢
    split at hi
    · rw [if_pos ‹_›]; exact hx hi
    · rw [if_neg ‹_›]; exact h.good i hi
  · rw [gd_set] at hi ⊢
    split at hi
    · rw [if_pos ‹_›]; exact hn hi
    · rw [if_neg ‹_›]; exact h.none i hi
theorem GG.put {x : En} (hx : goodT x.s x.l = true) : ∀ (ks : List Nat) {g : List Hs}, GG g → GG (putM g x ks)
  | [], _, h => h
  | k :: ks, _, h => GG.put hx ks (h.set k (hv x) (fun _ => hx) (fun e => by cases e))
theorem GG.new : GG (List.replicate 38 hz) := by
  have e : ∀ i, gd (List.replicate 38 hz) i = hz := fun i => by
    unfold gd
    rw [List.getD_eq_getElem?_getD, List.getElem?_replicate]
    split <;> rfl
  exact ⟨by simp, fun i hi => (by rw [e] at hi; cases hi), fun i _ => e i⟩
/-- What a call with a letter, or with none to be kept, does. -/
def letM (g : List Hs) (n : Int) (x : En) : List Hs × Bool × Int :=
  if (pIs n = false ∧ n ≠ 0 ∧ n ≠ 34 ∧ n ≠ 95) ∨ goodT x.s x.l = false then (g, true, 2)
  else if pIs n = false then (g, n == 95, 0)
  else if pAd n = true ∧ (gd g (pAt n)).is = true then
    (if (catT (gd g (pAt n)).s (gd g (pAt n)).l x.s x.l).2.2 ≠ 0 then (g, true, (catT (gd g (pAt n)).s (gd g (pAt n)).l x.s x.l).2.2)
     else (putM g ⟨(catT (gd g (pAt n)).s (gd g (pAt n)).l x.s x.l).1, (catT (gd g (pAt n)).s (gd g (pAt n)).l x.s x.l).2.1, (gd g (pAt n)).b || x.b⟩ [pAt n, 37], true, 0))
  else (putM g x [pAt n, 37], true, 0)
theorem cat_good {s x : ByteArray} {l m : List Rn} (hs : goodT s l = true) (hx : goodT x m = true) (he : (catT s l x m).2.2 = 0) : goodT (catT s l x m).1 (catT s l x m).2.1 = true := by
  rw [cat_val hs hx] at he ⊢
  split at he
  · cases he
  · rw [if_neg ‹_›]
    exact spl_good hs hx (by omega)
theorem letter_w (w : World) (B : Nat) (g : List Hs) (vs : List Value) (x : En) (A : Option Addr) (c : Nat) (n : Int) (h : RG bs w B g vs) (hx : RA w B A c x.l) (hG : GG g) (hl : x.l.length ≤ 100000) (h0 : -2147483648 ≤ n) (h1 : n ≤ 2147483647) :
    Calls Try.prog 21 #[.pointer (some ⟨B, 0, none⟩), .int .i32 n, eV x.s (.slice A x.l.length c) x.b] w (LQ bs w B (letM g n x).2.1 (letM g n x).2.2 (letM g n x).1) := by
  have hl2 : x.l.length ≤ 8000000000000000000 := by omega
  cases hp : pIs n
  · by_cases n0 : n = 0
    · subst n0
      cases hg : goodT x.s x.l
      · rw [show letM g 0 x = (g, true, 2) from if_pos (.inr hg)]
        exact letter_b0 w B g vs x A c 0 h hx hl2 h0 h1 hp rfl hg
      · rw [show letM g 0 x = (g, false, 0) by unfold letM; rw [if_neg (by simp [hg]), if_pos hp]; rfl]
        exact letter_c0 w B g vs x A c 0 h hx hl2 h0 h1 hp rfl hg rfl
    by_cases n1 : n = 34
    · subst n1
      cases hg : goodT x.s x.l
      · rw [show letM g 34 x = (g, true, 2) from if_pos (.inr hg)]
        exact letter_b34 w B g vs x A c 34 h hx hl2 h0 h1 hp rfl rfl hg
      · rw [show letM g 34 x = (g, false, 0) by unfold letM; rw [if_neg (by simp [hg]), if_pos hp]; rfl]
        exact letter_c34 w B g vs x A c 34 h hx hl2 h0 h1 hp rfl rfl hg rfl
    by_cases n2 : n = 95
    · subst n2
      cases hg : goodT x.s x.l
      · rw [show letM g 95 x = (g, true, 2) from if_pos (.inr hg)]
        exact letter_b95 w B g vs x A c 95 h hx hl2 h0 h1 hp rfl rfl rfl hg
      · rw [show letM g 95 x = (g, true, 0) by unfold letM; rw [if_neg (by simp [hg]), if_pos hp]; rfl]
        exact letter_c95 w B g vs x A c 95 h hx hl2 h0 h1 hp rfl rfl rfl hg rfl
    rw [show letM g n x = (g, true, 2) from if_pos (.inl ⟨hp, n0, n1, n2⟩)]
    exact letter_a w B g vs x A c n h hx hl2 h0 h1 hp (bne_iff_ne.2 n0) (bne_iff_ne.2 n1) (bne_iff_ne.2 n2)
  · cases hg : goodT x.s x.l
    · rw [show letM g n x = (g, true, 2) from if_pos (.inr hg)]
      exact letter_b w B g vs x A c n h hx hl2 h0 h1 hp hg
    · have c1 : ¬ ((pIs n = false ∧ n ≠ 0 ∧ n ≠ 34 ∧ n ≠ 95) ∨ goodT x.s x.l = false) := by rw [hp, hg]; simp
      have c2 : ¬ pIs n = false := by rw [hp]; simp
      cases ha : pAd n
      · rw [show letM g n x = (putM g x [pAt n, 37], true, 0) by unfold letM; rw [if_neg c1, if_neg c2, if_neg (by rw [ha]; simp)]]
        exact letter_d1 w B g vs x A c n h hx hl h0 h1 hp hg ha
      · cases hi : (gd g (pAt n)).is
        · rw [show letM g n x = (putM g x [pAt n, 37], true, 0) by unfold letM; rw [if_neg c1, if_neg c2, if_neg (by rw [hi]; simp)]]
          exact letter_d2 w B g vs x A c n h hx hl h0 h1 hp hg ha hi
        · have hgl := hG.len (pAt n)
          have hgd := hG.good _ hi
          by_cases he : (catT (gd g (pAt n)).s (gd g (pAt n)).l x.s x.l).2.2 = 0
          · have ht := good_len (cat_good hgd hg he)
            cases hb : (gd g (pAt n)).b
            · rw [show letM g n x = _ by unfold letM; rw [if_neg c1, if_neg c2, if_pos ⟨ha, hi⟩, if_neg (fun e => e he), hb, Bool.false_or]]
              exact letter_d5 w B g vs x A c n h hx hl h0 h1 hp hg ha hi (by omega) hb (by omega) he
            · rw [show letM g n x = _ by unfold letM; rw [if_neg c1, if_neg c2, if_pos ⟨ha, hi⟩, if_neg (fun e => e he), hb, Bool.true_or]]
              exact letter_d4 w B g vs x A c n h hx hl h0 h1 hp hg ha hi (by omega) hb (by omega) he
          · rw [show letM g n x = _ by unfold letM; rw [if_neg c1, if_neg c2, if_pos ⟨ha, hi⟩, if_pos he]]
            exact letter_d3 w B g vs x A c n h hx hl h0 h1 hp hg ha hi (by omega) (bne_iff_ne.2 he)
theorem letM_GG {g : List Hs} (hG : GG g) (n : Int) (x : En) : GG (letM g n x).1 := by
  unfold letM
  split
  · exact hG
  · rename_i c1
    have hg : goodT x.s x.l = true := by
      cases e : goodT x.s x.l
      · exact absurd (.inr e) c1
      · rfl
    split
    · exact hG
    · split
      · rename_i hi
        split
        · exact hG
        · rename_i he
          exact GG.put (cat_good (hG.good _ hi.2) hg (Classical.not_not.1 he)) _ hG
      · exact GG.put hg _ hG
def yankM (g : List Hs) (n : Int) (x : En) : List Hs × Int :=
  if (letM g n x).2.1 = true then ((letM g n x).1, (letM g n x).2.2) else (putM (letM g n x).1 x [0, 37], (letM g n x).2.2)
theorem letM_good {g : List Hs} {n : Int} {x : En} (h : (letM g n x).2.1 = false) : goodT x.s x.l = true ∧ (letM g n x).2.2 = 0 ∧ (letM g n x).1 = g := by
  unfold letM at h ⊢
  split at h
  · cases h
  · rename_i c1
    rw [if_neg c1]
    refine ⟨?_, ?_⟩
    · cases e : goodT x.s x.l
      · exact absurd (.inr e) c1
      · rfl
    · split at h
      · rename_i c2
        rw [if_pos c2]; exact ⟨rfl, rfl⟩
      · split at h
        · split at h <;> cases h
        · cases h
theorem yankM_GG {g : List Hs} (hG : GG g) (n : Int) (x : En) : GG (yankM g n x).1 := by
  unfold yankM
  split
  · exact letM_GG hG n x
  · rename_i c
    exact GG.put (letM_good (by simpa using c)).1 _ (letM_GG hG n x)
abbrev YQ (bs : Nat) (w : World) (B : Nat) (r : Int) (g' : List Hs) (e : Ending) (w' : World) : Prop := e = .returned (.int .i64 r) ∧ (∃ vs', RG bs w' B g' vs') ∧ w.grownBy w' (some B)
/-- What a letter's call leaves, seen from the one who called, who has the entry in a box. -/
theorem letter_box (w : World) (B : Nat) (g : List Hs) (vs : List Value) (x : En) (A : Option Addr) (c : Nat) (n : Int) (h : RG bs w B g vs) (hx : RA w B A c x.l) (hG : GG g) (hl : x.l.length ≤ 100000) (h0 : -2147483648 ≤ n) (h1 : n ≤ 2147483647) :
    Calls Try.prog 21 #[.pointer (some ⟨B, 0, none⟩), .int .i32 n, eV x.s (.slice A x.l.length c) x.b] (w.alloc (.cells #[.string x.s, .slice A x.l.length c, .bool x.b] 33)) fun e w' => e = .returned (.tuple #[.bool (letM g n x).2.1, .int .i64 (letM g n x).2.2]) ∧ (∃ vs', RG bs w' B (letM g n x).1 vs') ∧ w.grownBy w' (some B) ∧ EX w' w.heap.size x.s (.slice A x.l.length c) x.b := by
  have hS := LS.start h hx
  have lB := h.lt
  refine (letter_w _ B g vs x A c n hS.rg hS.ra hG hl h0 h1).mono ?_
  rintro e w' ⟨rfl, h1, h2⟩
  exact ⟨rfl, h1, two_grown (grown_of_below hS.bl _) h2, hS.ex.far h2 (by omega)⟩
set_option maxRecDepth 100000 in
set_option maxHeartbeats 8000000 in
theorem Yank_w (w : World) (B : Nat) (g : List Hs) (vs : List Value) (x : En) (A : Option Addr) (c : Nat) (n : Int) (h : RG bs w B g vs) (hx : RA w B A c x.l) (hG : GG g) (hl : x.l.length ≤ 100000) (h0 : -2147483648 ≤ n) (h1 : n ≤ 2147483647) :
    Calls Try.prog 19 #[.pointer (some ⟨B, 0, none⟩), .int .i32 n, eV x.s (.slice A x.l.length c) x.b] w (YQ bs w B (yankM g n x).2 (yankM g n x).1) := by
  have HLE := Aside0.mk (letter_box w B g vs x A c n h hx hG hl h0 h1)
  have hG2 := letM_GG hG n x
  unfold yankM
  generalize letM g n x = z at *
  obtain ⟨g2, d, e⟩ := z
  dsimp only at HLE hG2 ⊢
  cases d
  · rw [if_neg (by decide)]
    have HPU : Aside0 (∀ (W : World) (vs2 : List Value), w.grownBy W (some B) → RG bs W B g2 vs2 → Calls Try.prog 22 #[.pointer (some ⟨B, 0, none⟩), eV x.s (.slice A x.l.length c) x.b, .slice (some ⟨W.heap.size, 0, none⟩) 2 2] (W.alloc (.cells #[.int .i64 0, .int .i64 37] 3)) fun e w' => e = .returned (.tuple #[]) ∧ (∃ vs', RG bs w' B (putM g2 x [0, 37]) vs') ∧ w.grownBy w' (some B)) := ⟨fun W vs2 hW hr => put_call2 hl 0 37 (by decide) (by decide) hW hr (hx.grown hW)⟩
    clear h hx hG hl hG2
    go_enter Try.func19, Try.ntmps19
    go_wp2_with (first | (go_at_call 21; (with_reducible refine HLE.out.mono ?_); rintro e w2 ⟨rfl, ⟨vs2, hr2⟩, hg2, he2⟩; have HR2 := Aside0.mk hr2; have HG2 := Aside0.mk hg2; have HE2 := Aside0.mk he2; have lp := blk_lt he2.x; obtain ⟨a0, a1, a2, f0, f1, f2⟩ := he2.cells; have lB := hr2.lt; clear hr2 hg2 he2) | (go_at_call 22; (with_reducible refine (HPU.out _ _ HG2.out HR2.out).mono ?_); rintro e w8 ⟨rfl, hr8, hg8⟩; have HF8 := Aside0.mk (⟨hr8, hg8⟩ : _ ∧ _); clear hr8 hg8 a0 a1 a2 f0 f1 f2 lp lB))
    go_ret
    exact ⟨rfl, HF8.out⟩
  · rw [if_pos rfl]
    clear h hx hG hl hG2
    go_enter Try.func19, Try.ntmps19
    go_wp2_with (first | (go_at_call 21; (with_reducible refine HLE.out.mono ?_); rintro e w2 ⟨rfl, ⟨vs2, hr2⟩, hg2, he2⟩; have HR2 := Aside0.mk hr2; have HG2 := Aside0.mk hg2; have HE2 := Aside0.mk he2; have lp := blk_lt he2.x; obtain ⟨a0, a1, a2, f0, f1, f2⟩ := he2.cells; have lB := hr2.lt; clear hr2 hg2 he2))
    go_ret
    exact ⟨rfl, ⟨_, HR2.out⟩, HG2.out⟩
/-- The numbered registers, after m of eight steps. -/
def shM (g : List Hs) : Nat → List Hs
  | 0 => g
  | m + 1 => (shM g m).set (9 - m) (gd (shM g m) (8 - m))
theorem shM_GG {g : List Hs} (hG : GG g) : ∀ m, GG (shM g m)
  | 0 => hG
  | m + 1 => (shM_GG hG m).set _ _ ((shM_GG hG m).good _) ((shM_GG hG m).none _)
def delM (g : List Hs) (n : Int) (x : En) (wide : Bool) : List Hs × Int :=
  if (letM g n x).2.1 = true then ((letM g n x).1, (letM g n x).2.2)
  else if wide = false ∧ x.b = false then (putM (letM g n x).1 x [36, 37], 0)
  else (putM (shM (letM g n x).1 8) x [1, 37], 0)
theorem delM_GG {g : List Hs} (hG : GG g) (n : Int) (x : En) (wide : Bool) : GG (delM g n x wide).1 := by
  unfold delM
  split
  · exact letM_GG hG n x
  · rename_i c
    have hx := (letM_good (by simpa using c)).1
    split
    · exact GG.put hx _ (letM_GG hG n x)
    · exact GG.put hx _ (shM_GG (letM_GG hG n x) 8)
set_option maxRecDepth 100000 in
set_option maxHeartbeats 8000000 in
theorem Delete_1 (w : World) (B : Nat) (g : List Hs) (vs : List Value) (x : En) (A : Option Addr) (c : Nat) (n : Int) (wide : Bool) (h : RG bs w B g vs) (hx : RA w B A c x.l) (hG : GG g) (hl : x.l.length ≤ 100000) (h0 : -2147483648 ≤ n) (h1 : n ≤ 2147483647)
    (hd : (letM g n x).2.1 = true) :
    Calls Try.prog 10 #[.pointer (some ⟨B, 0, none⟩), .int .i32 n, eV x.s (.slice A x.l.length c) x.b, .bool wide] w (YQ bs w B (letM g n x).2.2 (letM g n x).1) := by
  have HLE := Aside0.mk (letter_box w B g vs x A c n h hx hG hl h0 h1)
  generalize letM g n x = z at *
  obtain ⟨g2, d, e⟩ := z
  dsimp only at HLE hd ⊢
  subst hd
  clear h hx hG hl
  go_enter Try.func10, Try.ntmps10
  go_wp2_with (first | (go_at_call 21; (with_reducible refine HLE.out.mono ?_); rintro e w2 ⟨rfl, ⟨vs2, hr2⟩, hg2, he2⟩; have HR2 := Aside0.mk hr2; have HG2 := Aside0.mk hg2; have HE2 := Aside0.mk he2; have lp := blk_lt he2.x; obtain ⟨a0, a1, a2, f0, f1, f2⟩ := he2.cells; have lB := hr2.lt; clear hr2 hg2 he2))
  go_ret
  exact ⟨rfl, ⟨_, HR2.out⟩, HG2.out⟩
set_option maxRecDepth 100000 in
set_option maxHeartbeats 8000000 in
theorem Delete_2 (w : World) (B : Nat) (g : List Hs) (vs : List Value) (x : En) (A : Option Addr) (c : Nat) (n : Int) (h : RG bs w B g vs) (hx : RA w B A c x.l) (hG : GG g) (hl : x.l.length ≤ 100000) (h0 : -2147483648 ≤ n) (h1 : n ≤ 2147483647)
    (hd : (letM g n x).2.1 = false) (hb : x.b = false) :
    Calls Try.prog 10 #[.pointer (some ⟨B, 0, none⟩), .int .i32 n, eV x.s (.slice A x.l.length c) x.b, .bool false] w (YQ bs w B 0 (putM (letM g n x).1 x [36, 37])) := by
  have HLE := Aside0.mk (letter_box w B g vs x A c n h hx hG hl h0 h1)
  generalize letM g n x = z at *
  obtain ⟨g2, d, e⟩ := z
  dsimp only at HLE hd ⊢
  subst hd
  have HPU : Aside0 (∀ (W : World) (vs2 : List Value), w.grownBy W (some B) → RG bs W B g2 vs2 → Calls Try.prog 22 #[.pointer (some ⟨B, 0, none⟩), eV x.s (.slice A x.l.length c) x.b, .slice (some ⟨W.heap.size, 0, none⟩) 2 2] (W.alloc (.cells #[.int .i64 36, .int .i64 37] 3)) fun e w' => e = .returned (.tuple #[]) ∧ (∃ vs', RG bs w' B (putM g2 x [36, 37]) vs') ∧ w.grownBy w' (some B)) := ⟨fun W vs2 hW hr => put_call2 hl 36 37 (by decide) (by decide) hW hr (hx.grown hW)⟩
  clear h hx hG hl
  obtain ⟨xs, xl, xb⟩ := x
  dsimp only at hb HPU HLE ⊢
  subst hb
  go_enter Try.func10, Try.ntmps10
  go_wp2_with (first | (go_at_call 21; (with_reducible refine HLE.out.mono ?_); rintro e w2 ⟨rfl, ⟨vs2, hr2⟩, hg2, he2⟩; have HR2 := Aside0.mk hr2; have HG2 := Aside0.mk hg2; have HE2 := Aside0.mk he2; have lp := blk_lt he2.x; obtain ⟨a0, a1, a2, f0, f1, f2⟩ := he2.cells; have lB := hr2.lt; clear hr2 hg2 he2) | (go_at_call 22; (with_reducible refine (HPU.out _ _ HG2.out HR2.out).mono ?_); rintro e w8 ⟨rfl, hr8, hg8⟩; have HF8 := Aside0.mk (⟨hr8, hg8⟩ : _ ∧ _); clear hr8 hg8 a0 a1 a2 f0 f1 f2 lp lB))
  go_ret
  exact ⟨rfl, HF8.out⟩

end Go.Proofs.Ytbcbfmhcoemnpaa.Ext
