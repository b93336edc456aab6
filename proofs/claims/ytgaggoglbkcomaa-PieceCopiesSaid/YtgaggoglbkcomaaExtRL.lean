/- The document's good texts: Total, Bytes, Pack and Same in plain words. -/
import Derived.Test.YtgaggoglbkcomaaExtRK
import Derived.Test.YtgaggoglbkcomaaXRRx2
import Derived.Test.YtgaggoglbkcomaaXRRx3
import Derived.Test.YtgaggoglbkcomaaXRRx4
import Derived.Test.YtgaggoglbkcomaaXRRx5
import Derived.Test.YtgaggoglbkcomaaXRRx0
import Derived.Test.YtgaggoglbkcomaaWMore
import Derived.WalkKit
import Derived.WalkMore
import Derived.Below
import Derived.KernelRfl
import Derived.LoopTactic
import Derived.Deep.RegionWith
import Derived.Deep.RegionHeld3
import Derived.IntWalk
import Derived.Deep.DeepCutAuto
import Derived.Deep.CutBlock
import Derived.BigQuiet
import Derived.Laws.RangeString
import Derived.Laws.RangeAny
import Derived.Laws.Rows
import Derived.Laws.Runes
import Derived.Lib.OthersKept
import Derived.OpenShut
set_option linter.unusedVariables false
set_option linter.unusedSimpArgs false
namespace Go.Proofs.Ytgaggoglbkcomaa.Ext
open Go.RowKit Go.Lib Go.Proofs.YtgaggoglbkcomaaW.PrintWords Go.Proofs.YtgaggoglbkcomaaW.PrintMore Go.Proofs.Ytgaggoglbkcomaa.XRR

deriving instance DecidableEq for S29
def pkF (out : List Rn) (xs : List Int) : List Rn := xs.foldl (fun o b => addR o ⟨b, 1⟩) out
theorem pkF_ok : ∀ (xs : List Int) (out : List Rn), pk out → pk (pkF out xs) ∧ bytesR (pkF out xs) = bytesR out ++ xs
  | [], out, h => ⟨h, (List.append_nil _).symm⟩
  | x :: xs, out, h => by
    obtain ⟨h1, h2⟩ := pkF_ok xs (addR out ⟨x, 1⟩) (pk_addR _ _ h)
    refine ⟨h1, h2.trans ?_⟩
    rw [bytes_addR _ _ h, List.append_assoc]
    rfl
theorem dTotal_l (l : List Rn) (hl : l.length ≤ 9223372036854775807) : ∀ (c j : Nat) (n : Int), j + c = l.length → 0 ≤ n → n ≤ 4096 → ∀ k, c + 1 ≤ k → bureauref03_Total.l0 k l n j = some (totG n (l.drop j)) := by
  intro c
  induction c with
  | zero =>
    intro j n hj h0 h1 k hk
    obtain ⟨k, rfl⟩ : ∃ k', k = k' + 1 := ⟨k - 1, by omega⟩
    unfold bureauref03_Total.l0
    rw [if_neg (by omega), List.drop_of_length_le (by omega)]
    rfl
  | succ c ih =>
    intro j n hj h0 h1 k hk
    obtain ⟨k, rfl⟩ : ∃ k', k = k' + 1 := ⟨k - 1, by omega⟩
    have hjl : j < l.length := by omega
    have h2 : wrap64 ((j : Int) + 1) = ((j + 1 : Nat) : Int) := by rw [w64 _ (by omega)]; simp
    have h3 : wrap64 (4096 - n) = 4096 - n := w64 _ (by omega)
    unfold bureauref03_Total.l0
    rw [if_pos (by omega), if_pos (by omega), rd43 l j hjl, h2, h3, List.drop_eq_getElem_cons hjl]
    by_cases c1 : l[j].f1 > 4096 - n
    · rw [if_pos c1]; unfold totG; rw [if_pos c1]
    · rw [if_neg c1]
      unfold totG
      rw [if_neg c1]
      by_cases c2 : l[j].f1 > 0
      · rw [if_pos c2, w64 _ (by omega), ih (j + 1) (n + l[j].f1) (by omega) (by omega) (by omega) k (by omega), show max l[j].f1 0 = l[j].f1 by omega]
      · rw [if_neg c2, ih (j + 1) n (by omega) h0 h1 k (by omega), show n + max l[j].f1 0 = n by omega]
theorem dTotal (l : List Rn) (hl : l.length ≤ 9223372036854775807) (k : Nat) (hk : l.length + 1 ≤ k) : bureauref03_Total.f k l = some (totG 0 l) :=
  dTotal_l l hl l.length 0 0 (by omega) (by decide) (by decide) k hk
theorem dBytes_i (l : List Rn) (hl : l.length ≤ 9223372036854775807) (j : Nat) (hj : j < l.length) (k : Nat) (res : Option (List Int)) : ∀ (c : Nat) (n : Nat) (out : List Int), l[j].f1.toNat = n + c → l[j].f1 ≤ 5000 → out.length + c ≤ 100000 →
    (∀ k', k ≤ k' → bureauref03_Bytes.l0 k' l (out ++ List.replicate c l[j].f0) ((j + 1 : Nat) : Int) = res) → ∀ k', k + c + 1 ≤ k' → bureauref03_Bytes.l1 k' l out j n = res := by
  intro c
  induction c with
  | zero =>
    intro n out hn h5 ho H k' hk
    obtain ⟨k', rfl⟩ : ∃ k2, k' = k2 + 1 := ⟨k' - 1, by omega⟩
    have h2 : wrap64 ((j : Int) + 1) = ((j + 1 : Nat) : Int) := by rw [w64 _ (by omega)]; simp
    unfold bureauref03_Bytes.l1
    rw [if_pos (by omega), if_pos (by omega), rd43 l j hj, if_neg (by omega), h2]
    have := H k' (by omega)
    rwa [List.replicate_zero, List.append_nil] at this
  | succ c ih =>
    intro n out hn h5 ho H k' hk
    obtain ⟨k', rfl⟩ : ∃ k2, k' = k2 + 1 := ⟨k' - 1, by omega⟩
    have h2 : wrap64 ((n : Int) + 1) = ((n + 1 : Nat) : Int) := by rw [w64 _ (by omega)]; simp
    unfold bureauref03_Bytes.l1
    rw [if_pos (by omega), if_pos (by omega), rd43 l j hj, if_pos (by omega), if_pos (by omega), h2]
    refine ih (n + 1) (out ++ [l[j].f0]) (by omega) h5 (by rw [List.length_append, List.length_singleton]; omega) (fun k2 hk2 => ?_) k' (by omega)
    rw [List.append_assoc, List.singleton_append, ← List.replicate_succ]
    exact H k2 hk2
theorem dBytes_l (l : List Rn) (hl : l.length ≤ 9223372036854775807) (h5 : ∀ r, r ∈ l → r.f1 ≤ 5000) : ∀ (c j : Nat) (out : List Int), j + c = l.length → out.length + nB (l.drop j) ≤ 100000 → ∀ k, 2 * c + nB (l.drop j) + 1 ≤ k → bureauref03_Bytes.l0 k l out j = some (out ++ bytesR (l.drop j)) := by
  intro c
  induction c with
  | zero =>
    intro j out hj ho k hk
    obtain ⟨k, rfl⟩ : ∃ k', k = k' + 1 := ⟨k - 1, by omega⟩
    unfold bureauref03_Bytes.l0
    rw [if_neg (by omega), List.drop_of_length_le (by omega), bytesR_nil, List.append_nil]
  | succ c ih =>
    intro j out hj ho k hk
    obtain ⟨k, rfl⟩ : ∃ k', k = k' + 1 := ⟨k - 1, by omega⟩
    have hjl : j < l.length := by omega
    rw [List.drop_eq_getElem_cons hjl, nB_cons] at hk ho
    unfold bureauref03_Bytes.l0
    rw [if_pos (by omega), List.drop_eq_getElem_cons hjl, bytesR_cons]
    refine dBytes_i l hl j hjl (2 * c + nB (l.drop (j + 1)) + 1) _ l[j].f1.toNat 0 out (by omega) (h5 _ (List.getElem_mem hjl)) (by omega) (fun k' hk' => ?_) k (by omega)
    rw [ih (j + 1) _ (by omega) (by rw [List.length_append, List.length_replicate]; omega) k' hk', List.append_assoc]
theorem dBytes (l : List Rn) (hl : l.length ≤ 9223372036854775807) (h5 : ∀ r, r ∈ l → r.f1 ≤ 5000) (hn : nB l ≤ 100000) (k : Nat) (hk : 2 * l.length + nB l + 1 ≤ k) : bureauref03_Bytes.f k l = some (bytesR l) := by
  unfold bureauref03_Bytes.f
  exact dBytes_l l hl h5 l.length 0 [] (by omega) (by simpa using hn) k (by simpa using hk)
theorem dPack_l (xs : List Int) (hx : xs.length ≤ 100000) : ∀ (c j : Nat) (out : List Rn), j + c = xs.length → out.length ≤ j → (∀ r, r ∈ out → 1 ≤ r.f1 ∧ r.f1 ≤ j) → ∀ k, c + 1 ≤ k → bureauref03_Pack.l0 k xs out j = some (pkF out (xs.drop j)) := by
  intro c
  induction c with
  | zero =>
    intro j out hj ho hv k hk
    obtain ⟨k, rfl⟩ : ∃ k', k = k' + 1 := ⟨k - 1, by omega⟩
    unfold bureauref03_Pack.l0
    rw [if_neg (by omega), List.drop_of_length_le (by omega)]
    rfl
  | succ c ih =>
    intro j out hj ho hv k hk
    obtain ⟨k, rfl⟩ : ∃ k', k = k' + 1 := ⟨k - 1, by omega⟩
    have hjl : j < xs.length := by omega
    have h2 : wrap64 ((j : Int) + 1) = ((j + 1 : Nat) : Int) := by rw [w64 _ (by omega)]; simp
    have hrd : rd xs (j : Int) = xs[j] := by simp [rd, List.getD_eq_getElem?_getD, List.getElem?_eq_getElem hjl]
    have estep : pkF out (xs.drop j) = pkF (addR out ⟨xs[j], 1⟩) (xs.drop (j + 1)) := by rw [List.drop_eq_getElem_cons hjl]; rfl
    have hb : ∀ r, r ∈ addR out ⟨xs[j], 1⟩ → 1 ≤ r.f1 ∧ r.f1 ≤ ((j + 1 : Nat) : Int) := by
      intro r hr
      unfold addR at hr
      rw [if_neg (by simp only; omega)] at hr
      cases e : out.getLast? with
      | none =>
        rw [e] at hr
        simp only [List.mem_append, List.mem_singleton] at hr
        rcases hr with hr | hr
        · have := hv r hr; omega
        · rw [hr]; simp only; omega
      | some x =>
        rw [e] at hr
        simp only at hr
        have hxm := hv x (List.mem_of_getLast? e)
        split at hr
        · simp only [List.mem_append, List.mem_singleton] at hr
          rcases hr with hr | hr
          · have := hv r ((List.dropLast_sublist out).subset hr); omega
          · rw [hr]; simp only; omega
        · simp only [List.mem_append, List.mem_singleton] at hr
          rcases hr with hr | hr
          · have := hv r hr; omega
          · rw [hr]; simp only; omega
    rw [estep]
    unfold bureauref03_Pack.l0
    rw [if_pos (by omega), h2]
    by_cases hemp : out.length = 0
    · have ho2 : out = [] := List.eq_nil_of_length_eq_zero hemp
      subst ho2
      have e1 : addR [] (⟨xs[j], 1⟩ : Rn) = [] ++ [⟨xs[j], 1⟩] := addR_new (by simp) (fun x hx => by cases hx)
      rw [e1] at hb ⊢
      rw [if_neg (by simp), if_pos (by omega), if_pos (by simp), hrd]
      exact ih (j + 1) _ (by omega) (by simp) hb k (by omega)
    · obtain ⟨n, hn⟩ : ∃ n, out.length = n + 1 := ⟨out.length - 1, by omega⟩
      have hnl : n < out.length := by omega
      have hw : wrap64 ((out.length : Int) - 1) = (n : Int) := by rw [w64 _ (by omega)]; omega
      have hxv := hv _ (List.getElem_mem hnl)
      rw [if_pos (by omega), hw, if_pos (by omega), if_pos (by omega), if_pos (by omega), rd43 out n hnl, hrd]
      by_cases hL : out[n].f0 = xs[j]
      · have e1 : addR out ⟨xs[j], 1⟩ = out.set n ⟨out[n].f0, out[n].f1 + 1⟩ := addR_bump hn (by simp) hL
        rw [if_pos hL, w64 _ (by omega), Int.toNat_natCast]
        rw [e1] at hb ⊢
        exact ih (j + 1) _ (by omega) (by rw [List.length_set]; omega) hb k (by omega)
      · have e1 : addR out ⟨xs[j], 1⟩ = out ++ [⟨xs[j], 1⟩] := addR_new (by simp) (fun x hx => by rw [getLast_get hn] at hx; cases hx; exact hL)
        rw [if_neg hL, if_pos (by omega)]
        rw [e1] at hb ⊢
        exact ih (j + 1) _ (by omega) (by rw [List.length_append, List.length_singleton]; omega) hb k (by omega)
theorem dPack (xs : List Int) (hx : xs.length ≤ 100000) (k : Nat) (hk : xs.length + 1 ≤ k) : bureauref03_Pack.f k xs = some (pkF [] xs) :=
  dPack_l xs hx xs.length 0 [] (by omega) (by simp) (fun r hr => by cases hr) k hk
theorem dSame_l (a b : List Rn) (hl : a.length ≤ 9223372036854775807) (he : a.length = b.length) : ∀ (c j : Nat), j + c = a.length → ∀ k, c + 1 ≤ k → bureauref03_Same.l0 k a b j = some (decide (a.drop j = b.drop j)) := by
  intro c
  induction c with
  | zero =>
    intro j hj k hk
    obtain ⟨k, rfl⟩ : ∃ k', k = k' + 1 := ⟨k - 1, by omega⟩
    unfold bureauref03_Same.l0
    rw [if_neg (by omega), List.drop_of_length_le (by omega), List.drop_of_length_le (by omega)]
    simp
  | succ c ih =>
    intro j hj k hk
    obtain ⟨k, rfl⟩ : ∃ k', k = k' + 1 := ⟨k - 1, by omega⟩
    have hja : j < a.length := by omega
    have hjb : j < b.length := by omega
    have h2 : wrap64 ((j : Int) + 1) = ((j + 1 : Nat) : Int) := by rw [w64 _ (by omega)]; simp
    unfold bureauref03_Same.l0
    rw [if_pos (by omega), if_pos (by omega), if_pos (by omega), rd43 a j hja, rd43 b j hjb, h2, List.drop_eq_getElem_cons hja, List.drop_eq_getElem_cons hjb]
    generalize a[j] = x
    generalize b[j] = y
    obtain ⟨x0, x1⟩ := x
    obtain ⟨y0, y1⟩ := y
    simp only [List.cons.injEq, S29.mk.injEq]
    by_cases e0 : x0 = y0
    · by_cases e1 : x1 = y1
      · subst e0; subst e1
        rw [if_neg (by simp), ih (j + 1) (by omega) k (by omega)]
        simp
      · rw [if_pos (by simp [e1])]
        simp [e1]
    · rw [if_pos (by simp [e0])]
      simp [e0]
theorem dSame (a b : List Rn) (hl : a.length ≤ 9223372036854775807) (k : Nat) (hk : a.length + 1 ≤ k) : bureauref03_Same.f k a b = some (decide (a = b)) := by
  unfold bureauref03_Same.f
  by_cases he : a.length = b.length
  · rw [if_pos (by omega)]
    exact dSame_l a b hl he a.length 0 (by omega) k hk
  · rw [if_neg (by omega), decide_eq_false (fun e => he (by rw [e]))]
theorem totG_nB : ∀ (l : List Rn) (n : Int), 0 ≤ n → totG n l ≤ 4096 → n + nB l ≤ 4096 ∨ n > 4096
  | [], n, h0, h => by rw [nB_nil]; unfold totG at h; left; omega
  | r :: l, n, h0, h => by
    unfold totG at h
    by_cases c : r.f1 > 4096 - n
    · rw [if_pos c] at h; omega
    · rw [if_neg c] at h
      have := totG_nB l (n + max r.f1 0) (by omega) h
      rw [nB_cons]
      omega
/-- The document's Good is the program's. -/
theorem dGood3 (l : List Rn) (hl : l.length ≤ 9223372036854775807) (k : Nat) (hk : 2 * l.length + 5000 ≤ k) : bureauref03_Good.f k l = some (goodB l) := by
  unfold bureauref03_Good.f
  rw [dTotal l hl k (by omega), Option.bind_some]
  by_cases c : totG 0 l > 4096
  · rw [if_pos c]
    cases e : goodB l
    · rfl
    · have := good_tot e; have := good_n e; omega
  · rw [if_neg c]
    have hn : nB l ≤ 4096 := by have := totG_nB l 0 (by decide) (by omega); omega
    have h5 : ∀ r, r ∈ l → r.f1 ≤ 5000 := fun r hr => by have := val_nB r hr; omega
    have hbl : (bytesR l).length = nB l := rfl
    rw [dBytes l hl h5 (by omega) k (by omega), Option.bind_some, dPack (bytesR l) (by omega) k (by omega), Option.bind_some, dSame _ _ hl k (by omega), Option.bind_some]
    obtain ⟨p1, p2⟩ := pkF_ok (bytesR l) [] trivial
    rw [bytesR_nil, List.nil_append] at p2
    congr 1
    cases e : goodB l
    · refine decide_eq_false (fun h => ?_)
      rw [← h] at p1
      rw [(goodB_iff l).2 ⟨p1, hn⟩] at e
      cases e
    · exact decide_eq_true (pk_inj (good_pk e) p1 p2.symm)
theorem dGood4 (s : ByteArray) (l : List Rn) (hl : l.length ≤ 9223372036854775807) (k : Nat) (hk : 2 * l.length + 5000 ≤ k) : bureauref04_Good.f k s l = some (goodT s l) := by
  unfold bureauref04_Good.f goodT
  rw [dGood3 l hl k hk, Option.bind_some]
  cases e : goodB l
  · rfl
  · rw [if_pos rfl, dTotal l hl k (by omega), Option.bind_some, good_tot e]
    rfl

end Go.Proofs.Ytgaggoglbkcomaa.Ext
