/- The bytes that go with any whole lines are the document's: for every text and all pairs of numbers. -/
import Derived.Test.YthkhjcpijecokaaDoorXLineWholex1
import Derived.Test.YthkhjcpijecokaaDoorExt06K
import Derived.OpenShut
set_option linter.unusedVariables false
set_option linter.unusedSimpArgs false
namespace Go.Proofs.YthkhjcpijecokaaDoor.Pure
open Go.RowKit Go.Proofs.YthkhjcpijecokaaDoor.XLineWhole Go.Proofs.YthkhjcpijecokaaDoorW.PrintWords Go.Proofs.YthkhjcpijecokaaDoorW.PrintMore Go.Proofs.YthkhjcpijecokaaDoor.Ext

theorem alive_eq : bureaulaw06_alive.f = some true := by decide +kernel
theorem rd_nat (xs : List Int) (i : Nat) (h : i < xs.length) : rd xs (i : Int) = xs[i] := by
  unfold rd
  rw [Int.toNat_natCast, List.getD_eq_getElem?_getD, List.getElem?_eq_getElem h]
  rfl
theorem rends_loop (s : ByteArray) (hs : s.size < 1000000) : ∀ (c i k : Nat) (acc : List Int), i + c = s.size → acc.length ≤ i →
    bureauref06_Ends.l0 (c + k + 1) s acc (i : Int) = some (acc ++ (eL (s.data.toList.drop i) i).map (fun x : Nat => (x : Int))) := by
  intro c
  induction c with
  | zero =>
    intro i k acc hi ha
    have hlen : acc.length < 17592186044416 := by omega
    rw [show 0 + k + 1 = k + 1 by omega, bureauref06_Ends.l0, if_neg (by omega), if_pos hlen, List.drop_of_length_le (by rw [← size_list]; omega)]
    show _ = some (acc ++ [(i : Int)])
    rw [show s.size = i by omega]
  | succ c ih =>
    intro i k acc hi ha
    have hlen : acc.length < 17592186044416 := by omega
    have hlt : i < s.data.toList.length := by rw [← size_list]; omega
    have hw : wrap64 ((i : Int) + 1) = ((i + 1 : Nat) : Int) := by rw [wrapZ _ (by omega) (by omega)]; omega
    have hgb := gb_list s i _ (List.getElem?_eq_getElem hlt)
    rw [show c + 1 + k + 1 = (c + k + 1) + 1 by omega, bureauref06_Ends.l0, if_pos (by omega), if_pos (by omega), bt_gb s i (by omega), hgb, if_pos hlen, hw, List.drop_eq_getElem_cons hlt]
    by_cases h10 : s.data.toList[i] = 10
    · rw [h10, eL_hit, if_pos (by decide), ih (i + 1) k _ (by omega) (by simp; omega), List.map_cons, List.append_assoc]
      rfl
    · have hne : ¬ ((s.data.toList[i].toNat : Nat) : Int) = 10 := by
        intro h
        apply h10
        apply UInt8.toNat_inj.1
        show s.data.toList[i].toNat = 10
        omega
      rw [if_neg hne, eL_miss h10, ih (i + 1) k _ (by omega) (by omega)]
def endsI (s : ByteArray) : List Int := (ends s).map (fun x : Nat => (x : Int))
theorem endsI_len (s : ByteArray) : (endsI s).length = nE s := by unfold endsI nE; simp
theorem rends_eq (s : ByteArray) (hs : s.size < 1000000) (k : Nat) : bureauref06_Ends.f (s.size + k + 1) s = some (endsI s) := by
  unfold bureauref06_Ends.f
  have := rends_loop s hs s.size 0 k [] (by omega) (by simp)
  rw [show (0 : Int) = ((0 : Nat) : Int) from rfl, this]
  rfl
theorem endsI_get (s : ByteArray) (i : Nat) (h : i < nE s) : rd (endsI s) (i : Int) = ((bT s i : Nat) : Int) := by
  rw [rd_nat _ i (by rw [endsI_len]; exact h)]
  unfold endsI bT
  rw [List.getElem_map, List.getD_eq_getElem?_getD, List.getElem?_eq_getElem (show i < (ends s).length from h)]
  rfl
theorem rcount_eq (s : ByteArray) (hs : s.size < 1000000) (k : Nat) : bureauref06_Count.f (s.size + k + 1) s = some (nE s : Int) := by
  unfold bureauref06_Count.f
  rw [rends_eq s hs, Option.bind_some, endsI_len]
theorem rbounds_eq (s : ByteArray) (hs : s.size < 1000000) (n : Int) (k : Nat) : bureauref06_Bounds.f (s.size + k + 2) s n = some (boundsZ s n) := by
  have hn := nE_le s
  have hp := nE_pos s
  unfold bureauref06_Bounds.f boundsZ
  rw [show s.size + k + 2 = (s.size + (k + 1)) + 1 by omega, rends_eq s hs (k + 1), Option.bind_some, endsI_len]
  by_cases h0 : n < 0
  · rw [if_pos h0, bureauref06_Bounds.j0, if_pos rfl, if_neg (by omega)]
  rw [if_neg h0]
  by_cases h1 : n ≥ (nE s : Int)
  · rw [decide_eq_true h1, bureauref06_Bounds.j0, if_pos rfl, if_neg (by omega)]
  rw [decide_eq_false h1, bureauref06_Bounds.j0, if_neg (by decide), if_pos (c := 0 ≤ n ∧ _) (by omega)]
  obtain ⟨m, rfl⟩ : ∃ m : Nat, n = (m : Int) := ⟨n.toNat, by omega⟩
  rw [Int.toNat_natCast, endsI_len]
  cases m with
  | zero =>
    rw [if_pos (show ((0 : Nat) : Int) = 0 from rfl), if_pos (by omega), show (0 : Int) = ((0 : Nat) : Int) from rfl, endsI_get s 0 (by omega)]
    rfl
  | succ m =>
    have hw : wrap64 (((m + 1 : Nat) : Int) - 1) = (m : Int) := by rw [wrapZ _ (by omega) (by omega)]; omega
    have hle := bT_le s m (by unfold nE at *; omega)
    rw [if_neg (by omega), hw, if_pos (by omega), if_pos (by omega), if_pos (by omega), if_pos (by omega), endsI_get s m (by omega), endsI_get s (m + 1) (by omega), wrapZ _ (by omega) (by omega)]
    rfl
theorem rwhole_eq (s : ByteArray) (hs : s.size < 1000000) (a b : Int) (k : Nat) : bureauref06_Whole.f (s.size + k + 3) s a b = some (wholeZ s a b) := by
  have hn := nE_le s
  have hp := nE_pos s
  unfold bureauref06_Whole.f wholeZ
  rw [show s.size + k + 3 = (s.size + (k + 2)) + 1 by omega, rcount_eq s hs (k + 2), Option.bind_some]
  by_cases h0 : a < 0
  · rw [if_pos h0, bureauref06_Whole.j0, if_pos rfl, if_pos (Or.inl h0)]
  rw [if_neg h0]
  by_cases h1 : b < a
  · rw [if_pos h1, bureauref06_Whole.j0, if_pos rfl, if_pos (Or.inr (Or.inl h1))]
  rw [if_neg h1]
  by_cases h2 : b ≥ (nE s : Int)
  · rw [decide_eq_true h2, bureauref06_Whole.j0, if_pos rfl, if_pos (Or.inr (Or.inr h2))]
  rw [decide_eq_false h2, bureauref06_Whole.j0, if_neg (by decide), if_neg (c := a < 0 ∨ _) (by rintro (h | h | h); exact h0 h; exact h1 h; exact h2 h)]
  obtain ⟨p, rfl⟩ : ∃ m : Nat, a = (m : Int) := ⟨a.toNat, by omega⟩
  obtain ⟨q, rfl⟩ : ∃ m : Nat, b = (m : Int) := ⟨b.toNat, by omega⟩
  have hw : wrap64 ((q : Int) + 1) = ((q + 1 : Nat) : Int) := by rw [wrapZ _ (by omega) (by omega)]; omega
  have hB1 := rbounds_eq s hs (p : Int) k
  have hB2 := rbounds_eq s hs ((q + 1 : Nat) : Int) k
  have hp2 := (bF_tail s p (by unfold nE at *; omega)).1
  rw [show s.size + k + 2 = s.size + (k + 2) by omega] at hB1 hB2
  rw [hB1, Option.bind_some, hw, Int.toNat_natCast, Int.toNat_natCast]
  have hz1 : (boundsZ s (p : Int)).1 = (bF s p : Int) := by unfold boundsZ; rw [if_pos (by omega), Int.toNat_natCast]
  have hlast := bT_last s q (by unfold nE at *; omega)
  by_cases h3 : q + 1 < nE s
  · have hz2 : (boundsZ s ((q + 1 : Nat) : Int)).1 = (bT s q : Int) + 1 := by
      unfold boundsZ
      rw [if_pos (by omega), Int.toNat_natCast]
      rfl
    rw [if_pos (by omega), hB2, Option.bind_some, if_pos (hlast.2 h3), hz1, hz2]
  · have ht : bT s q = s.size := by
      have h4 := (bT_le s q (by unfold nE at *; omega)).2
      have h5 : ¬ bT s q < s.size := fun h => h3 (hlast.1 h)
      omega
    rw [if_neg (by omega), if_neg (fun h => h3 (hlast.1 h)), hz1, ht]
    by_cases h4 : (p : Int) > 0
    · rw [if_pos h4, if_pos h4, wrapZ _ (by omega) (by omega)]
    · rw [if_neg h4, if_neg h4]
theorem LineWhole : bureaulaw06_LineWhole.Pure := by
  intro s a b _ _ _
  refine ⟨s.size + 0 + 3, ?_⟩
  unfold bureaulaw06_LineWhole.f
  rw [alive_eq, Option.bind_some, if_pos rfl]
  by_cases hs : (s.size : Int) > 2048
  · rw [if_pos hs]
  have h1 : line_Whole.f s a b = some (wholeZ s a b) := by unfold line_Whole.f; rw [if_pos (by omega)]
  rw [if_neg hs, h1, rwhole_eq s (by omega) a b 0, Option.bind_some, Option.bind_some, if_pos rfl, if_pos rfl]
  simp

end Go.Proofs.YthkhjcpijecokaaDoor.Pure
