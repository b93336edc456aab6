/- Where any line begins and ends is the document's: for every text and every number. -/
import Derived.Test.YthkhjcpijecokaaDoorXLineBoundsx1
import Derived.Test.YthkhjcpijecokaaDoorExt06K
import Derived.OpenShut
set_option linter.unusedVariables false
set_option linter.unusedSimpArgs false
namespace Go.Proofs.YthkhjcpijecokaaDoor.Pure
open Go.RowKit Go.Proofs.YthkhjcpijecokaaDoor.XLineBounds Go.Proofs.YthkhjcpijecokaaDoorW.PrintWords Go.Proofs.YthkhjcpijecokaaDoorW.PrintMore Go.Proofs.YthkhjcpijecokaaDoor.Ext

theorem alive_eq : bureaulaw06_alive.f = some true := by decide +kernel
theorem rd_nat (xs : List Int) (i : Nat) (h : i < xs.length) : rd xs (i : Int) = xs[i] := by
  unfold rd
  rw [Int.toNat_natCast, List.getD_eq_getElem?_getD, List.getElem?_eq_getElem h]
  rfl
theorem rends_loop (s : ByteArray) (hs : s.size < 1000000) : ∀ (c i k : Nat) (acc : List Int), i + c = s.size → acc.length ≤ i →
    bureauref06_Ends.l0 (c + k + 1) s acc (i : Int) = some (acc ++ (eL (s.data.toList.drop i) i).map (fun x : Nat => (x : Int))) := by
  intro c
  induction c with
  | zero =>
    intro i k acc hi ha
    have hlen : acc.length < 17592186044416 := by omega
    rw [show 0 + k + 1 = k + 1 by omega, bureauref06_Ends.l0, if_neg (by omega), if_pos hlen, List.drop_of_length_le (by rw [← size_list]; omega)]
    show _ = some (acc ++ [(i : Int)])
    rw [show s.size = i by omega]
  | succ c ih =>
    intro i k acc hi ha
    have hlen : acc.length < 17592186044416 := by omega
    have hlt : i < s.data.toList.length := by rw [← size_list]; omega
    have hw : wrap64 ((i : Int) + 1) = ((i + 1 : Nat) : Int) := by rw [wrapZ _ (by omega) (by omega)]; omega
    have hgb := gb_list s i _ (List.getElem?_eq_getElem hlt)
    rw [show c + 1 + k + 1 = (c + k + 1) + 1 by omega, bureauref06_Ends.l0, if_pos (by omega), if_pos (by omega), bt_gb s i (by omega), hgb, if_pos hlen, hw, List.drop_eq_getElem_cons hlt]
    by_cases h10 : s.data.toList[i] = 10
    · rw [h10, eL_hit, if_pos (by decide), ih (i + 1) k _ (by omega) (by simp; omega), List.map_cons, List.append_assoc]
      rfl
    · have hne : ¬ ((s.data.toList[i].toNat : Nat) : Int) = 10 := by
        intro h
        apply h10
        apply UInt8.toNat_inj.1
        show s.data.toList[i].toNat = 10
        omega
      rw [if_neg hne, eL_miss h10, ih (i + 1) k _ (by omega) (by omega)]
def endsI (s : ByteArray) : List Int := (ends s).map (fun x : Nat => (x : Int))
theorem endsI_len (s : ByteArray) : (endsI s).length = nE s := by unfold endsI nE; simp
theorem rends_eq (s : ByteArray) (hs : s.size < 1000000) (k : Nat) : bureauref06_Ends.f (s.size + k + 1) s = some (endsI s) := by
  unfold bureauref06_Ends.f
  have := rends_loop s hs s.size 0 k [] (by omega) (by simp)
  rw [show (0 : Int) = ((0 : Nat) : Int) from rfl, this]
  rfl
theorem endsI_get (s : ByteArray) (i : Nat) (h : i < nE s) : rd (endsI s) (i : Int) = ((bT s i : Nat) : Int) := by
  rw [rd_nat _ i (by rw [endsI_len]; exact h)]
  unfold endsI bT
  rw [List.getElem_map, List.getD_eq_getElem?_getD, List.getElem?_eq_getElem (show i < (ends s).length from h)]
  rfl
theorem rbounds_eq (s : ByteArray) (hs : s.size < 1000000) (n : Int) (k : Nat) : bureauref06_Bounds.f (s.size + k + 2) s n = some (boundsZ s n) := by
  have hn := nE_le s
  have hp := nE_pos s
  unfold bureauref06_Bounds.f boundsZ
  rw [show s.size + k + 2 = (s.size + (k + 1)) + 1 by omega, rends_eq s hs (k + 1), Option.bind_some, endsI_len]
  by_cases h0 : n < 0
  · rw [if_pos h0, bureauref06_Bounds.j0, if_pos rfl, if_neg (by omega)]
  rw [if_neg h0]
  by_cases h1 : n ≥ (nE s : Int)
  · rw [decide_eq_true h1, bureauref06_Bounds.j0, if_pos rfl, if_neg (by omega)]
  rw [decide_eq_false h1, bureauref06_Bounds.j0, if_neg (by decide), if_pos (c := 0 ≤ n ∧ _) (by omega)]
  obtain ⟨m, rfl⟩ : ∃ m : Nat, n = (m : Int) := ⟨n.toNat, by omega⟩
  rw [Int.toNat_natCast, endsI_len]
  cases m with
  | zero =>
    rw [if_pos (show ((0 : Nat) : Int) = 0 from rfl), if_pos (by omega), show (0 : Int) = ((0 : Nat) : Int) from rfl, endsI_get s 0 (by omega)]
    rfl
  | succ m =>
    have hw : wrap64 (((m + 1 : Nat) : Int) - 1) = (m : Int) := by rw [wrapZ _ (by omega) (by omega)]; omega
    have hle := bT_le s m (by unfold nE at *; omega)
    rw [if_neg (by omega), hw, if_pos (by omega), if_pos (by omega), if_pos (by omega), if_pos (by omega), endsI_get s m (by omega), endsI_get s (m + 1) (by omega), wrapZ _ (by omega) (by omega)]
    rfl
theorem LineBounds : bureaulaw06_LineBounds.Pure := by
  intro s n _ _
  refine ⟨s.size + 0 + 2, ?_⟩
  unfold bureaulaw06_LineBounds.f
  rw [alive_eq, Option.bind_some, if_pos rfl]
  by_cases hs : (s.size : Int) > 2048
  · rw [if_pos hs]
  have h1 : line_Bounds.f s n = some (boundsZ s n) := by unfold line_Bounds.f; rw [if_pos (by omega)]
  rw [if_neg hs, h1, rbounds_eq s (by omega) n 0, Option.bind_some, Option.bind_some, if_pos rfl, if_pos rfl]
  simp

end Go.Proofs.YthkhjcpijecokaaDoor.Pure
