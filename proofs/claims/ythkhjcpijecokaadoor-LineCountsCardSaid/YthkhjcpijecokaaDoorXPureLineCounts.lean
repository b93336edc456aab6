/- How many lines any bytes have, and in which one any place lies, is the document's: for every text and every place. -/
import Derived.Test.YthkhjcpijecokaaDoorXLineCountsx1
import Derived.Test.YthkhjcpijecokaaDoorExt06K
import Derived.OpenShut
set_option linter.unusedVariables false
set_option linter.unusedSimpArgs false
namespace Go.Proofs.YthkhjcpijecokaaDoor.Pure
open Go.RowKit Go.Proofs.YthkhjcpijecokaaDoor.XLineCounts Go.Proofs.YthkhjcpijecokaaDoorW.PrintWords Go.Proofs.YthkhjcpijecokaaDoorW.PrintMore Go.Proofs.YthkhjcpijecokaaDoor.Ext

theorem alive_eq : bureaulaw06_alive.f = some true := by decide +kernel
theorem rd_nat (xs : List Int) (i : Nat) (h : i < xs.length) : rd xs (i : Int) = xs[i] := by
  unfold rd
  rw [Int.toNat_natCast, List.getD_eq_getElem?_getD, List.getElem?_eq_getElem h]
  rfl
theorem rends_loop (s : ByteArray) (hs : s.size < 1000000) : ∀ (c i k : Nat) (acc : List Int), i + c = s.size → acc.length ≤ i →
    bureauref06_Ends.l0 (c + k + 1) s acc (i : Int) = some (acc ++ (eL (s.data.toList.drop i) i).map (fun x : Nat => (x : Int))) := by
  intro c
  induction c with
  | zero =>
    intro i k acc hi ha
    have hlen : acc.length < 17592186044416 := by omega
    rw [show 0 + k + 1 = k + 1 by omega, bureauref06_Ends.l0, if_neg (by omega), if_pos hlen, List.drop_of_length_le (by rw [← size_list]; omega)]
    show _ = some (acc ++ [(i : Int)])
    rw [show s.size = i by omega]
  | succ c ih =>
    intro i k acc hi ha
    have hlen : acc.length < 17592186044416 := by omega
    have hlt : i < s.data.toList.length := by rw [← size_list]; omega
    have hw : wrap64 ((i : Int) + 1) = ((i + 1 : Nat) : Int) := by rw [wrapZ _ (by omega) (by omega)]; omega
    have hgb := gb_list s i _ (List.getElem?_eq_getElem hlt)
    rw [show c + 1 + k + 1 = (c + k + 1) + 1 by omega, bureauref06_Ends.l0, if_pos (by omega), if_pos (by omega), bt_gb s i (by omega), hgb, if_pos hlen, hw, List.drop_eq_getElem_cons hlt]
    by_cases h10 : s.data.toList[i] = 10
    · rw [h10, eL_hit, if_pos (by decide), ih (i + 1) k _ (by omega) (by simp; omega), List.map_cons, List.append_assoc]
      rfl
    · have hne : ¬ ((s.data.toList[i].toNat : Nat) : Int) = 10 := by
        intro h
        apply h10
        apply UInt8.toNat_inj.1
        show s.data.toList[i].toNat = 10
        omega
      rw [if_neg hne, eL_miss h10, ih (i + 1) k _ (by omega) (by omega)]
def endsI (s : ByteArray) : List Int := (ends s).map (fun x : Nat => (x : Int))
theorem endsI_len (s : ByteArray) : (endsI s).length = nE s := by unfold endsI nE; simp
theorem rends_eq (s : ByteArray) (hs : s.size < 1000000) (k : Nat) : bureauref06_Ends.f (s.size + k + 1) s = some (endsI s) := by
  unfold bureauref06_Ends.f
  have := rends_loop s hs s.size 0 k [] (by omega) (by simp)
  rw [show (0 : Int) = ((0 : Nat) : Int) from rfl, this]
  rfl
theorem endsI_get (s : ByteArray) (i : Nat) (h : i < nE s) : rd (endsI s) (i : Int) = ((bT s i : Nat) : Int) := by
  rw [rd_nat _ i (by rw [endsI_len]; exact h)]
  unfold endsI bT
  rw [List.getElem_map, List.getD_eq_getElem?_getD, List.getElem?_eq_getElem (show i < (ends s).length from h)]
  rfl
theorem rcount_eq (s : ByteArray) (hs : s.size < 1000000) (k : Nat) : bureauref06_Count.f (s.size + k + 1) s = some (nE s : Int) := by
  unfold bureauref06_Count.f
  rw [rends_eq s hs, Option.bind_some, endsI_len]
theorem rof_loop (s : ByteArray) (hs : s.size < 1000000) (a : Int) : ∀ (c i k n : Nat), i + c = s.size → n ≤ i →
    bureauref06_Of.l0 (c * 2 + k + 2) s a (n : Int) (i : Int) = some ((n + ((s.data.toList.drop i).take ((min a (s.size : Int)).toNat - i)).count 10 : Nat) : Int) := by
  intro c
  induction c with
  | zero =>
    intro i k n hi hn
    rw [show 0 * 2 + k + 2 = (k + 1) + 1 by omega, bureauref06_Of.l0, if_neg (by omega), bureauref06_Of.j1, if_neg (by decide), show (min a (s.size : Int)).toNat - i = 0 by omega, List.take_zero, List.count_nil]
    rfl
  | succ c ih =>
    intro i k n hi hn
    have hlt : i < s.data.toList.length := by rw [← size_list]; omega
    have hw : wrap64 ((i : Int) + 1) = ((i + 1 : Nat) : Int) := by rw [wrapZ _ (by omega) (by omega)]; omega
    have hwn : wrap64 ((n : Int) + 1) = ((n + 1 : Nat) : Int) := by rw [wrapZ _ (by omega) (by omega)]; omega
    have hgb := gb_list s i _ (List.getElem?_eq_getElem hlt)
    rw [show (c + 1) * 2 + k + 2 = (c * 2 + k + 2 + 1) + 1 by omega, bureauref06_Of.l0, if_pos (by omega)]
    by_cases ha : (i : Int) < a
    · have e1 : (min a (s.size : Int)).toNat - i = ((min a (s.size : Int)).toNat - (i + 1)) + 1 := by omega
      rw [decide_eq_true ha, bureauref06_Of.j1, if_pos rfl, if_pos (by omega), if_pos (by omega), bt_gb s i (by omega), hgb, hw, hwn, e1, List.drop_eq_getElem_cons hlt, List.take_succ_cons]
      by_cases h10 : s.data.toList[i] = 10
      · rw [h10, if_pos (by decide), ih (i + 1) k (n + 1) (by omega) (by omega), List.count_cons_self]
        congr 2
        omega
      · have hne : ¬ ((s.data.toList[i].toNat : Nat) : Int) = 10 := by
          intro h
          apply h10
          apply UInt8.toNat_inj.1
          show s.data.toList[i].toNat = 10
          omega
        rw [if_neg hne, ih (i + 1) k n (by omega) (by omega), List.count_cons_of_ne h10]
    · rw [decide_eq_false ha, bureauref06_Of.j1, if_neg (by decide), show (min a (s.size : Int)).toNat - i = 0 by omega, List.take_zero, List.count_nil]
      rfl
theorem rof_eq (s : ByteArray) (hs : s.size < 1000000) (a : Int) (k : Nat) : bureauref06_Of.f (s.size * 2 + k + 2) s a = some (ofZ s a : Int) := by
  unfold bureauref06_Of.f
  have := rof_loop s hs a s.size 0 k 0 (by omega) (by omega)
  rw [show (0 : Int) = ((0 : Nat) : Int) from rfl, this]
  unfold ofZ
  rw [List.drop_zero, Nat.sub_zero, Nat.zero_add, show (min a (s.size : Int)).toNat = (min (max a 0) (s.size : Int)).toNat by omega]
theorem LineCounts : bureaulaw06_LineCounts.Pure := by
  intro s a _ _
  refine ⟨s.size * 2 + 0 + 2, ?_⟩
  unfold bureaulaw06_LineCounts.f
  rw [alive_eq, Option.bind_some, if_pos rfl]
  by_cases hs : (s.size : Int) > 2048
  · rw [if_pos hs]
  have h1 : line_Count.f s = some (nE s : Int) := by unfold line_Count.f; rw [if_pos (by omega)]
  have h2 : line_Of.f s a = some (ofZ s a : Int) := rfl
  have h3 := rcount_eq s (by omega) (s.size + 1)
  rw [show s.size + (s.size + 1) + 1 = s.size * 2 + 0 + 2 by omega] at h3
  rw [if_neg hs, h1, Option.bind_some, h3, Option.bind_some, if_pos rfl, h2, Option.bind_some, rof_eq s (by omega) a 0, Option.bind_some]
  simp

end Go.Proofs.YthkhjcpijecokaaDoor.Pure
