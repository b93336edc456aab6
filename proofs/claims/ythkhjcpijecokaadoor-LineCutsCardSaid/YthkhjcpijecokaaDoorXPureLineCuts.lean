/- A text without some whole lines has all its other lines, as they were: for every text and all pairs of numbers. -/
import Derived.Test.YthkhjcpijecokaaDoorXLineCutsx2
import Derived.Test.YthkhjcpijecokaaDoorExt06K
import Derived.OpenShut
set_option linter.unusedVariables false
set_option linter.unusedSimpArgs false
namespace Go.Proofs.YthkhjcpijecokaaDoor.Pure
open Go.RowKit Go.Proofs.YthkhjcpijecokaaDoor.XLineCuts Go.Proofs.YthkhjcpijecokaaDoorW.PrintWords Go.Proofs.YthkhjcpijecokaaDoorW.PrintMore Go.Proofs.YthkhjcpijecokaaDoor.Ext

theorem alive_eq : bureaulaw06_alive.f = some true := by decide +kernel
theorem rd_nat (xs : List Int) (i : Nat) (h : i < xs.length) : rd xs (i : Int) = xs[i] := by
  unfold rd
  rw [Int.toNat_natCast, List.getD_eq_getElem?_getD, List.getElem?_eq_getElem h]
  rfl
theorem rends_loop (s : ByteArray) (hs : s.size < 1000000) : ∀ (c i k : Nat) (acc : List Int), i + c = s.size → acc.length ≤ i →
    bureauref06_Ends.l0 (c + k + 1) s acc (i : Int) = some (acc ++ (eL (s.data.toList.drop i) i).map (fun x : Nat => (x : Int))) := by
  intro c
  induction c with
  | zero =>
    intro i k acc hi ha
    have hlen : acc.length < 17592186044416 := by omega
    rw [show 0 + k + 1 = k + 1 by omega, bureauref06_Ends.l0, if_neg (by omega), if_pos hlen, List.drop_of_length_le (by rw [← size_list]; omega)]
    show _ = some (acc ++ [(i : Int)])
    rw [show s.size = i by omega]
  | succ c ih =>
    intro i k acc hi ha
    have hlen : acc.length < 17592186044416 := by omega
    have hlt : i < s.data.toList.length := by rw [← size_list]; omega
    have hw : wrap64 ((i : Int) + 1) = ((i + 1 : Nat) : Int) := by rw [wrapZ _ (by omega) (by omega)]; omega
    have hgb := gb_list s i _ (List.getElem?_eq_getElem hlt)
    rw [show c + 1 + k + 1 = (c + k + 1) + 1 by omega, bureauref06_Ends.l0, if_pos (by omega), if_pos (by omega), bt_gb s i (by omega), hgb, if_pos hlen, hw, List.drop_eq_getElem_cons hlt]
    by_cases h10 : s.data.toList[i] = 10
    · rw [h10, eL_hit, if_pos (by decide), ih (i + 1) k _ (by omega) (by simp; omega), List.map_cons, List.append_assoc]
      rfl
    · have hne : ¬ ((s.data.toList[i].toNat : Nat) : Int) = 10 := by
        intro h
        apply h10
        apply UInt8.toNat_inj.1
        show s.data.toList[i].toNat = 10
        omega
      rw [if_neg hne, eL_miss h10, ih (i + 1) k _ (by omega) (by omega)]
def endsI (s : ByteArray) : List Int := (ends s).map (fun x : Nat => (x : Int))
theorem endsI_len (s : ByteArray) : (endsI s).length = nE s := by unfold endsI nE; simp
theorem rends_eq (s : ByteArray) (hs : s.size < 1000000) (k : Nat) : bureauref06_Ends.f (s.size + k + 1) s = some (endsI s) := by
  unfold bureauref06_Ends.f
  have := rends_loop s hs s.size 0 k [] (by omega) (by simp)
  rw [show (0 : Int) = ((0 : Nat) : Int) from rfl, this]
  rfl
theorem endsI_get (s : ByteArray) (i : Nat) (h : i < nE s) : rd (endsI s) (i : Int) = ((bT s i : Nat) : Int) := by
  rw [rd_nat _ i (by rw [endsI_len]; exact h)]
  unfold endsI bT
  rw [List.getElem_map, List.getD_eq_getElem?_getD, List.getElem?_eq_getElem (show i < (ends s).length from h)]
  rfl
theorem rcount_eq (s : ByteArray) (hs : s.size < 1000000) (k : Nat) : bureauref06_Count.f (s.size + k + 1) s = some (nE s : Int) := by
  unfold bureauref06_Count.f
  rw [rends_eq s hs, Option.bind_some, endsI_len]
theorem rbounds_eq (s : ByteArray) (hs : s.size < 1000000) (n : Int) (k : Nat) : bureauref06_Bounds.f (s.size + k + 2) s n = some (boundsZ s n) := by
  have hn := nE_le s
  have hp := nE_pos s
  unfold bureauref06_Bounds.f boundsZ
  rw [show s.size + k + 2 = (s.size + (k + 1)) + 1 by omega, rends_eq s hs (k + 1), Option.bind_some, endsI_len]
  by_cases h0 : n < 0
  · rw [if_pos h0, bureauref06_Bounds.j0, if_pos rfl, if_neg (by omega)]
  rw [if_neg h0]
  by_cases h1 : n ≥ (nE s : Int)
  · rw [decide_eq_true h1, bureauref06_Bounds.j0, if_pos rfl, if_neg (by omega)]
  rw [decide_eq_false h1, bureauref06_Bounds.j0, if_neg (by decide), if_pos (c := 0 ≤ n ∧ _) (by omega)]
  obtain ⟨m, rfl⟩ : ∃ m : Nat, n = (m : Int) := ⟨n.toNat, by omega⟩
  rw [Int.toNat_natCast, endsI_len]
  cases m with
  | zero =>
    rw [if_pos (show ((0 : Nat) : Int) = 0 from rfl), if_pos (by omega), show (0 : Int) = ((0 : Nat) : Int) from rfl, endsI_get s 0 (by omega)]
    rfl
  | succ m =>
    have hw : wrap64 (((m + 1 : Nat) : Int) - 1) = (m : Int) := by rw [wrapZ _ (by omega) (by omega)]; omega
    have hle := bT_le s m (by unfold nE at *; omega)
    rw [if_neg (by omega), hw, if_pos (by omega), if_pos (by omega), if_pos (by omega), if_pos (by omega), endsI_get s m (by omega), endsI_get s (m + 1) (by omega), wrapZ _ (by omega) (by omega)]
    rfl
/-! ### a list of bytes, cut at its line ends -/
def sp : List UInt8 → List (List UInt8)
  | [] => [[]]
  | c :: r => if c = 10 then [] :: sp r else match sp r with
    | h :: t => (c :: h) :: t
    | [] => [[c]]
def jn : List (List UInt8) → List UInt8
  | [] => []
  | [x] => x
  | x :: y :: t => x ++ 10 :: jn (y :: t)
theorem sp_ne (l : List UInt8) : sp l ≠ [] := by
  cases l with
  | nil => simp [sp]
  | cons c r =>
    unfold sp
    split
    · simp
    · split <;> simp
theorem sp_hit (r : List UInt8) : sp (10 :: r) = [] :: sp r := by simp [sp]
theorem sp_miss {c : UInt8} (h : ¬ c = 10) {r : List UInt8} {x : List UInt8} {t : List (List UInt8)} (hs : sp r = x :: t) : sp (c :: r) = (c :: x) :: t := by
  show (if c = 10 then [] :: sp r else match sp r with | h :: t => (c :: h) :: t | [] => [[c]]) = _
  rw [if_neg h, hs]
theorem sp_free : ∀ (x : List UInt8), (10 : UInt8) ∉ x → sp x = [x] := by
  intro x
  induction x with
  | nil => intro _; rfl
  | cons c r ih =>
    intro h
    have hc : ¬ c = 10 := fun e => h (by rw [e]; exact List.mem_cons_self)
    exact sp_miss hc (ih (fun e => h (List.mem_cons_of_mem _ e)))
theorem sp_cut : ∀ (x r : List UInt8), (10 : UInt8) ∉ x → sp (x ++ 10 :: r) = x :: sp r := by
  intro x
  induction x with
  | nil => intro r _; exact sp_hit r
  | cons c t ih =>
    intro r h
    have hc : ¬ c = 10 := fun e => h (by rw [e]; exact List.mem_cons_self)
    rw [List.cons_append]
    exact sp_miss hc (ih r (fun e => h (List.mem_cons_of_mem _ e)))
theorem sp_jn : ∀ (ls : List (List UInt8)), ls ≠ [] → (∀ x ∈ ls, (10 : UInt8) ∉ x) → sp (jn ls) = ls := by
  intro ls
  induction ls with
  | nil => intro h; exact absurd rfl h
  | cons x t ih =>
    intro _ h
    cases t with
    | nil => exact sp_free x (h x (by simp))
    | cons y t =>
      show sp (x ++ 10 :: jn (y :: t)) = _
      rw [sp_cut x _ (h x (by simp)), ih (by simp) (fun z hz => h z (List.mem_cons_of_mem _ hz))]
theorem jn_cons (c : UInt8) (x : List UInt8) (t : List (List UInt8)) : jn ((c :: x) :: t) = c :: jn (x :: t) := by
  cases t <;> rfl
theorem jn_nil {t : List (List UInt8)} (h : t ≠ []) : jn ([] :: t) = 10 :: jn t := by
  cases t with
  | nil => exact absurd rfl h
  | cons y t => rfl
theorem jn_sp : ∀ (l : List UInt8), jn (sp l) = l := by
  intro l
  induction l with
  | nil => rfl
  | cons c r ih =>
    by_cases h : c = 10
    · subst h
      rw [sp_hit, jn_nil (sp_ne r), ih]
    · cases hs : sp r with
      | nil => exact absurd hs (sp_ne r)
      | cons x t => rw [sp_miss h hs, jn_cons, ← hs, ih]
theorem sp_no10 : ∀ (l : List UInt8), ∀ x ∈ sp l, (10 : UInt8) ∉ x := by
  intro l
  induction l with
  | nil =>
    intro x hx
    simp only [sp, List.mem_cons, List.not_mem_nil, or_false] at hx
    rw [hx]
    simp
  | cons c r ih =>
    intro x hx
    by_cases h : c = 10
    · subst h
      rw [sp_hit] at hx
      rcases List.mem_cons.1 hx with e | e
      · rw [e]
        simp
      · exact ih x e
    · cases hs : sp r with
      | nil => exact absurd hs (sp_ne r)
      | cons y t =>
        rw [sp_miss h hs] at hx
        rcases List.mem_cons.1 hx with e | e
        · rw [e]
          intro hm
          rcases List.mem_cons.1 hm with e2 | e2
          · exact h e2.symm
          · exact ih y (by rw [hs]; exact List.mem_cons_self) e2
        · exact ih x (by rw [hs]; exact List.mem_cons_of_mem _ e)
/-- Lines, each with its end. -/
def fl (ls : List (List UInt8)) : List UInt8 := ls.flatMap (fun x => x ++ [10])
theorem jn_app : ∀ (a b : List (List UInt8)), b ≠ [] → jn (a ++ b) = fl a ++ jn b := by
  intro a
  induction a with
  | nil => intro b _; rfl
  | cons x t ih =>
    intro b hb
    have : t ++ b ≠ [] := by
      intro h
      exact hb (List.append_eq_nil_iff.1 h).2
    cases hh : t ++ b with
    | nil => exact absurd hh this
    | cons y z =>
      rw [List.cons_append, hh]
      show x ++ 10 :: jn (y :: z) = fl (x :: t) ++ jn b
      rw [← hh, ih b hb]
      unfold fl
      rw [List.flatMap_cons, List.append_assoc, List.append_assoc]
      rfl
theorem fl_jn : ∀ (a : List (List UInt8)), a ≠ [] → fl a = jn a ++ [10] := by
  intro a
  induction a with
  | nil => intro h; exact absurd rfl h
  | cons x t ih =>
    intro _
    cases t with
    | nil =>
      unfold fl
      simp [jn]
    | cons y t =>
      have e := ih (by simp)
      have h1 : fl (x :: y :: t) = (x ++ [10]) ++ fl (y :: t) := by unfold fl; rw [List.flatMap_cons]
      rw [h1, e]
      show _ = (x ++ 10 :: jn (y :: t)) ++ [10]
      simp
/-! ### the lines of a text -/
def linesL (s : ByteArray) : List ByteArray := (List.range (nE s)).map (fun k => s.extract (bF s k) (bT s k))
theorem ext_listC (s : ByteArray) (a b : Nat) : (s.extract a b).data.toList = (s.data.toList.drop a).take (b - a) := by
  rw [ByteArray.data_extract, Array.toList_extract, List.extract_eq_take_drop]
theorem sp_index (l : List UInt8) : (Lib.indexByte l 10 = -1 → sp l = [l]) ∧ ∀ i : Nat, Lib.indexByte l 10 = (i : Int) → sp l = l.take i :: sp (l.drop (i + 1)) := by
  induction l with
  | nil => exact ⟨fun _ => rfl, fun i h => by simp [Lib.indexByte] at h⟩
  | cons c r ih =>
    obtain ⟨ih1, ih2⟩ := ih
    have hx : Lib.indexByte (c :: r) 10 = if (c == 10) = true then 0 else if (Lib.indexByte r 10 == -1) = true then -1 else Lib.indexByte r 10 + 1 := rfl
    rw [hx]
    by_cases h10 : c = 10
    · subst h10
      refine ⟨fun h => by simp at h, fun i h => ?_⟩
      have : i = 0 := by
        rw [if_pos (by decide)] at h
        omega
      subst this
      rw [sp_hit]
      rfl
    · have hb : (c == 10) = false := by rw [beq_eq_false_iff_ne]; exact h10
      rw [hb, if_neg (by decide)]
      by_cases hm : Lib.indexByte r 10 = -1
      · rw [hm, if_pos (by decide)]
        exact ⟨fun _ => sp_miss h10 (ih1 hm), fun i h => by omega⟩
      · have hge := Lib.indexByte_ge r 10
        obtain ⟨j, hj⟩ : ∃ j : Nat, Lib.indexByte r 10 = (j : Int) := ⟨(Lib.indexByte r 10).toNat, by omega⟩
        have : (Lib.indexByte r 10 == -1) = false := by rw [beq_eq_false_iff_ne]; exact hm
        rw [this, if_neg (by decide)]
        refine ⟨fun h => by omega, fun i h => ?_⟩
        have hi : i = j + 1 := by omega
        subst hi
        rw [sp_miss h10 (ih2 j hj), List.take_succ_cons, List.drop_succ_cons]
theorem sp_tail (s : ByteArray) : ∀ d k, k + d + 1 = nE s → sp (s.data.toList.drop (bF s k)) = (List.range (d + 1)).map (fun j => (s.extract (bF s (k + j)) (bT s (k + j))).data.toList) := by
  intro d
  induction d with
  | zero =>
    intro k hk
    rcases bT_index s k (by unfold nE at hk; omega) with ⟨h1, _, h3⟩ | ⟨i, _, h2, _⟩
    · rw [(sp_index _).1 h1]
      show _ = [(s.extract (bF s (k + 0)) (bT s (k + 0))).data.toList]
      rw [Nat.add_zero, ext_listC, h3, List.take_of_length_le (by rw [List.length_drop, ← size_list]; exact Nat.le_refl _)]
    · unfold nE at hk
      omega
  | succ d ih =>
    intro k hk
    rcases bT_index s k (by unfold nE at hk; omega) with ⟨_, h2, _⟩ | ⟨i, h1, h2, h3, h4, h5⟩
    · unfold nE at hk
      omega
    · rw [(sp_index _).2 i h1, List.range_succ_eq_map, List.map_cons, List.map_map, List.drop_drop, show bF s k + (i + 1) = bF s (k + 1) by rw [h5, Nat.add_assoc], ih (k + 1) (by omega)]
      congr 1
      · rw [Nat.add_zero, ext_listC, h3, Nat.add_sub_cancel_left]
      · refine List.map_congr_left (fun j _ => ?_)
        simp only [Function.comp]
        rw [show k + j.succ = k + 1 + j by omega]
theorem lines_sp (s : ByteArray) : (linesL s).map (fun x => x.data.toList) = sp s.data.toList := by
  have hp := nE_pos s
  have := sp_tail s (nE s - 1) 0 (by omega)
  rw [show bF s 0 = 0 from rfl, List.drop_zero, show nE s - 1 + 1 = nE s by omega] at this
  rw [this]
  unfold linesL
  rw [List.map_map]
  refine List.map_congr_left (fun j _ => ?_)
  simp only [Function.comp, Nat.zero_add]
theorem lines_len (s : ByteArray) : (linesL s).length = nE s := by unfold linesL; simp
theorem drop_lines (s : ByteArray) (k : Nat) (hk : k < nE s) : s.data.toList.drop (bF s k) = jn ((sp s.data.toList).drop k) := by
  have h1 := sp_tail s (nE s - 1 - k) k (by omega)
  have h2 : (sp s.data.toList).drop k = sp (s.data.toList.drop (bF s k)) := by
    rw [h1, ← lines_sp]
    unfold linesL
    rw [List.map_map]
    apply List.ext_getElem?
    intro j
    rw [List.getElem?_drop, List.getElem?_map, List.getElem?_map]
    by_cases hj : j < nE s - 1 - k + 1
    · rw [List.getElem?_range hj, List.getElem?_range (by omega)]
      rfl
    · rw [List.getElem?_eq_none (by simp; omega), List.getElem?_eq_none (by simp; omega)]
      rfl
  rw [h2, jn_sp]
theorem sp_len (s : ByteArray) : (sp s.data.toList).length = nE s := by rw [← lines_sp, List.length_map, lines_len]
theorem take_lines (s : ByteArray) (k : Nat) (hk : k < nE s) : s.data.toList.take (bF s k) = fl ((sp s.data.toList).take k) := by
  have h1 := drop_lines s k hk
  have h2 := List.take_append_drop (bF s k) s.data.toList
  have h3 : jn (sp s.data.toList) = s.data.toList := jn_sp _
  have hne : (sp s.data.toList).drop k ≠ [] := by
    intro h
    have := congrArg List.length h
    rw [List.length_drop, sp_len, List.length_nil] at this
    omega
  have h4 := jn_app ((sp s.data.toList).take k) ((sp s.data.toList).drop k) hne
  rw [List.take_append_drop, h3, ← h1] at h4
  have h5 : s.data.toList.take (bF s k) ++ s.data.toList.drop (bF s k) = fl ((sp s.data.toList).take k) ++ s.data.toList.drop (bF s k) := h2.trans h4
  exact List.append_cancel_right h5
theorem ba_ext {x y : ByteArray} (h : x.data.toList = y.data.toList) : x = y := by
  cases x
  cases y
  simp only at h
  congr 1
  exact Array.toList_inj.1 h
theorem map_inj' : ∀ (a b : List ByteArray), a.map (fun x => x.data.toList) = b.map (fun x => x.data.toList) → a = b := by
  intro a
  induction a with
  | nil => intro b h; cases b with | nil => rfl | cons _ _ => cases h
  | cons x t ih =>
    intro b h
    cases b with
    | nil => cases h
    | cons y u =>
      simp only [List.map_cons, List.cons.injEq] at h
      rw [ba_ext h.1, ih u h.2]
/-- The lines of a text that is put together from lines. -/
theorem lines_jn (s : ByteArray) (l : List ByteArray) (hl : l ≠ []) (h10 : ∀ x ∈ l, (10 : UInt8) ∉ x.data.toList) (h : s.data.toList = jn (l.map (fun x => x.data.toList))) : linesL s = l := by
  apply map_inj'
  rw [lines_sp, h, sp_jn _ (by simpa using hl) (by
    intro x hx
    obtain ⟨y, hy, rfl⟩ := List.mem_map.1 hx
    exact h10 y hy)]
theorem lines_no10 (s : ByteArray) : ∀ x ∈ linesL s, (10 : UInt8) ∉ x.data.toList := by
  intro x hx
  exact sp_no10 s.data.toList _ (by rw [← lines_sp]; exact List.mem_map_of_mem hx)
/-! ### the document's Lines -/
theorem rlines_loop (s : ByteArray) (hs : s.size < 1000000) : ∀ (c i k : Nat), i + c = nE s →
    bureauref06_Lines.l0 (c + s.size + k + 3) s ((List.range i).map (fun k => s.extract (bF s k) (bT s k))) (i : Int) = some (linesL s) := by
  have hn := nE_le s
  intro c
  induction c with
  | zero =>
    intro i k hi
    have hC := rcount_eq s hs (k + 1)
    rw [show s.size + (k + 1) + 1 = 0 + s.size + k + 2 by omega] at hC
    rw [show 0 + s.size + k + 3 = (0 + s.size + k + 2) + 1 by omega, bureauref06_Lines.l0, hC, Option.bind_some, if_neg (by omega), show i = nE s by omega]
    rfl
  | succ c ih =>
    intro i k hi
    have hC := rcount_eq s hs (c + k + 2)
    rw [show s.size + (c + k + 2) + 1 = c + 1 + s.size + k + 2 by omega] at hC
    have hB := rbounds_eq s hs (i : Int) (c + k + 1)
    rw [show s.size + (c + k + 1) + 2 = c + 1 + s.size + k + 2 by omega] at hB
    have hz : boundsZ s (i : Int) = ((bF s i : Int), (bT s i : Int), 0) := by unfold boundsZ; rw [if_pos (by omega), Int.toNat_natCast]
    rw [hz] at hB
    have hle := bT_le s i (by unfold nE at hi; omega)
    have hw : wrap64 ((i : Int) + 1) = ((i + 1 : Nat) : Int) := by rw [wrapZ _ (by omega) (by omega)]; omega
    have hlen : ((List.range i).map (fun k => s.extract (bF s k) (bT s k))).length < 8796093022208 := by rw [List.length_map, List.length_range]; omega
    have hih := ih (i + 1) k (by omega)
    rw [List.range_succ, List.map_append] at hih
    rw [show c + 1 + s.size + k + 3 = (c + 1 + s.size + k + 2) + 1 by omega, bureauref06_Lines.l0, hC, Option.bind_some, if_pos (by omega), hB, Option.bind_some]
    simp only []
    rw [if_pos (by omega), if_pos (by omega), if_pos (by omega), if_pos hlen, Int.toNat_natCast, Int.toNat_natCast, hw, show c + 1 + s.size + k + 2 = c + s.size + k + 3 by omega]
    exact hih
theorem rlines_eq (s : ByteArray) (hs : s.size < 1000000) (K : Nat) (hK : nE s + s.size + 3 ≤ K) : bureauref06_Lines.f K s = some (linesL s) := by
  unfold bureauref06_Lines.f
  have := rlines_loop s hs (nE s) 0 (K - (nE s + s.size + 3)) (by omega)
  rw [show nE s + s.size + (K - (nE s + s.size + 3)) + 3 = K by omega] at this
  exact this
theorem cuts_loop (l : List ByteArray) (hl : l.length < 1000000) : ∀ (c i k : Nat), i + c = l.length → bureaulaw06_LineCuts.l0 (c + k + 1) l l (l.length : Int) (i : Int) = some true := by
  intro c
  induction c with
  | zero =>
    intro i k hi
    rw [show 0 + k + 1 = k + 1 by omega, bureaulaw06_LineCuts.l0, if_neg (by omega)]
  | succ c ih =>
    intro i k hi
    have hw : wrap64 ((i : Int) + 1) = ((i + 1 : Nat) : Int) := by rw [wrapZ _ (by omega) (by omega)]; omega
    rw [show c + 1 + k + 1 = (c + k + 1) + 1 by omega, bureaulaw06_LineCuts.l0, if_pos (by omega), if_pos (by omega), if_pos (by omega), if_pos (by omega), if_pos rfl, hw]
    exact ih (i + 1) k (by omega)
theorem cuts_j0 (l : List ByteArray) (hl : l.length < 1000000) (K : Nat) (hK : l.length + 2 ≤ K) : bureaulaw06_LineCuts.j0 K l l = some true := by
  obtain ⟨k, rfl⟩ : ∃ k, K = (l.length + k + 1) + 1 := ⟨K - l.length - 2, by omega⟩
  rw [bureaulaw06_LineCuts.j0, if_pos rfl]
  exact cuts_loop l hl l.length 0 k (by omega)
/-! ### what is left -/
theorem cut_lines (s : ByteArray) (hs : s.size < 100000) (a b : Nat) (hab : a ≤ b) (hb : b < nE s) (p q : Nat) (hp : (wholeZ s (a : Int) (b : Int)).1 = (p : Int)) (hq : (wholeZ s (a : Int) (b : Int)).2.1 = (q : Int)) :
    linesL (s.extract 0 p ++ s.extract q s.size) = (if ((linesL s).take a ++ (linesL s).drop (b + 1)).length = 0 then [(⟨#[]⟩ : ByteArray)] else (linesL s).take a ++ (linesL s).drop (b + 1)) := by
  have hsp := lines_sp s
  have hll := lines_len s
  have hin : ∀ x ∈ (linesL s).take a ++ (linesL s).drop (b + 1), (10 : UInt8) ∉ x.data.toList := by
    intro x hx
    rcases List.mem_append.1 hx with h | h
    · exact lines_no10 s x (List.mem_of_mem_take h)
    · exact lines_no10 s x (List.mem_of_mem_drop h)
  have hmap : ((linesL s).take a ++ (linesL s).drop (b + 1)).map (fun x => x.data.toList) = (sp s.data.toList).take a ++ (sp s.data.toList).drop (b + 1) := by
    rw [List.map_append, List.map_take, List.map_drop, hsp]
  have hlenE : ((linesL s).take a ++ (linesL s).drop (b + 1)).length = a + (nE s - (b + 1)) := by
    rw [List.length_append, List.length_take, List.length_drop, hll]
    omega
  have hnew : (s.extract 0 p ++ s.extract q s.size).data.toList = s.data.toList.take p ++ s.data.toList.drop q := by
    rw [ByteArray.data_append, Array.toList_append, ext_listC, ext_listC, List.drop_zero, Nat.sub_zero]
    congr 1
    rw [List.take_of_length_le]
    rw [List.length_drop, ← size_list]
    exact Nat.le_refl _
  have hcond : ¬ ((a : Int) < 0 ∨ (b : Int) < (a : Int) ∨ (b : Int) ≥ (nE s : Int)) := by omega
  unfold wholeZ at hp hq
  rw [if_neg hcond, Int.toNat_natCast, Int.toNat_natCast] at hp hq
  by_cases h1 : bT s b < s.size
  · have hlast := (bT_last s b hb).1 h1
    rw [if_pos h1] at hp hq
    have hp' : p = bF s a := by simp only at hp; omega
    have hq' : q = bF s (b + 1) := by
      have : bF s (b + 1) = bT s b + 1 := rfl
      simp only at hq
      omega
    have hne : (sp s.data.toList).drop (b + 1) ≠ [] := by
      intro h
      have := congrArg List.length h
      rw [List.length_drop, sp_len, List.length_nil] at this
      unfold nE at this
      omega
    rw [if_neg (by rw [hlenE]; unfold nE; omega)]
    apply lines_jn _ _ _ hin
    · rw [hnew, hmap, hp', hq', take_lines s a (by omega), drop_lines s (b + 1) hlast, jn_app _ _ hne]
    · intro h
      have := congrArg List.length h
      rw [hlenE, List.length_nil] at this
      unfold nE at this
      omega
  · have hend : bT s b = s.size := by
      have := (bT_le s b hb).2
      omega
    have hbl : nE s = b + 1 := by
      have h2 : ¬ b + 1 < (ends s).length := fun h => h1 ((bT_last s b hb).2 h)
      unfold nE at hb ⊢
      omega
    rw [if_neg h1] at hp hq
    by_cases h2 : (a : Int) > 0
    · rw [if_pos h2] at hp hq
      have hbF := (bF_tail s a (by unfold nE at hb; omega)).1
      have hpos : 1 ≤ bF s a := by unfold bF; rw [if_neg (by omega)]; omega
      have hp' : p = bF s a - 1 := by simp only at hp; omega
      have hq' : q = s.size := by simp only at hq; omega
      rw [if_neg (by rw [hlenE]; omega)]
      apply lines_jn _ _ _ hin
      · have htk := take_lines s a (by omega)
        have hne : (sp s.data.toList).take a ≠ [] := by
          intro h
          have := congrArg List.length h
          rw [List.length_take, sp_len, List.length_nil] at this
          omega
        rw [fl_jn _ hne] at htk
        have hdr : (sp s.data.toList).drop (b + 1) = [] := List.drop_of_length_le (by rw [sp_len]; omega)
        have hlen := congrArg List.length htk
        rw [List.length_take, ← size_list, List.length_append, List.length_cons, List.length_nil] at hlen
        rw [hnew, hmap, hdr, List.append_nil, hp', hq', List.drop_of_length_le (by rw [← size_list]; exact Nat.le_refl _), List.append_nil]
        have h5 : s.data.toList.take (bF s a - 1) = (s.data.toList.take (bF s a)).take (bF s a - 1) := by rw [List.take_take, show min (bF s a - 1) (bF s a) = bF s a - 1 by omega]
        rw [h5, htk, List.take_left' (by omega)]
      · intro h
        have := congrArg List.length h
        rw [hlenE, List.length_nil] at this
        omega
    · rw [if_neg h2] at hp hq
      have hp' : p = 0 := by simp only at hp; omega
      have hq' : q = s.size := by simp only at hq; omega
      rw [if_pos (by rw [hlenE]; omega)]
      apply lines_jn _ _ (by simp)
      · intro x hx
        simp only [List.mem_cons, List.not_mem_nil, or_false] at hx
        rw [hx]
        simp
      · rw [hnew, hp', hq', List.take_zero, List.drop_of_length_le (by rw [← size_list]; exact Nat.le_refl _)]
        rfl
theorem bF_mono (s : ByteArray) (a : Nat) : ∀ d, a + d < nE s → bF s a ≤ bF s (a + d) := by
  intro d
  induction d with
  | zero => intro _; exact Nat.le_refl _
  | succ d ih =>
    intro hd
    have h1 := ih (by omega)
    have h2 := (bT_le s (a + d) (by unfold nE at hd; omega)).1
    have h3 : bF s (a + (d + 1)) = bT s (a + d) + 1 := rfl
    omega
theorem whole_shape (s : ByteArray) (a b : Nat) (hab : a ≤ b) (hb : b < nE s) : ∃ p q : Nat, p ≤ q ∧ q ≤ s.size ∧ wholeZ s (a : Int) (b : Int) = ((p : Int), (q : Int), 0) := by
  have hbT := bT_le s b hb
  have hm := bF_mono s a (b - a) (by omega)
  rw [show a + (b - a) = b by omega] at hm
  unfold wholeZ
  rw [if_neg (by omega), Int.toNat_natCast, Int.toNat_natCast]
  by_cases h2 : bT s b < s.size
  · rw [if_pos h2]
    exact ⟨bF s a, bT s b + 1, by omega, by omega, by simp⟩
  · rw [if_neg h2]
    by_cases h3 : (a : Int) > 0
    · rw [if_pos h3]
      have hpos : 1 ≤ bF s a := by unfold bF; rw [if_neg (by omega)]; omega
      exact ⟨bF s a - 1, bT s b, by omega, hbT.2, by rw [show ((bF s a - 1 : Nat) : Int) = (bF s a : Int) - 1 by omega]⟩
    · rw [if_neg h3]
      exact ⟨0, s.size, by omega, by omega, rfl⟩
/-- The long way through the law, with its facts at hand. -/
theorem cuts_core (s : ByteArray) (a b p q K n' : Nat) (l now left : List ByteArray) (hll : l.length = nE s) (hab : a ≤ b) (hbn : b < nE s) (hp : p ≤ q) (hq : q ≤ s.size) (hs : s.size ≤ 2048) (hn : nE s ≤ s.size + 1)
    (h1 : bureauref06_Lines.f K s = some l) (h2 : bureauref06_Lines.f K (s.extract 0 p ++ s.extract q s.size) = some now) (hleft : left = l.take a ++ l.drop (b + 1))
    (hsz1 : (s.extract 0 p).size = p) (hsz2 : (s.extract q s.size).size = s.size - q) (hj : bureaulaw06_LineCuts.j0 K now (if left.length = 0 then [(⟨#[]⟩ : ByteArray)] else left) = some true) (hw : wrap64 ((b : Int) + 1) = ((b + 1 : Nat) : Int)) :
    ((bureauref06_Lines.f K s).bind fun t134 => (if (0 : Int) ≤ (p : Int) then (if (p : Int) ≤ (s.size : Int) then (if (0 : Int) ≤ (q : Int) then (if (q : Int) ≤ (s.size : Int) then (if (s.extract 0 ((p : Int)).toNat).size + (s.extract ((q : Int)).toNat s.size).size ≤ 9223372036854775807 then ((bureauref06_Lines.f K ((s.extract 0 ((p : Int)).toNat) ++ (s.extract ((q : Int)).toNat s.size))).bind fun t137 => (if (0 : Int) ≤ (a : Int) then (if (a : Int) ≤ (t134.length : Int) then ((some (t134.take ((a : Int)).toNat : List ByteArray)).bind fun y140 => (if ([] : List ByteArray).length + y140.length < 8796093022208 then ((some (([] : List ByteArray) ++ y140 : List ByteArray)).bind fun y144 => (if 0 ≤ (wrap64 ((b : Int) + 1)) then (if (wrap64 ((b : Int) + 1)) ≤ (t134.length : Int) then ((some (t134.drop ((wrap64 ((b : Int) + 1)) : Int).toNat : List ByteArray)).bind fun y147 => (if y144.length + y147.length < 8796093022208 then ((some (y144 ++ y147 : List ByteArray)).bind fun y151 => (if (y151.length : Int) = 0 then (bureaulaw06_LineCuts.j0 K t137 (([(⟨#[]⟩ : ByteArray)] : List ByteArray))) else (bureaulaw06_LineCuts.j0 K t137 y151))) else (none))) else (none)) else (none))) else (none))) else (none)) else (none))) else (none)) else (none)) else (none)) else (none)) else (none))) = some true := by
  have c1 : (0 : Int) ≤ (p : Int) := Int.natCast_nonneg p
  have c2 : (p : Int) ≤ (s.size : Int) := Int.ofNat_le.2 (Nat.le_trans hp hq)
  have c3 : (0 : Int) ≤ (q : Int) := Int.natCast_nonneg q
  have c4 : (q : Int) ≤ (s.size : Int) := Int.ofNat_le.2 hq
  have c5 : (s.extract 0 p).size + (s.extract q s.size).size ≤ 9223372036854775807 := by rw [hsz1, hsz2]; clear h1 h2 hj hw; omega
  have c6 : (0 : Int) ≤ (a : Int) := Int.natCast_nonneg a
  have c7 : (a : Int) ≤ (l.length : Int) := by rw [hll]; exact Int.ofNat_le.2 (by clear h1 h2 hj hw; omega)
  have c8 : ([] : List ByteArray).length + (l.take a).length < 8796093022208 := by rw [List.length_take, hll, List.length_nil]; clear h1 h2 hj hw; omega
  have c9 : (0 : Int) ≤ ((b + 1 : Nat) : Int) := Int.natCast_nonneg _
  have c10 : ((b + 1 : Nat) : Int) ≤ (l.length : Int) := by rw [hll]; exact Int.ofNat_le.2 hbn
  have c11 : (l.take a).length + (l.drop (b + 1)).length < 8796093022208 := by rw [List.length_take, List.length_drop, hll]; clear h1 h2 hj hw; omega
  rw [h1, Option.bind_some, if_pos c1, if_pos c2, if_pos c3, if_pos c4, Int.toNat_natCast, Int.toNat_natCast, if_pos c5, h2, Option.bind_some, if_pos c6, if_pos c7, Option.bind_some, Int.toNat_natCast, if_pos c8, Option.bind_some, List.nil_append, hw, if_pos c9, if_pos c10, Option.bind_some, Int.toNat_natCast, if_pos c11, Option.bind_some, ← hleft]
  by_cases hnil : left.length = 0
  · rw [if_pos hnil] at hj
    have c12 : ((left.length : Nat) : Int) = 0 := Int.natCast_eq_zero.2 hnil
    rw [if_pos c12]
    exact hj
  · rw [if_neg hnil] at hj
    have c12 : ¬ ((left.length : Nat) : Int) = 0 := fun h => hnil (Int.natCast_eq_zero.1 h)
    rw [if_neg c12]
    exact hj
theorem left_len (l : List ByteArray) (n a b : Nat) (hl : l.length = n) (hab : a ≤ b) (hb : b < n) : (l.take a ++ l.drop (b + 1)).length ≤ n := by
  rw [List.length_append, List.length_take, List.length_drop, hl]
  omega
theorem size_pre (s : ByteArray) (p : Nat) (h : p ≤ s.size) : (s.extract 0 p).size = p := by
  rw [ByteArray.size_extract]
  omega
theorem size_suf (s : ByteArray) (q : Nat) : (s.extract q s.size).size = s.size - q := by
  rw [ByteArray.size_extract]
  omega
theorem new_size (s : ByteArray) (p q : Nat) (hp : p ≤ q) (hq : q ≤ s.size) (hs : s.size ≤ 2048) :
    nE (s.extract 0 p ++ s.extract q s.size) + (s.extract 0 p ++ s.extract q s.size).size + 3 ≤ s.size * 4 + 40 ∧ (s.extract 0 p ++ s.extract q s.size).size < 1000000 := by
  have hnn := nE_le (s.extract 0 p ++ s.extract q s.size)
  have h3 : (s.extract 0 p ++ s.extract q s.size).size = p + (s.size - q) := by rw [ByteArray.size_append, size_pre s p (Nat.le_trans hp hq), size_suf]
  generalize (s.extract 0 p ++ s.extract q s.size) = z at *
  omega
theorem LineCuts : bureaulaw06_LineCuts.Pure := by
  intro s a b _ _ _
  refine ⟨s.size * 4 + 40, ?_⟩
  unfold bureaulaw06_LineCuts.f
  rw [alive_eq, Option.bind_some, if_pos rfl]
  by_cases hs : (s.size : Int) > 2048
  · rw [if_pos hs]
  have h1 : line_Whole.f s a b = some (wholeZ s a b) := by unfold line_Whole.f; rw [if_pos (by omega)]
  have hC : line_Count.f s = some (nE s : Int) := by unfold line_Count.f; rw [if_pos (by omega)]
  have hn := nE_le s
  rw [if_neg hs, h1, Option.bind_some]
  clear h1
  by_cases hc : a < 0 ∨ b < a ∨ b ≥ (nE s : Int)
  · have hz : wholeZ s a b = (0, 0, 2) := by unfold wholeZ; rw [if_pos hc]
    rw [hz]
    dsimp only
    rw [if_neg (by decide)]
    clear hz
    by_cases h0 : a < 0
    · rw [if_pos h0]
    rw [if_neg h0]
    by_cases h2 : b < a
    · rw [if_pos h2]
    have h3 : b ≥ (nE s : Int) := by
      rcases hc with h | h | h
      · exact absurd h h0
      · exact absurd h h2
      · exact h
    rw [if_neg h2, hC, Option.bind_some, decide_eq_true h3]
  · clear hC
    obtain ⟨a, rfl⟩ : ∃ m : Nat, a = (m : Int) := ⟨a.toNat, by omega⟩
    obtain ⟨b, rfl⟩ : ∃ m : Nat, b = (m : Int) := ⟨b.toNat, by omega⟩
    have hbn : b < nE s := by omega
    have hab : a ≤ b := by omega
    have hs2 : s.size ≤ 2048 := by omega
    have hb1 : nE s + 2 ≤ s.size * 4 + 40 := by omega
    have hb2 : nE s < 1000000 := by omega
    have hs3 : s.size < 100000 := by omega
    have hs4 : s.size < 1000000 := by omega
    have hK1 : nE s + s.size + 3 ≤ s.size * 4 + 40 := by omega
    have hw : wrap64 ((b : Int) + 1) = ((b + 1 : Nat) : Int) := by rw [wrapZ _ (by omega) (by omega)]; omega
    have hlenl := left_len (linesL s) (nE s) a b (lines_len s) hab hbn
    have hll := lines_len s
    obtain ⟨p, q, hp, hq, hz⟩ := whole_shape s a b hab hbn
    have hsz1 : (s.extract 0 p).size = p := size_pre s p (Nat.le_trans hp hq)
    have hsz2 : (s.extract q s.size).size = s.size - q := size_suf s q
    obtain ⟨hK2, hsm⟩ := new_size s p q hp hq hs2
    have hL1 := rlines_eq s hs4 (s.size * 4 + 40) hK1
    have hL2 := rlines_eq (s.extract 0 p ++ s.extract q s.size) hsm (s.size * 4 + 40) hK2
    have hcut := cut_lines s hs3 a b hab hbn p q (by rw [hz]) (by rw [hz])
    rw [hz]
    dsimp only
    rw [if_pos rfl]
    refine cuts_core s a b p q (s.size * 4 + 40) 0 (linesL s) _ _ hll hab hbn hp hq hs2 hn hL1 hL2 rfl hsz1 hsz2 ?_ hw
    rw [hcut]
    clear hL1 hL2 hcut hz hw
    by_cases hnil : ((linesL s).take a ++ (linesL s).drop (b + 1)).length = 0
    · rw [if_pos hnil]
      exact cuts_j0 _ (by decide) _ (Nat.le_trans (by decide : 1 + 2 ≤ 40) (Nat.le_add_left _ _))
    · rw [if_neg hnil]
      exact cuts_j0 _ (Nat.lt_of_le_of_lt hlenl hb2) _ (Nat.le_trans (Nat.add_le_add_right hlenl 2) hb1)

end Go.Proofs.YthkhjcpijecokaaDoor.Pure
