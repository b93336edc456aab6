/- What edits of good texts leave: plain laws of the printed functions. -/
import Derived.Test.YtgaggoglbkcomaaXWRx1
import Derived.Test.YtgaggoglbkcomaaXRRx3
import Derived.Test.YtgaggoglbkcomaaXRRx5
import Derived.Test.YtgaggoglbkcomaaXRRx0
import Derived.Test.YtgaggoglbkcomaaExtRM
import Derived.Test.YtgaggoglbkcomaaWMore
import Derived.WalkKit
import Derived.WalkMore
import Derived.Below
import Derived.KernelRfl
import Derived.LoopTactic
import Derived.Deep.RegionWith
import Derived.Deep.RegionHeld3
import Derived.IntWalk
import Derived.Deep.DeepCutAuto
import Derived.Deep.CutBlock
import Derived.BigQuiet
import Derived.Laws.RangeString
import Derived.Laws.RangeAny
import Derived.Laws.Rows
import Derived.Laws.Runes
import Derived.Lib.OthersKept
import Derived.OpenShut
set_option linter.unusedVariables false
set_option linter.unusedSimpArgs false
namespace Go.Proofs.Ytgaggoglbkcomaa.Ext
open Go.RowKit Go.Lib Go.Proofs.YtgaggoglbkcomaaW.PrintWords Go.Proofs.YtgaggoglbkcomaaW.PrintMore Go.Proofs.Ytgaggoglbkcomaa.XRR Go.Proofs.Ytgaggoglbkcomaa.XWR

theorem same4 (s : ByteArray) (l : List Rn) (hl : l.length ≤ 100000) : bureauref04_Same.f (l.length + 1) s l s l = some true := by
  unfold bureauref04_Same.f
  rw [if_pos rfl, dSame l l (by omega) _ (by omega), Option.bind_some, decide_eq_true rfl]
theorem good_short {s : ByteArray} {l : List Rn} (h : goodT s l = true) : l.length ≤ 4096 := by
  obtain ⟨hg, hn⟩ := goodT_good h
  have := len_nB (pk_mem (good_pk hg))
  have := good_n hg
  omega
theorem good_size {s : ByteArray} {l : List Rn} (h : goodT s l = true) : s.size ≤ 4096 := by
  obtain ⟨hg, hn⟩ := goodT_good h
  have := good_n hg
  omega
theorem wr64 (n : Int) (h : -9223372036854775808 ≤ n ∧ n ≤ 9223372036854775807) : wrap64 n = n := IntWalk.wrap64_in _ ⟨by omega, by omega⟩
theorem run_same (l : List Rn) (hl : l.length ≤ 100000) : ∀ (d k i : Nat), i + d = l.length → d + 1 ≤ k → api_Run.l0 k l l (l.length : Int) (i : Int) = some true
  | 0, k, i, h, hk => by
    obtain ⟨k, rfl⟩ : ∃ k', k = k' + 1 := ⟨k - 1, by omega⟩
    unfold api_Run.l0
    rw [if_neg (by omega)]
  | d + 1, k, i, h, hk => by
    obtain ⟨k, rfl⟩ : ∃ k', k = k' + 1 := ⟨k - 1, by omega⟩
    have ih := run_same l hl d k (i + 1) (by omega) (by omega)
    have ew : wrap64 ((i : Int) + 1) = ((i + 1 : Nat) : Int) := by rw [wr64 _ (by omega)]; omega
    unfold api_Run.l0
    rw [if_pos (by omega), if_pos (by omega), if_pos (by omega), if_pos (by omega), if_neg (by simp), ew]
    exact ih
theorem same_p (s : ByteArray) (l : List Rn) (hl : l.length ≤ 100000) (k : Nat) (hk : l.length + 1 ≤ k) : strip_Same.f k s l s l = some true := by
  unfold strip_Same.f api_Run.f
  rw [if_pos rfl, if_pos rfl]
  have := run_same l hl l.length k 0 (by omega) (by omega)
  rw [Int.natCast_zero] at this
  rw [this]
  rfl
/-- An edit of a good text: where, what it takes, what it puts there. -/
structure Ed where
  a : Nat
  b : Nat
  x : ByteArray
  m : List Rn
/-- It may be made of this text. -/
structure EdOk (s : ByteArray) (l : List Rn) (e : Ed) : Prop where
  g : goodT s l = true
  x : goodT e.x e.m = true
  ab : e.a ≤ e.b
  bs : e.b ≤ s.size
  n : s.size - (e.b - e.a) + e.x.size ≤ 4096
theorem EdOk.cut {s : ByteArray} {l : List Rn} {e : Ed} (h : EdOk s l e) : goodT (s.extract e.a e.b) (sli l e.a e.b) = true := cut_good h.g h.ab h.bs
theorem EdOk.next {s : ByteArray} {l : List Rn} {e : Ed} (h : EdOk s l e) : goodT (sS s e.a e.b e.x) (spl l e.a e.b e.m) = true := splice_good h.g h.x h.ab h.bs h.n
theorem ext_size {s : ByteArray} {a b : Nat} (hab : a ≤ b) (hb : b ≤ s.size) : (s.extract a b).size = b - a := by
  rw [← dl, ext_list, List.length_drop, List.length_take, dl]
  omega
theorem ed_good {s : ByteArray} {l : List Rn} {e : Ed} (h : EdOk s l e) (k : Nat) (hk : 10000 ≤ k) : edit_good.f k e.a (s.extract e.a e.b) (sli l e.a e.b) e.x e.m = some true := by
  have h1 := h.cut
  have h2 := good_short h1
  have h3 := good_short h.x
  have h4 := good_size h.g
  have h5 := h.ab
  have h6 := h.bs
  unfold edit_good.f
  rw [goodT_k _ _ (by omega) k (by omega), h1, Option.bind_some, if_pos rfl, goodT_k _ _ (by omega) k (by omega), h.x, Option.bind_some, if_pos rfl, if_pos (by omega), decide_eq_true (by omega)]
theorem spl_val {s : ByteArray} {l : List Rn} {e : Ed} (h : EdOk s l e) : splT s l e.a e.b e.x e.m = (sS s e.a e.b e.x, spl l e.a e.b e.m, 0) := by
  have h1 := within_intro h.g h.ab h.bs
  have h5 := h.ab
  have h6 := h.bs
  have h7 := h.n
  unfold splT
  rw [h1, h.x, if_pos (show (true && true) = true from rfl), if_neg (by omega), Int.toNat_natCast, Int.toNat_natCast]
theorem cut_val {s : ByteArray} {l : List Rn} {e : Ed} (h : EdOk s l e) : cutT s l e.a e.b = (s.extract e.a e.b, sli l e.a e.b, 0) := by
  unfold cutT
  rw [within_intro h.g h.ab h.bs, if_pos rfl, Int.toNat_natCast, Int.toNat_natCast]
theorem ed_Of {s : ByteArray} {l : List Rn} {e : Ed} (h : EdOk s l e) : edit_Of.f s l e.a e.b e.x e.m = some ((e.a : Int), s.extract e.a e.b, sli l e.a e.b, e.x, e.m, 0) := by
  have h1 := good_short h.g
  have h2 := good_short h.x
  unfold edit_Of.f strip_Splice.f strip_Cut.f edit_own.f
  rw [if_pos (by omega), spl_val h, Option.bind_some, if_pos rfl, if_pos (by omega), cut_val h, Option.bind_some, if_pos (by rw [List.length_nil]; omega), Option.bind_some]
  rfl
/-- The edit that is refused. -/
theorem ed_Of_no {s : ByteArray} {l : List Rn} {f t : Int} {x : ByteArray} {m : List Rn} (hl : l.length ≤ 100000) (hm : m.length ≤ 100000) (h : (splT s l f t x m).2.2 ≠ 0) : edit_Of.f s l f t x m = some (0, ⟨#[]⟩, [], ⟨#[]⟩, [], (splT s l f t x m).2.2) := by
  unfold edit_Of.f strip_Splice.f
  rw [if_pos (by omega), Option.bind_some, if_neg h]
theorem ed_of_spl {s : ByteArray} {l : List Rn} {f t : Int} {x : ByteArray} {m : List Rn} (h : (splT s l f t x m).2.2 = 0) : ∃ e : Ed, f = e.a ∧ t = e.b ∧ x = e.x ∧ m = e.m ∧ EdOk s l e := by
  unfold splT at h
  by_cases h1 : (withinT s l f t && goodT x m) = true
  · rw [if_pos h1] at h
    rw [Bool.and_eq_true] at h1
    obtain ⟨hw, hx⟩ := h1
    obtain ⟨a, b, rfl, rfl, hab, hb, hg⟩ := within_nat hw
    by_cases h2 : (s.size : Int) - ((b : Int) - a) + x.size > 4096
    · rw [if_pos h2] at h
      exact absurd h (by decide)
    · exact ⟨⟨a, b, x, m⟩, rfl, rfl, rfl, rfl, ⟨hg, hx, hab, hb, by show s.size - (b - a) + x.size ≤ 4096; omega⟩⟩
  · rw [if_neg h1] at h
    exact absurd h (by decide)
theorem ed_Apply {s : ByteArray} {l : List Rn} {e : Ed} (h : EdOk s l e) (k : Nat) (hk : 10000 ≤ k) : edit_Apply.f k s l e.a (s.extract e.a e.b) (sli l e.a e.b) e.x e.m = some (sS s e.a e.b e.x, spl l e.a e.b e.m, 0) := by
  have h1 := good_short h.g
  have h2 := good_short h.x
  have h3 := good_short h.cut
  have h4 := good_size h.g
  have h5 := h.ab
  have h6 := h.bs
  have ee : wrap64 ((e.a : Int) + ((s.extract e.a e.b).size : Int)) = (e.b : Int) := by
    rw [ext_size h5 h6, wr64 _ (by omega)]
    omega
  unfold edit_Apply.f
  rw [ed_good h k hk, Option.bind_some, if_pos rfl, ee]
  unfold strip_Cut.f strip_Splice.f
  rw [if_pos (by omega), cut_val h, Option.bind_some, if_pos rfl, same_p (s.extract e.a e.b) (sli l e.a e.b) (by omega) k (by omega), Option.bind_some, if_pos rfl, if_pos (by omega), spl_val h, Option.bind_some]
theorem fol_j (k : Nat) (x1 : Int) (x5 : Bool) (a : Int) (x : ByteArray) (l : List Rn) (y : ByteArray) (m : List Rn) : edit_Follow.j0 (k + 1) x1 x5 a x l y m = if x5 = true then (some x1) else (if x1 ≥ (wrap64 (a + (x.size : Int))) then (some (wrap64 ((wrap64 (x1 + (y.size : Int))) - (x.size : Int)))) else (some (mn x1 (wrap64 (a + (y.size : Int)))))) := rfl
theorem ed_Follow0 {s : ByteArray} {l : List Rn} {e : Ed} (h : EdOk s l e) (k : Nat) (hk : 10000 ≤ k) : edit_Follow.f k e.a (s.extract e.a e.b) (sli l e.a e.b) e.x e.m 0 = some 0 := by
  obtain ⟨k, rfl⟩ : ∃ k', k = k' + 1 := ⟨k - 1, by omega⟩
  unfold edit_Follow.f
  rw [ed_good h _ hk, Option.bind_some, if_pos rfl, if_neg (by omega), decide_eq_true (by omega)]
  rw [fol_j, if_pos rfl]
theorem ed_FollowE {s : ByteArray} {l : List Rn} {e : Ed} (h : EdOk s l e) (k : Nat) (hk : 10000 ≤ k) : edit_Follow.f k e.a (s.extract e.a e.b) (sli l e.a e.b) e.x e.m s.size = some (if e.a = s.size then (s.size : Int) else ((sS s e.a e.b e.x).size : Int)) := by
  obtain ⟨k, rfl⟩ : ∃ k', k = k' + 1 := ⟨k - 1, by omega⟩
  have h4 := good_size h.g
  have hx4 := good_size h.x
  have h5 := h.ab
  have h6 := h.bs
  unfold edit_Follow.f
  rw [ed_good h _ hk, Option.bind_some, if_pos rfl, if_neg (by omega)]
  rw [fol_j]
  by_cases c : e.a = s.size
  · rw [if_pos c, decide_eq_true (by omega), if_pos rfl]
  · rw [if_neg c, decide_eq_false (by omega), if_neg (by decide), ext_size h5 h6, wr64 ((e.a : Int) + _) (by omega), if_pos (by omega), wr64 ((s.size : Int) + _) (by omega), wr64 _ (by omega), sS_size s e.x e.a e.b h5 h6]
    congr 1
    omega
theorem ed_Invert {s : ByteArray} {l : List Rn} {e : Ed} (h : EdOk s l e) : edit_Invert.f e.a (s.extract e.a e.b) (sli l e.a e.b) e.x e.m = some ((e.a : Int), e.x, e.m, s.extract e.a e.b, sli l e.a e.b) := by
  have h2 := good_short h.x
  have h3 := good_short h.cut
  unfold edit_Invert.f edit_own.f
  rw [if_pos (by rw [List.length_nil]; omega), Option.bind_some, if_pos (by rw [List.length_nil]; omega), Option.bind_some]
  rfl
/-- The edit that undoes one. -/
def Ed.un (s : ByteArray) (l : List Rn) (e : Ed) : Ed := ⟨e.a, e.a + e.x.size, s.extract e.a e.b, sli l e.a e.b⟩
theorem EdOk.un {s : ByteArray} {l : List Rn} {e : Ed} (h : EdOk s l e) : EdOk (sS s e.a e.b e.x) (spl l e.a e.b e.m) (e.un s l) := by
  have h4 := good_size h.g
  have hx4 := good_size h.x
  have h5 := h.ab
  have h6 := h.bs
  have h7 := ext_size h5 h6
  have h8 := sS_size s e.x e.a e.b h5 h6
  refine ⟨h.next, h.cut, ?_, ?_, ?_⟩
  · show e.a ≤ e.a + e.x.size
    omega
  · show e.a + e.x.size ≤ _
    omega
  · show (sS s e.a e.b e.x).size - (e.a + e.x.size - e.a) + (s.extract e.a e.b).size ≤ 4096
    omega
theorem ed_undo {s : ByteArray} {l : List Rn} {e : Ed} (h : EdOk s l e) (k : Nat) (hk : 10000 ≤ k) : edit_Apply.f k (sS s e.a e.b e.x) (spl l e.a e.b e.m) e.a e.x e.m (s.extract e.a e.b) (sli l e.a e.b) = some (s, l, 0) := by
  obtain ⟨c1, c2⟩ := splice_cut h.g h.x h.ab h.bs h.n
  obtain ⟨b1, b2⟩ := splice_back h.g h.x h.ab h.bs h.n
  have := ed_Apply h.un k hk
  dsimp only [Ed.un] at this
  rw [c1, c2, b1, b2] at this
  exact this

end Go.Proofs.Ytgaggoglbkcomaa.Ext
