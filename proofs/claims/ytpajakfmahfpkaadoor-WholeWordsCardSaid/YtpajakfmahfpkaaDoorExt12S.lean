/- The walk of glyph.Starts: a row with room, filled in a range over a text; in the print's contract form. -/
import Derived.Test.YtpajakfmahfpkaaDoorExt12Q
import Derived.Laws.MakeOwn
import Derived.Laws.Cover4
import Derived.Test.YtpajakfmahfpkaaDoorWMore
set_option linter.unusedVariables false
set_option linter.unusedSimpArgs false
namespace Go.Proofs.YtpajakfmahfpkaaDoor.Ext
open Go.RowKit Go.Lib Go.Proofs.YtpajakfmahfpkaaDoorW.PrintWords

def glyph_Starts.f (a0 : ByteArray) : Option (List Int) := if a0.size ≤ 1000000 then some ((scan a0 a0.size 0).map fun x => (x.1 : Int)) else none

set_option maxRecDepth 1000000 in
theorem Starts_walk (s : ByteArray) (w : World) (hs : s.size ≤ 1000000) :
    Calls Tryd.prog 19 #[.string s] w fun e w' => ∃ v0_, e = .returned v0_ ∧ Kd.R (Kd.int .i64) 3 w' w.heap.size (fun _ => True) v0_ ((scan s s.size 0).map fun x => (x.1 : Int)) ∧ Below w.heap.size w w' := by
  obtain ⟨i0, hi0, hz0⟩ := Option.map_eq_some_iff.1 (show (Tryd.prog.info? 3).map (fun i => (i.zero, i.size, i.bytes)) = some (some (.int .i64 0), 1, 8) by kernel_rfl)
  simp only [Prod.mk.injEq] at hz0
  obtain ⟨hz1, hz2, hz3⟩ := hz0
  obtain ⟨w1, hmk, hown, hg⟩ := run_make_own (P := Tryd.prog) (w := w) w.heap.size 38 3 i0 (.int .i64 0) 1 Tryd.underlying38 hi0 hz1 hz2 .i64 .i64 s.size (by rw [hz3]; omega) (by unfold maxLen; omega) (Nat.le_refl _)
  go_enter Tryd.func19, Tryd.ntmps19
  have hlt0 : w.heap.size < w1.heap.size := by
    obtain ⟨_, hh | ⟨g, cap, cur, hv, hbg, hgg, _⟩⟩ := hown
    · cases hh.1
    · cases hv
      exact (Array.getElem?_eq_some_iff.1 hgg).1
  have HB0 : Below w.heap.size w w1 := (Below.refl w.heap.size w).grown hg (Nat.le_refl _) (fun k hk => by cases hk)
  have HR0 : Kd.R (Kd.int .i64) 3 w1 w.heap.size (fun k => k ≠ w1.heap.size) (.slice (some ⟨w.heap.size, 0, none⟩) 0 s.size) [] :=
    ⟨fun k hk => by simp [Value.ownBlock] at hk; omega, [], hown, ⟨rfl, fun j p hj => by simp at hj⟩⟩
  go_wp2
  go_loopw [3] (fun v w' => ∃ (pos b : Nat) (xs : List Int), Aside0 (Kd.R (Kd.int .i64) 3 w' w.heap.size (fun k => k ≠ w1.heap.size) v xs) ∧ Aside0 (w'.heap[w1.heap.size]? = some (.stringIter s pos)) ∧ Aside0 (Below w.heap.size w w') ∧ Aside0 (xs ++ (scan s b pos).map (fun x => (x.1 : Int)) = (scan s s.size 0).map fun x => (x.1 : Int)) ∧ s.size ≤ pos + b) (fun _ w' => s.size - w'.iterPos w1.heap.size)
  case atStart => exact ⟨0, s.size, [], ⟨by apply Kd.R_alloc; exact HR0⟩, ⟨World.iter_heap w1 s 0⟩, ⟨HB0.alloc (by omega) _⟩, ⟨rfl⟩, by omega⟩
  case round =>
    obtain ⟨pos, b, xs, HR, ⟨hk⟩, ⟨hB⟩, HC, hb⟩ := hrel
    by_cases hp : pos < s.size
    · have hwd := width_pos s pos hp
      have hlen : xs.length + 1 ≤ 2000000 := by
        have h1 := congrArg List.length HC.out
        have h2 := scan_len s s.size 0
        simp only [List.length_append, List.length_map] at h1
        omega
      cases b with
      | zero => omega
      | succ b =>
        have hnx0 : ∀ ty, (Instr.next (.pointer (some ⟨w1.heap.size, 0, none⟩)) true ty).run Tryd.prog _ = _ := fun ty => run_next_any_at _ w1.heap.size s pos ty hk hp
        have hcons : (scan s (b + 1) pos) = (pos, (Utf8.decode s pos).1, (Utf8.decode s pos).2) :: scan s b (pos + (Utf8.decode s pos).2) := by
          rw [scan, if_pos hp]
        have HC1 : Aside0 ((xs ++ [(pos : Int)]) ++ (scan s b (pos + (Utf8.decode s pos).2)).map (fun x => (x.1 : Int)) = (scan s s.size 0).map fun x => (x.1 : Int)) := by
          refine ⟨?_⟩
          rw [← HC.out, hcons, List.map_cons, List.append_assoc]
          rfl
        obtain ⟨q, hq⟩ : ∃ q, pos + (Utf8.decode s pos).2 = q := ⟨_, rfl⟩
        obtain ⟨R, hR⟩ : ∃ R : Int, ((Utf8.decode s pos).1 : Int) = R := ⟨_, rfl⟩
        have hnx : ∀ ty, (Instr.next (.pointer (some ⟨w1.heap.size, 0, none⟩)) true ty).run Tryd.prog _ = .ok (.tuple #[.bool true, .int .i64 pos, .int .i32 R]) _ := fun ty => by rw [hnx0 ty, hR, hq]
        rw [hq] at HC1
        have hB1 : Below w.heap.size w _ := below_iterAt hB (Nat.le_of_lt hlt0) s q
        have HK1 := Aside0.mk (iterAt_heap _ w1.heap.size s pos q hk)
        have HB := Aside0.mk hB1
        have hpq : pos < q := by omega
        clear hR hq hcons hnx0 hB1
        have HR1 := Aside0.mk (Kd.R_step HR.out (fun k hk _ => iterAt_other _ w1.heap.size k s q hk))
        have hlt1 := (Array.getElem?_eq_some_iff.1 HK1.out).1
        go_wp2_with (first | ((with_reducible refine gate_builtin (b := .append) (xs := #[.tmp 13, .tmp 15]) rfl ?_); at_builtin; refine Kd.R_append (Kd.int .i64) (w0 := w) w.heap.size rfl (.tmp 13) (.tmp 15) 38 3 (.int .i64 0) 8 rfl Tryd.underlying38 (by kernel_rfl) rfl (by decide) (by omega) _ xs (pos : Int) [.int .i64 (pos : Int)] (fun k => k ≠ w1.heap.size) (fun _ => False) rfl rfl ?aP (fun _ hk => hk.elim) ?aF ?aO ?aB ?aS ?aL ?_; (case aP => exact rfl); (case aB => exact HB.out); (case aF => exact (fun k hk e => by omega)); (case aO => exact HR1.out); (case aS => exact Nat.le_trans (Nat.le_of_lt hlt0) (Nat.le_of_lt hlt1)); (case aL => omega); intro v1 w2 ho hb hg hat))
        have hk2 := (hg.block w1.heap.size hlt1 (by intro e; exact HR1.out.1 _ e.symm rfl)).trans HK1.out
        go_roundw
        case rel => exact ⟨q, b, _, ⟨ho⟩, ⟨hk2⟩, ⟨hb⟩, HC1, by omega⟩
        case measure =>
          simp only [World.iterPos, hk2, hk]
          omega
    · have hnx : ∀ ty, (Instr.next (.pointer (some ⟨w1.heap.size, 0, none⟩)) true ty).run Tryd.prog _ = _ := fun ty => run_next_end_at _ w1.heap.size s pos ty hk hp
      have HC1 := HC.out
      rw [scan_end s b pos hp, List.map_nil, List.append_nil] at HC1
      have HC2 := Aside0.mk HC1
      have HB := Aside0.mk hB
      clear HC1 hB
      go_wp2
      go_ret
      exact ⟨_, rfl, by rw [← HC2.out]; exact Kd.R_mono HR.out (fun _ _ => trivial), HB.out⟩
theorem glyph_Starts.calls (a0 : ByteArray) (r : List Int) (w : World) (h : glyph_Starts.f a0 = some r) (hT : Tabs w) :
    Calls Tryd.prog 19 #[.string a0] w fun e w' => ∃ v0_, e = .returned v0_ ∧ Kd.R (Kd.int .i64) 3 w' w.heap.size (fun _ => True) v0_ r ∧ Below w.heap.size w w' := by
  unfold glyph_Starts.f at h
  split at h
  · rename_i hs
    cases h
    exact Starts_walk a0 w hs
  · cases h

/-! ### At, Prev -/
def glyph_At.f (a0 : ByteArray) (a1 : Int) : Option (Int × Int) := if a0.size < 1000000 then some (runeZ a0 a1, widZ a0 a1) else none
theorem glyph_At.calls (a0 : ByteArray) (a1 : Int) (r1 r2 : Int) (w : World) (h : glyph_At.f a0 a1 = some (r1, r2)) (hT : Tabs w) :
    Calls Tryd.prog 53 #[.string a0, .int .i64 a1] w fun e w' => e = .returned (.tuple #[.int .i32 r1, .int .i64 r2]) ∧ Below w.heap.size w w' := by
  unfold glyph_At.f at h
  split at h
  · rename_i hs
    cases h
    exact At_w a0 hs a1 w hT
  · cases h
def glyph_Prev.f (a0 : ByteArray) (a1 : Int) : Option Int := if a0.size < 1000000 then some (prevZ a0 a1) else none
theorem glyph_Prev.calls (a0 : ByteArray) (a1 : Int) (r : Int) (w : World) (h : glyph_Prev.f a0 a1 = some r) (hT : Tabs w) :
    Calls Tryd.prog 35 #[.string a0, .int .i64 a1] w fun e w' => e = .returned (.int .i64 r) ∧ Below w.heap.size w w' := by
  unfold glyph_Prev.f at h
  split at h
  · rename_i hs
    cases h
    exact Prev_w a0 hs a1 w hT
  · cases h
end Go.Proofs.YtpajakfmahfpkaaDoor.Ext
