/- caps: a table that no call made; Copy. -/
import Derived.Test.YtecbdhampjmlaaaExt17LG
import Derived.Test.YtecbdhampjmlaaaXCapsActsx2
import Derived.Test.YtecbdhampjmlaaaWMore
import Derived.WalkKit
import Derived.WalkMore
import Derived.Below
import Derived.KernelRfl
import Derived.LoopTactic
import Derived.Deep.RegionWith
import Derived.Deep.RegionHeld3
import Derived.IntWalk
import Derived.Deep.DeepCutAuto
import Derived.Deep.CutBlock
import Derived.BigQuiet
import Derived.Laws.RangeString
import Derived.Laws.RangeAny
import Derived.Laws.Rows
import Derived.Laws.Runes
import Derived.Lib.OthersKept
import Derived.OpenShut
set_option linter.unusedVariables false
set_option linter.unusedSimpArgs false
namespace Go.Proofs.Ytecbdhampjmlaaa.Ext
open Go.RowKit Go.Lib Go.Proofs.YtecbdhampjmlaaaW.PrintWords Go.Proofs.YtecbdhampjmlaaaW.PrintMore Go.Proofs.Ytecbdhampjmlaaa.XCapsActs

structure Nob (w : World) (v : Value) : Prop where
  good : ∀ w1, Below w.heap.size w w1 → Calls Try.prog 26 #[v] w1 fun e w' => e = .returned (.bool false) ∧ w1 = w'
theorem Nob.below {w w' : World} {v : Value} (h : Nob w v) (hb : Below w.heap.size w w') : Nob w' v := ⟨fun w1 h1 => h.good w1 (below_step hb h1)⟩
set_option maxRecDepth 100000 in
set_option maxHeartbeats 2000000 in
theorem Nob.nil (w : World) : Nob w (.pointer none) := by
  refine ⟨fun w1 _ => ?_⟩
  go_enter Try.func26, Try.ntmps26
  go_wp2
  go_ret
  exact ⟨rfl, rfl⟩
set_option maxRecDepth 100000 in
set_option maxHeartbeats 2000000 in
theorem Nob.zero {w : World} {Z : Nat} (h : w.heap[Z]? = some (.cells #[.slice none 0 0, .int .i64 0] 70 (0, 0))) : Nob w (.pointer (some ⟨Z, 0, none⟩)) := by
  refine ⟨fun w1 hb => ?_⟩
  have h1 := (hb.block Z (Array.getElem?_eq_some_iff.1 h).1).trans h
  obtain ⟨t0, t1, -, -⟩ := tok_lay h1
  clear h h1 hb
  go_enter Try.func26, Try.ntmps26
  go_wp2
  go_ret
  exact ⟨rfl, rfl⟩
set_option maxRecDepth 100000 in
set_option maxHeartbeats 2000000 in
theorem Mint_no (v : Value) (a b c : Int) (w : World) (h : Nob w v) : Calls Try.prog 15 #[v, .int .i64 a, .int .i64 b, .int .i64 c] w fun e w' => e = .returned (.tuple #[vK 0 0, .int .i64 1]) ∧ Below w.heap.size w w' := by
  have HG := Aside0.mk h.good
  clear h
  go_enter Try.func15, Try.ntmps15
  go_wp2_with (go_at_call 26; (with_reducible refine (HG.out _ ?sg).mono ?_); (case sg => exact (by repeat (first | (with_reducible first | exact Below.refl _ _ | apply pw_below_drewN | apply below_alloc | apply below_drew) | refine below_set ?_ (by first | exact Nat.le_refl _ | omega | (simp; done) | (simp; omega)) | refine below_step ?_ HB2.out | refine below_step ?_ HB3.out | refine below_step ?_ HB4.out | refine below_step ?_ HB5.out))); rintro e w1 ⟨rfl, rfl⟩)
  exact bodyPost_ret (v := .tuple #[vK 0 0, .int .i64 1]) (by simp [results, Try.results15, go_sem]) rfl ⟨rfl, (by repeat (first | (with_reducible first | exact Below.refl _ _ | apply pw_below_drewN | apply below_alloc | apply below_drew) | refine below_set ?_ (by first | exact Nat.le_refl _ | omega | (simp; done) | (simp; omega)) | refine below_step ?_ HB2.out | refine below_step ?_ HB3.out | refine below_step ?_ HB4.out | refine below_step ?_ HB5.out))⟩
set_option maxRecDepth 100000 in
set_option maxHeartbeats 2000000 in
theorem Derive_no (v : Value) (ks kg a b c : Int) (w : World) (h : Nob w v) : Calls Try.prog 17 #[v, vK ks kg, .int .i64 a, .int .i64 b, .int .i64 c] w fun e w' => e = .returned (.tuple #[vK 0 0, .int .i64 1]) ∧ Below w.heap.size w w' := by
  have HG := Aside0.mk h.good
  clear h
  go_enter Try.func17, Try.ntmps17
  go_wp2_with (go_at_call 26; (with_reducible refine (HG.out _ ?sg).mono ?_); (case sg => exact (by repeat (first | (with_reducible first | exact Below.refl _ _ | apply pw_below_drewN | apply below_alloc | apply below_drew) | refine below_set ?_ (by first | exact Nat.le_refl _ | omega | (simp; done) | (simp; omega)) | refine below_step ?_ HB2.out | refine below_step ?_ HB3.out | refine below_step ?_ HB4.out | refine below_step ?_ HB5.out))); rintro e w1 ⟨rfl, rfl⟩)
  exact bodyPost_ret (v := .tuple #[vK 0 0, .int .i64 1]) (by simp [results, Try.results17, go_sem]) rfl ⟨rfl, (by repeat (first | (with_reducible first | exact Below.refl _ _ | apply pw_below_drewN | apply below_alloc | apply below_drew) | refine below_set ?_ (by first | exact Nat.le_refl _ | omega | (simp; done) | (simp; omega)) | refine below_step ?_ HB2.out | refine below_step ?_ HB3.out | refine below_step ?_ HB4.out | refine below_step ?_ HB5.out))⟩
set_option maxRecDepth 100000 in
set_option maxHeartbeats 2000000 in
theorem Look_no (v : Value) (ks kg a b : Int) (w : World) (h : Nob w v) : Calls Try.prog 13 #[v, vK ks kg, .int .i64 a, .int .i64 b] w fun e w' => e = .returned (.tuple #[vC ⟨0, 0, 0, 0, 0⟩, .int .i64 1]) ∧ Below w.heap.size w w' := by
  have HG := Aside0.mk h.good
  clear h
  go_enter Try.func13, Try.ntmps13
  go_wp2_with (go_at_call 26; (with_reducible refine (HG.out _ ?sg).mono ?_); (case sg => exact (by repeat (first | (with_reducible first | exact Below.refl _ _ | apply pw_below_drewN | apply below_alloc | apply below_drew) | refine below_set ?_ (by first | exact Nat.le_refl _ | omega | (simp; done) | (simp; omega)) | refine below_step ?_ HB2.out | refine below_step ?_ HB3.out | refine below_step ?_ HB4.out | refine below_step ?_ HB5.out))); rintro e w1 ⟨rfl, rfl⟩)
  exact bodyPost_ret (v := .tuple #[vC ⟨0, 0, 0, 0, 0⟩, .int .i64 1]) (by simp [results, Try.results13, go_sem]) rfl ⟨rfl, (by repeat (first | (with_reducible first | exact Below.refl _ _ | apply pw_below_drewN | apply below_alloc | apply below_drew) | refine below_set ?_ (by first | exact Nat.le_refl _ | omega | (simp; done) | (simp; omega)) | refine below_step ?_ HB2.out | refine below_step ?_ HB3.out | refine below_step ?_ HB4.out | refine below_step ?_ HB5.out))⟩
set_option maxRecDepth 100000 in
set_option maxHeartbeats 2000000 in
theorem Revoke_no (v : Value) (ks kg : Int) (w : World) (h : Nob w v) : Calls Try.prog 14 #[v, vK ks kg] w fun e w' => e = .returned (.tuple #[.int .i64 0, .int .i64 1]) ∧ Below w.heap.size w w' := by
  have HG := Aside0.mk h.good
  clear h
  go_enter Try.func14, Try.ntmps14
  go_wp2_with (go_at_call 26; (with_reducible refine (HG.out _ ?sg).mono ?_); (case sg => exact (by repeat (first | (with_reducible first | exact Below.refl _ _ | apply pw_below_drewN | apply below_alloc | apply below_drew) | refine below_set ?_ (by first | exact Nat.le_refl _ | omega | (simp; done) | (simp; omega)) | refine below_step ?_ HB2.out | refine below_step ?_ HB3.out | refine below_step ?_ HB4.out | refine below_step ?_ HB5.out))); rintro e w1 ⟨rfl, rfl⟩)
  exact bodyPost_ret (v := .tuple #[.int .i64 0, .int .i64 1]) (by simp [results, Try.results14, go_sem]) rfl ⟨rfl, (by repeat (first | (with_reducible first | exact Below.refl _ _ | apply pw_below_drewN | apply below_alloc | apply below_drew) | refine below_set ?_ (by first | exact Nat.le_refl _ | omega | (simp; done) | (simp; omega)) | refine below_step ?_ HB2.out | refine below_step ?_ HB3.out | refine below_step ?_ HB4.out | refine below_step ?_ HB5.out))⟩
set_option maxRecDepth 100000 in
set_option maxHeartbeats 2000000 in
theorem Live_no (v : Value) (w : World) (h : Nob w v) : Calls Try.prog 12 #[v] w fun e w' => e = .returned (.slice none 0 0) ∧ Below w.heap.size w w' := by
  have HG := Aside0.mk h.good
  clear h
  go_enter Try.func12, Try.ntmps12
  go_wp2_with (go_at_call 26; (with_reducible refine (HG.out _ ?sg).mono ?_); (case sg => exact (by repeat (first | (with_reducible first | exact Below.refl _ _ | apply pw_below_drewN | apply below_alloc | apply below_drew) | refine below_set ?_ (by first | exact Nat.le_refl _ | omega | (simp; done) | (simp; omega)) | refine below_step ?_ HB2.out | refine below_step ?_ HB3.out | refine below_step ?_ HB4.out | refine below_step ?_ HB5.out))); rintro e w1 ⟨rfl, rfl⟩)
  go_ret
  exact ⟨rfl, (by repeat (first | (with_reducible first | exact Below.refl _ _ | apply pw_below_drewN | apply below_alloc | apply below_drew) | refine below_set ?_ (by first | exact Nat.le_refl _ | omega | (simp; done) | (simp; omega)) | refine below_step ?_ HB2.out | refine below_step ?_ HB3.out | refine below_step ?_ HB4.out | refine below_step ?_ HB5.out))⟩
set_option maxRecDepth 100000 in
set_option maxHeartbeats 2000000 in
theorem Free_no (v : Value) (w : World) (h : Nob w v) : Calls Try.prog 23 #[v] w fun e w' => e = .returned (.int .i64 0) ∧ Below w.heap.size w w' := by
  have HG := Aside0.mk h.good
  clear h
  go_enter Try.func23, Try.ntmps23
  go_wp2_with (go_at_call 26; (with_reducible refine (HG.out _ ?sg).mono ?_); (case sg => exact (by repeat (first | (with_reducible first | exact Below.refl _ _ | apply pw_below_drewN | apply below_alloc | apply below_drew) | refine below_set ?_ (by first | exact Nat.le_refl _ | omega | (simp; done) | (simp; omega)) | refine below_step ?_ HB2.out | refine below_step ?_ HB3.out | refine below_step ?_ HB4.out | refine below_step ?_ HB5.out))); rintro e w1 ⟨rfl, rfl⟩)
  go_ret
  exact ⟨rfl, (by repeat (first | (with_reducible first | exact Below.refl _ _ | apply pw_below_drewN | apply below_alloc | apply below_drew) | refine below_set ?_ (by first | exact Nat.le_refl _ | omega | (simp; done) | (simp; omega)) | refine below_step ?_ HB2.out | refine below_step ?_ HB3.out | refine below_step ?_ HB4.out | refine below_step ?_ HB5.out))⟩
set_option maxRecDepth 100000 in
set_option maxHeartbeats 2000000 in
theorem Copy_no (v : Value) (w : World) (h : Nob w v) : Calls Try.prog 25 #[v] w fun e w' => e = .returned (.pointer none) ∧ Below w.heap.size w w' := by
  have HG := Aside0.mk h.good
  clear h
  go_enter Try.func25, Try.ntmps25
  go_wp2_with (go_at_call 26; (with_reducible refine (HG.out _ ?sg).mono ?_); (case sg => exact (by repeat (first | (with_reducible first | exact Below.refl _ _ | apply pw_below_drewN | apply below_alloc | apply below_drew) | refine below_set ?_ (by first | exact Nat.le_refl _ | omega | (simp; done) | (simp; omega)) | refine below_step ?_ HB2.out | refine below_step ?_ HB3.out | refine below_step ?_ HB4.out | refine below_step ?_ HB5.out))); rintro e w1 ⟨rfl, rfl⟩)
  go_ret
  exact ⟨rfl, (by repeat (first | (with_reducible first | exact Below.refl _ _ | apply pw_below_drewN | apply below_alloc | apply below_drew) | refine below_set ?_ (by first | exact Nat.le_refl _ | omega | (simp; done) | (simp; omega)) | refine below_step ?_ HB2.out | refine below_step ?_ HB3.out | refine below_step ?_ HB4.out | refine below_step ?_ HB5.out))⟩
def s76 (s : Sl) : S76 := ⟨s.gen, s.alive, ⟨s.cap.obj, s.cap.rights, s.cap.owner, ⟨s.cap.us, s.cap.ug⟩⟩⟩
theorem reps76 {w : World} {base : Nat} {ok : Nat → Prop} : ∀ (l : List Sl) (inner : List Value), Reps (k76.M w base ok) 7 (l.map s76) inner → inner = csls l := by
  intro l
  induction l with
  | nil =>
    intro inner h
    have := h.1
    simp at this
    exact this
  | cons s l ih =>
    intro inner h
    have h0 := h.2 0 (s76 s) rfl
    rw [Nat.zero_mul, List.drop_zero] at h0
    have h0 := k76_openM h0
    have hr : Reps (k76.M w base ok) 7 (l.map s76) (inner.drop 7) := by
      refine ⟨by have := h.1; rw [List.length_drop, this, List.length_map, List.length_map, List.length_cons]; omega, fun j p hj => ?_⟩
      have := h.2 (j + 1) p (by rw [List.map_cons, List.getElem?_cons_succ]; exact hj)
      rw [List.drop_drop, show 7 + j * 7 = (j + 1) * 7 by omega]
      exact this
    have h1 := ih _ hr
    have e : inner = inner.take 7 ++ inner.drop 7 := (List.take_append_drop 7 inner).symm
    rw [e, h1, h0, csls_cons]
    rfl
theorem tab_reads {w : World} {R B : Nat} {l : List Sl} {g : Int} (h : TRow w R B l g) : Kd.C k76 w (some ⟨B, 0, none⟩) l.length (l.map s76) := by
  refine ⟨by rw [List.length_map], by have := h.n; omega, fun _ => ⟨⟨B, 0, none⟩, rfl, fun j p hj => ?_⟩⟩
  rw [List.getElem?_map] at hj
  obtain ⟨s, hs, rfl⟩ := Option.map_eq_some_iff.1 hj
  obtain ⟨hjl, e⟩ := List.getElem?_eq_some_iff.1 hs
  refine ⟨csl s, rfl, k76_mk w (s76 s), fun k u hk => ?_⟩
  have hk7 : k < 7 := (List.getElem?_eq_some_iff.1 hk).1
  have ha : (⟨B, 0, none⟩ : Addr).add (j * 7 + k) = ⟨B, j * 7 + k, none⟩ := by
    unfold Addr.add
    split
    · rename_i h0; rw [h0]
    · simp
  show w.cell? ((⟨B, 0, none⟩ : Addr).add (j * 7 + k)) = some u
  rw [ha, h.at_ j k hjl hk7, atS_lt hjl, e]
  exact hk
/-- A row of slots that was made, as a table's block. -/
theorem made76 {w : World} {base : Nat} {ok : Nat → Prop} {v : Value} {l : List Sl} (h : Kd.R k76 76 w base ok v (l.map s76)) (hl : 0 < l.length) : ∃ (G c : Nat) (rest : List Value), v = .slice (some ⟨G, 0, none⟩) l.length c ∧ base ≤ G ∧ l.length ≤ c ∧ w.heap[G]? = some (.cells (csls l ++ rest).toArray 76 (0, 0)) := by
  obtain ⟨_, inner, ho, hr⟩ := h
  have hi := reps76 l inner hr
  subst hi
  rw [List.length_map] at ho
  rcases ho.2 with ⟨_, h0⟩ | ⟨G, c, cur, e1, e2, e3, e4, e5, e6, e7⟩
  · omega
  · refine ⟨G, c, cur.toList.drop (l.length * 7), e1, e2, e4, ?_⟩
    have : csls l ++ cur.toList.drop (l.length * 7) = cur.toList := by
      rw [← e7]
      exact List.take_append_drop _ _
    rw [this]
    exact e3
set_option maxRecDepth 100000 in
set_option maxHeartbeats 8000000 in
theorem Copy_w (R B : Nat) (l : List Sl) (g : Int) (w : World) (h : TRow w R B l g) :
    Calls Try.prog 25 #[.pointer (some ⟨R, 0, none⟩)] w fun e w' => ∃ R' B' : Nat, e = .returned (.pointer (some ⟨R', 0, none⟩)) ∧ w.heap.size ≤ R' ∧ w.heap.size ≤ B' ∧ TRow w' R' B' l g ∧ Below w.heap.size w w' := by
  have hn := h.n
  have ltR := h.ltR
  obtain ⟨cc0, hcc0, c0⟩ := h.c0
  have c1 := h.c1
  have HT := Aside0.mk h
  have HTD := Aside0.mk h.drew
  have HG := Aside0.mk (fun w1 (hb : Below w.heap.size w w1) => good_w R B l g w1 (h.below hb))
  clear h
  go_enter Try.func25, Try.ntmps25
  go_wp2_with (go_at_call 26; (with_reducible refine (HG.out _ ?sg).mono ?_); (case sg => exact (by repeat (first | (with_reducible first | exact Below.refl _ _ | apply pw_below_drewN | apply below_alloc | apply below_drew) | refine below_set ?_ (by first | exact Nat.le_refl _ | omega | (simp; done) | (simp; omega)) | refine below_step ?_ HB2.out | refine below_step ?_ HB3.out | refine below_step ?_ HB4.out | refine below_step ?_ HB5.out))); rintro e w1 ⟨rfl, rfl⟩)
  go_region_held3 (fun w' => w'.cell? ⟨R, 0, none⟩ = some (.slice (some ⟨B, 0, none⟩) l.length cc0) ∧ w'.cell? ⟨R, 1, none⟩ = some (.int .i64 g)) (first | exact ⟨c07, c17⟩ | exact ⟨c0, c1⟩ | go_keep) (first | (refine Kd.R_append_rows_step k76 (w0 := w) w.heap.size (by rfl) (.const (.slice none 0 0)) (.tmp 9) 68 76 (.agg #[(.int .i64 0), (.bool false), (.int .i64 0), (.int .i64 0), (.int .i64 0), (.int .i64 0), (.int .i64 0)]) 56 rfl Try.underlying68 (by kernel_rfl) rfl (by decide) (by omega) (.slice none 0 0) ([] : List S76) (l.map s76) (some ⟨B, 0, none⟩) l.length cc0 (fun _ => True) (fun _ => False) rfl rfl ?aO ?aR (fun _ _ h => h) (fun _ h => h.elim) ?aF ?aB ?aS ?aL ?_; (case aO => exact Kd.R_nil _ _ _ _ _); (case aR => exact tab_reads HTD.out); (case aF => exact fun _ _ => trivial); (case aB => exact below_drew (Below.refl _ _)); (case aS => exact Nat.le_refl _); (case aL => simp; omega); intro v10 w7 ho hb hg hat; have HC7 := Aside0.mk hb; have c07 := (hb.cell (p := ⟨R, 0, none⟩) ltR).trans c0; have c17 := (hb.cell (p := ⟨R, 1, none⟩) ltR).trans c1; rw [List.nil_append] at ho; obtain ⟨B7, d7, rest7, e7, hbB7, hcd7, hx7⟩ := made76 ho (by omega); subst e7; have HX7 := Aside0.mk hx7; clear ho hb hg hat hx7))
  all_goals (go_wp2; go_ret; exact ⟨w7.heap.size, B7, rfl, HC7.out.size, hbB7, ⟨⟨d7, hcd7, heap_alloc_new _ _⟩, ⟨rest7, (Below.heap_alloc _ _ _ (Array.getElem?_eq_some_iff.1 HX7.out).1).trans HX7.out⟩, (by have := (Array.getElem?_eq_some_iff.1 HX7.out).1; omega), HT.out.n, HT.out.g, HT.out.gens⟩, below_alloc HC7.out _⟩)

end Go.Proofs.Ytecbdhampjmlaaa.Ext
