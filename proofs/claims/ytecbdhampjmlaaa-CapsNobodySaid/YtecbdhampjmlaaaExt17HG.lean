/- caps: Live, by its walk. -/
import Derived.Test.YtecbdhampjmlaaaExt17GG
import Derived.Test.YtecbdhampjmlaaaXCapsActsx2
import Derived.Test.YtecbdhampjmlaaaWMore
import Derived.WalkKit
import Derived.WalkMore
import Derived.Below
import Derived.KernelRfl
import Derived.LoopTactic
import Derived.Deep.RegionWith
import Derived.Deep.RegionHeld3
import Derived.IntWalk
import Derived.Deep.DeepCutAuto
import Derived.Deep.CutBlock
import Derived.BigQuiet
import Derived.Laws.RangeString
import Derived.Laws.RangeAny
import Derived.Laws.Rows
import Derived.Laws.Runes
import Derived.Lib.OthersKept
import Derived.OpenShut
set_option linter.unusedVariables false
set_option linter.unusedSimpArgs false
namespace Go.Proofs.Ytecbdhampjmlaaa.Ext
open Go.RowKit Go.Lib Go.Proofs.YtecbdhampjmlaaaW.PrintWords Go.Proofs.YtecbdhampjmlaaaW.PrintMore Go.Proofs.Ytecbdhampjmlaaa.XCapsActs

def s39 (x : Lv) : S39 := ⟨⟨x.ks, x.kg⟩, ⟨x.cap.obj, x.cap.rights, x.cap.owner, ⟨x.cap.us, x.cap.ug⟩⟩⟩
theorem drop_atS (l : List Sl) (k : Nat) (hk : k < l.length) : l.drop k = atS l k :: l.drop (k + 1) := by rw [List.drop_eq_getElem_cons hk, atS_lt hk]
set_option maxRecDepth 100000 in
set_option maxHeartbeats 8000000 in
theorem Live_w (R B : Nat) (l : List Sl) (g : Int) (w : World) (h : TRow w R B l g) :
    Calls Try.prog 12 #[.pointer (some ⟨R, 0, none⟩)] w fun e w' => ∃ v : Value, e = .returned v ∧ Kd.R k39 39 w' w.heap.size (fun _ => True) v ((liveZ l).map s39) ∧ Below w.heap.size w w' := by
  obtain ⟨cc0, hcc0, c0⟩ := h.c0
  have n := h.n
  have HG := Aside0.mk (fun w1 (hb : Below w.heap.size w w1) => good_w R B l g w1 (h.below hb))
  have HT := Aside0.mk (fun (w1 : World) (hb : Below w.heap.size w w1) => h.below hb)
  clear h
  go_enter Try.func12, Try.ntmps12
  go_wp2_with (first | (go_at_call 26; (with_reducible refine (HG.out _ ?sg).mono ?_); (case sg => exact (by repeat (first | (with_reducible first | exact Below.refl _ _ | apply pw_below_drewN | apply below_alloc | apply below_drew) | refine below_set ?_ (by first | exact Nat.le_refl _ | omega | (simp; done) | (simp; omega)) | refine below_step ?_ HB2.out | refine below_step ?_ HB3.out | refine below_step ?_ HB4.out | refine below_step ?_ HB5.out))); rintro e w1 ⟨rfl, rfl⟩))
  go_loopw [3, 14] (fun v i wr => ∃ (k : Nat) (xs : List S39), k ≤ l.length ∧ i = .int .i64 k ∧ xs.length ≤ k ∧ Aside0 (Kd.R k39 39 wr w.heap.size (fun _ => True) v xs) ∧ Aside0 (xs ++ (liveFrom k (l.drop k)).map s39 = (liveZ l).map s39) ∧ Aside0 (Below w.heap.size w wr)) (fun _ i _ => l.length - (intOf i).toNat)
  case atStart => exact ⟨0, [], Nat.zero_le _, rfl, Nat.le_refl _, ⟨Kd.R_nil _ _ _ _ _⟩, ⟨rfl⟩, ⟨Below.refl _ _⟩⟩
  case round =>
    obtain ⟨k, xs, hk, rfl, hxs, HR, HE, HB⟩ := hrel
    have hT := HT.out wr HB.out
    by_cases hlt : k < l.length
    · obtain ⟨gen, alive, o2, r2, ow, uu, v2, hs⟩ := slEx (atS l k)
      obtain ⟨d0, d1, d2, d3, d4, d5, d6⟩ := hT.cs hlt hs
      have hee := HE.out
      rw [drop_atS l k hlt, hs] at hee
      unfold liveFrom at hee
      simp only at hee
      clear hT hs HE
      cases alive
      · rw [if_neg (by decide)] at hee
        have HE := Aside0.mk hee
        clear hee
        go_wp2
        exact ⟨⟨k + 1, xs, by omega, by go_num, by omega, ⟨Kd.R_alloc HR.out _⟩, HE, ⟨below_alloc HB.out _⟩⟩, by simp [intOf]; omega⟩
      · rw [if_pos rfl, List.map_cons] at hee
        have HE := Aside0.mk hee
        clear hee
        go_wp2_with (first | ((with_reducible refine gate_builtin (b := .append) (xs := #[.tmp 21, .tmp 29]) rfl ?_); at_builtin; refine Kd.R_append k39 (w0 := w) w.heap.size rfl (.tmp 21) (.tmp 29) 34 39 (.agg #[(.int .i64 0), (.int .i64 0), (.int .i64 0), (.int .i64 0), (.int .i64 0), (.int .i64 0), (.int .i64 0)]) 56 rfl Try.underlying34 (by kernel_rfl) rfl (by decide) (by omega) _ xs (⟨⟨(k : Int), gen⟩, ⟨o2, r2, ow, ⟨uu, v2⟩⟩⟩ : S39) [.int .i64 (k : Int), .int .i64 gen, .int .i64 o2, .int .i64 r2, .int .i64 ow, .int .i64 uu, .int .i64 v2] (fun _ => True) (fun _ => False) rfl ?aX ?aP (fun _ hk => hk.elim) ?aF ?aO ?aB ?aS ?aL ?_; (case aX => simp [Act.eval]); (case aP => exact k39_mkM _ _ _ (⟨⟨(k : Int), gen⟩, ⟨o2, r2, ow, ⟨uu, v2⟩⟩⟩ : S39)); (case aB => exact below_alloc HB.out _); (case aF => exact fun _ _ => trivial); (case aO => exact Kd.R_alloc HR.out _); (case aS => exact below_size (below_alloc HB.out _)); (case aL => omega); intro v1 w2 ho hb hg hat; have HO := Aside0.mk ho; have HB2 := Aside0.mk hb; clear ho hb hg hat))
        exact ⟨⟨k + 1, _, by omega, by go_num, by simp; omega, HO, ⟨by rw [List.append_assoc]; exact HE.out⟩, HB2⟩, by simp [intOf]; omega⟩
    · have HE2 : Aside0 (xs = (liveZ l).map s39) := ⟨by
        have := HE.out
        rw [List.drop_of_length_le (by omega)] at this
        simpa [liveFrom] using this⟩
      have hge : l.length ≤ k := by omega
      clear hT HE
      go_wp2
      go_ret
      exact ⟨_, rfl, by rw [← HE2.out]; exact HR.out, HB.out⟩

end Go.Proofs.Ytecbdhampjmlaaa.Ext
