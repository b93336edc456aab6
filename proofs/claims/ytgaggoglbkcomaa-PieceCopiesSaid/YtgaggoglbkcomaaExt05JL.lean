/- Cut where it succeeds; Text. Text, Copy. The store as a state: total contracts; the laws' alive. -/
import Derived.Test.YtgaggoglbkcomaaExt05EI
import Derived.Test.YtgaggoglbkcomaaExt05AD
import Derived.Test.YtgaggoglbkcomaaExtSC
import Derived.Test.YtgaggoglbkcomaaXRRx5
import Derived.Test.YtgaggoglbkcomaaXRRx2
import Derived.Test.YtgaggoglbkcomaaXRRx0
import Derived.Test.YtgaggoglbkcomaaWMore
import Derived.Test.YtgaggoglbkcomaaShelf
import Derived.Shelf.Strings.BuilderK
import Derived.WalkKit
import Derived.WalkMore
import Derived.Below
import Derived.KernelRfl
import Derived.LoopTactic
import Derived.Deep.RegionWith
import Derived.Deep.RegionHeld3
import Derived.IntWalk
import Derived.Deep.DeepCutAuto
import Derived.Deep.CutBlock
import Derived.BigQuiet
import Derived.Laws.RangeString
import Derived.Laws.RangeAny
import Derived.Laws.Rows
import Derived.Laws.Runes
import Derived.Lib.OthersKept
import Derived.OpenShut
import Derived.Laws.CopyOwn
import Derived.BigRegion
import Derived.RegionTactic
import Derived.Laws.MakeOwn
import Derived.Test.YtgaggoglbkcomaaXRRx3
set_option linter.unusedVariables false
set_option linter.unusedSimpArgs false
namespace Go.Proofs.Ytgaggoglbkcomaa.Ext
open Go.RowKit Go.Lib Go.Proofs.YtgaggoglbkcomaaW.PrintWords Go.Proofs.YtgaggoglbkcomaaW.PrintMore Go.Proofs.Ytgaggoglbkcomaa.XRR

theorem CB.start {w u W w4 : World} {P mo n T : Nat} {va vs vz : Value} {ad : List Int} {xs zs : List Sp} (hM : SM w u P mo va vs ad xs n) (hb : Below u.heap.size u W) (hT : BX W T ⟨#[]⟩ (.slice none 0 0)) (ho : OS (W.alloc (.cells #[.pointer none, .slice none 0 0] 86)) w4 vz zs) : CB w u w4 P mo va vs ad xs n T W.heap.size (.pointer none) (.slice none 0 0) (nums .u8 []) vz zs (.slice none 0 0) [] := by
  have h1 : Below u.heap.size u (W.alloc (.cells #[.pointer none, .slice none 0 0] 86)) := below_alloc hb _
  exact ⟨hM, below_step h1 ho.b, (hT.below (below_alloc (Below.refl _ _) _)).below ho.b, BS.below ⟨hb.size, heap_alloc_new _ _, World.ownsRow_nil _ _ _ _, nofun⟩ ho.b, ho.base h1, Kd.R_nil _ _ _ _ _⟩
theorem CB.box {w u wr w' : World} {P mo n T bb pb : Nat} {va vs p v vz vr : Value} {ad : List Int} {xs zs : List Sp} {bs : List Value} {r : List Rn} {cells : Array Value} (h : CB w u wr P mo va vs ad xs n T bb p v bs vz zs vr r) (hk : Kp (fun k => k = bb ∨ v.ownBlock = some k) wr w') (hx : wr.heap[pb]? = some (.cells cells 83 (0, 0))) : w'.heap[pb]? = some (.cells cells 83 (0, 0)) := by
  refine (hk.block _ (Array.getElem?_eq_some_iff.1 hx).1 (fun e => ?_)).trans hx
  rcases e with e | e
  · rw [e, h.B.x] at hx
    cases hx
  · obtain ⟨c', hc'⟩ := own_typed h.B.o _ e
    rw [hc'] at hx
    cases hx
theorem lab_take {zs : List Sp} (q : Nat) : (lab ((zs.take q).map (·.o))).length ≤ (lab (zs.map (·.o))).length := by
  have h : zs.map (·.o) = (zs.take q).map (·.o) ++ (zs.drop q).map (·.o) := by rw [← List.map_append, List.take_append_drop]
  rw [h, lab_append, List.length_append]
  omega
theorem cut_step {zs : List Sp} {q : Nat} {p : Sp} {r : List Rn} (hz : zs[q]? = some p) (hp : goodB p.o.r = true) (hr : goodB r = true) (hb : bytesR r = lab ((zs.take q).map (·.o))) (h4 : (lab (zs.map (·.o))).length ≤ 4096) : nB r + nB p.o.r ≤ 4096 ∧ goodB (spl r (nB r) (nB r) p.o.r) = true ∧ bytesR (spl r (nB r) (nB r) p.o.r) = lab ((zs.take (q + 1)).map (·.o)) := by
  have e : lab ((zs.take (q + 1)).map (·.o)) = bytesR r ++ bytesR p.o.r := by
    rw [take_snoc hz, List.map_append, lab_append, hb]
    show _ ++ (bytesR p.o.r ++ []) = _
    rw [List.append_nil]
  have hl := lab_take (zs := zs) (q + 1)
  rw [e, List.length_append] at hl
  have hl' : nB r + nB p.o.r ≤ 4096 := by unfold nB; omega
  obtain ⟨h1, h2⟩ := spl_end hr hp (nB r) rfl
  refine ⟨hl', (goodB_iff _).2 ⟨h1, ?_⟩, by rw [h2, e]⟩
  have e4 : nB (spl r (nB r) (nB r) p.o.r) = nB r + nB p.o.r := by
    show (bytesR _).length = _
    rw [h2, List.length_append]
    rfl
  omega
theorem txt_step {ad : List Int} {zs : List Sp} {q : Nat} {p : Sp} (hz : zs[q]? = some p) : txt ad ((zs.take (q + 1)).map (·.o)) = txt ad ((zs.take q).map (·.o)) ++ (ad.drop p.o.f).take p.o.n := by
  rw [take_snoc hz, List.map_append, txt_append]
  show _ ++ (_ ++ []) = _
  rw [List.append_nil]
theorem nums_bytes (x : ByteArray) : nums .u8 (bytesOf x) = Lib.strCells x := by
  have := nums_str [] x
  simpa [nums] using this
theorem win_ok (g len cap f n : Nat) (hn : 1 ≤ n) (h : f + n ≤ cap) (W : World) : (Instr.slice 68 (.slice (some ⟨g, 0, none⟩) len cap) (some (.int .i64 (f : Int))) (some (.int .i64 ((f : Int) + (n : Int)))) none).run Try.prog W = .ok (.slice (some ⟨g, f, none⟩) n (cap - f)) W := by
  have := Lib.run_slice_window (P := Try.prog) W 68 5 Try.underlying68 (fun w => by kernel_rfl) g 0 len cap f (f + n) (by omega) h
  rw [Nat.zero_add, Nat.add_sub_cancel_left, Int.natCast_add] at this
  exact this
theorem txt_len {ad : List Int} : ∀ {l : List Co}, (txt ad l).length ≤ tot l
  | [] => Nat.le_refl _
  | p :: l => by
    rw [txt_cons, List.length_append, List.length_take]
    have := txt_len (ad := ad) (l := l)
    simp only [tot]
    omega
theorem nums_len (l : List Int) : (nums .u8 l).length = l.length := by simp [nums]
theorem nums_app (a b : List Int) : nums .u8 (a ++ b) = nums .u8 a ++ nums .u8 b := nums_append ..
theorem nums_one (l : List Int) : ∀ u, u ∈ nums .u8 l → u.oneCell' = true := by
  intro u hu
  unfold nums at hu
  obtain ⟨x, -, rfl⟩ := List.mem_map.1 hu
  rfl
theorem nums_get {l : List Int} {f n j : Nat} {u : Value} (h : (nums .u8 ((l.drop f).take n))[j]? = some u) : (nums .u8 l)[f + j]? = some u := by
  unfold nums at h ⊢
  rw [List.getElem?_map] at h ⊢
  rw [List.getElem?_take] at h
  by_cases c : j < n
  · rw [if_pos c, List.getElem?_drop] at h
    exact h
  · rw [if_neg c] at h
    cases h
theorem write_ok {w u wr : World} {P mo n T bb ga c : Nat} {vs p v vz vr : Value} {ad tx : List Int} {xs zs : List Sp} {r : List Rn} (h : CB w u wr P mo (.slice (some ⟨ga, 0, none⟩) ad.length c) vs ad xs n T bb p v (nums .u8 tx) vz zs vr r) (hp : p = .pointer none ∨ p = .pointer (some ⟨bb, 0, none⟩)) (z : Co) (hz : GoodP ad.length z) (ht : tx.length ≤ 1000000000) (hN : ad.length ≤ 1000000000) :
    Calls Try.prog 39 #[.pointer (some ⟨bb, 0, none⟩), .slice (some ⟨ga, z.f, none⟩) z.n (c - z.f)] wr fun e w' => e = .returned (.tuple #[.int .i64 z.n, .nilIface]) ∧ ∃ v', CB w u w' P mo (.slice (some ⟨ga, 0, none⟩) ad.length c) vs ad xs n T bb (.pointer (some ⟨bb, 0, none⟩)) v' (nums .u8 (tx ++ (ad.drop z.f).take z.n)) vz zs vr r ∧ Kp (fun k => k = bb ∨ v.ownBlock = some k) wr w' := by
  have ha := h.store.a
  obtain ⟨cells, hga⟩ := own_typed ha ga rfl
  have hn := hz.f
  refine (Write_w u.heap.size bb p v (nums .u8 tx) ⟨ga, z.f, none⟩ z.n (c - z.f) (nums .u8 ((ad.drop z.f).take z.n)) wr h.B hp (by rw [nums_len, goodP_len hz]) ?_ ?_ (Array.getElem?_eq_some_iff.1 hga).1 (nums_one _) ?_ h.b.size).mono ?_
  · intro j x hj
    have := ha.cells (g := ga) rfl (z.f + j) x (nums_get hj)
    rw [show ((⟨ga, z.f, none⟩ : Addr).add j) = ((⟨ga, 0, none⟩ : Addr).add (z.f + j)) from by
      unfold Addr.add
      by_cases h0 : j = 0
      · subst h0
        by_cases h1 : z.f = 0
        · simp [h1]
        · simp [h1]
      · have h2 : ¬ (z.f + j = 0) := by omega
        simp [h0, h2]]
    exact this
  · intro e
    have h1 := h.B.x
    have hga' : wr.heap[bb]? = some (.cells cells 5 (0, 0)) := by rw [← e]; exact hga
    rw [h1] at hga'
    cases hga'
  · rw [nums_len]
    omega
  · rintro e w' ⟨rfl, v', hB, hk, hb⟩
    rw [← nums_app] at hB
    exact ⟨rfl, v', h.write hB hk hb, hk⟩
theorem nums_cells (x : ByteArray) : nums .u8 (bytesOf x) = Lib.byteCells x.data.toList := by
  exact nums_bytes x
theorem Kp.others {w w' : World} {b : Nat} (h : Lib.OthersKept 5 (some b) w w') (hs : w.heap.size ≤ w'.heap.size) : Kp (fun k => k = b ∨ ∃ c fz, w.heap[k]? = some (.cells c 5 fz)) w w' :=
  ⟨hs, fun k hk hn => by
    have e := Array.getElem?_eq_getElem hk
    rw [e]
    refine h k _ e (fun e' => hn (Or.inl (by injection e'))) (fun c fz e' => hn (Or.inr ⟨c, fz, by rw [e, e']⟩))⟩
theorem string_ok {w u wr : World} {P mo n T bb : Nat} {va vs p v vz vr : Value} {ad : List Int} {xs zs : List Sp} {x : ByteArray} {r : List Rn} (h : CB w u wr P mo va vs ad xs n T bb p v (nums .u8 (bytesOf x)) vz zs vr r) (hp : p = .pointer none ∨ p = .pointer (some ⟨bb, 0, none⟩)) :
    Calls Try.prog 41 #[.pointer (some ⟨bb, 0, none⟩)] wr fun e w' => e = .returned (.string x) ∧ Below u.heap.size wr w' ∧ BX w' T ⟨#[]⟩ (.slice none 0 0) ∧ RR w' u.heap.size vr r := by
  have hB := h.B
  rw [nums_cells] at hB
  have hI : Lib.IsBuilder 86 5 u.heap.size bb (Lib.byteCells x.data.toList) wr := by
    rcases hp with rfl | rfl
    · exact Or.inl ⟨hB.le, v, hB.x, hB.o, hB.ne⟩
    · exact Or.inr ⟨hB.le, v, hB.x, hB.o, hB.ne⟩
  refine (Any.Builder_String_any_k Try.lays169 Try.Builder_Extra_169 u.heap.size bb x.data.toList wr (Lib.IsBuilderF.of hI) h.b.size).mono ?_
  rintro e w' ⟨rfl, -, hb, ho⟩
  have hk := Kp.others ho hb.size
  have ty : ∀ g, (g = bb ∨ ∃ c fz, wr.heap[g]? = some (.cells c 5 fz)) → ∀ q, (q = 29 ∨ q = 24) → ∀ cells, wr.heap[g]? ≠ some (.cells cells q (0, 0)) := by
    intro g hg q hq cells hc
    rcases hg with rfl | ⟨c, fz, hg⟩
    · rw [h.B.x] at hc
      rcases hq with e | e <;> (subst e; cases hc)
    · rw [hg] at hc
      rcases hq with e | e <;> (subst e; cases hc)
  refine ⟨rfl, hb, ⟨?_⟩, R_keep h.r hk (fun g hg q hq => by
    rcases List.mem_cons.1 hq with e | e
    · exact ty g hg q (.inl e)
    · exact (List.not_mem_nil e).elim)⟩
  exact (hk.block _ (Array.getElem?_eq_some_iff.1 h.T.x).1 (fun e => ty _ e _ (.inr rfl) _ h.T.x)).trans h.T.x
theorem CB.cat {w u wr w' : World} {P mo n T bb : Nat} {va vs p v vz vr vr' : Value} {ad : List Int} {xs zs : List Sp} {bs : List Value} {r r' : List Rn} (h : CB w u wr P mo va vs ad xs n T bb p v bs vz zs vr r) (hr : RR w' wr.heap.size vr' r') (hb : Below wr.heap.size wr w') : CB w u w' P mo va vs ad xs n T bb p v bs vz zs vr' r' := by
  have k := h.below hb
  exact ⟨k.M, k.b, k.T, k.B, k.z, Kd.R_lower hr h.b.size⟩
set_option maxRecDepth 100000 in
set_option maxHeartbeats 8000000 in
theorem cut_ok {w u : World} {P mo n : Nat} {va vs : Value} {ad : List Int} {xs : List Sp} {s : ByteArray} {rl : List Rn} (h : SM w u P mo va vs ad xs n) (hp : PS ad (xs.map (·.o)) s rl) (hn : n = s.size) (hN : ad.length ≤ 1000000000) (a b : Nat) (hab : a ≤ b) (hb : b ≤ n) :
    Calls Try.prog 21 #[.pointer (some ⟨P, 0, none⟩), .int .i64 a, .int .i64 b] u fun e w' => ∃ A c, e = .returned (.tuple #[vT (s.extract a b) (sv A (sli rl a b) c), .int .i64 0]) ∧ RR w' u.heap.size (sv A (sli rl a b) c) (sli rl a b) ∧ Below u.heap.size u w' := by
  obtain ⟨Aa, ca, hva⟩ : ∃ (A : Option Addr) (c : Nat), va = .slice A ad.length c := by
    rcases h.a.2 with ⟨e, e2⟩ | ⟨g, cap, cur, e, -⟩
    · exact ⟨none, 0, by rw [e, e2]⟩
    · exact ⟨_, _, e⟩
  subst hva
  have hs4 := goodT_sz hp.gt
  have htt : tot (xs.map (·.o)) ≤ 4096 := by have := hp.tot; omega
  have hxl : xs.length ≤ 4096 := by have h1 := tot_len hp.g; rw [List.length_map] at h1; omega
  have hgx : ∀ q, q ∈ xs → GoodP ad.length q.o := fun q hq => hp.g _ (List.mem_map_of_mem hq)
  have HCUT := Aside0.mk (hp.cut a b hab)
  have H4 : Aside0 ((bytesR (sli rl a b)).length ≤ 4096) := ⟨by
    rw [(sli_ok (goodT_good hp.gt).1 a b hab).2, List.length_drop, List.length_take]
    omega⟩
  have HEX : Aside0 ((s.extract a b).size ≤ 4096) := ⟨by
    rw [ByteArray.size_extract]
    omega⟩
  have HSL := Aside0.mk (sli_ok (goodT_good hp.gt).1 a b hab)
  have HGZ := Aside0.mk (someC_good a b (xs.map (·.o)) 0 hp.g)
  have HGD := Aside0.mk (fun (W : World) (k : SM w W P mo (.slice Aa ad.length ca) vs ad xs n) => good_w k)
  have HWI := Aside0.mk (fun (W : World) (k : SM w W P mo (.slice Aa ad.length ca) vs ad xs n) => within_w k (a : Int) (b : Int))
  rw [decide_eq_true (⟨by omega, by omega, by omega⟩ : (0 : Int) ≤ a ∧ (a : Int) ≤ b ∧ (b : Int) ≤ n)] at HWI
  have HPI := Aside0.mk (fun (W : World) (k : SM w W P mo (.slice Aa ad.length ca) vs ad xs n) => pieces_w k (by omega) hgx htt hxl a b (by omega) (by omega))
  have HSU := Aside0.mk h
  have HNN := Aside0.mk hN
  have HB := Aside0.mk (below_alloc (Below.refl u.heap.size u) (.cells #[.string ⟨#[]⟩, .slice none 0 0] 24))
  have HX : Aside0 (BX (u.alloc (.cells #[.string ⟨#[]⟩, .slice none 0 0] 24)) u.heap.size ⟨#[]⟩ (.slice none 0 0)) := ⟨⟨heap_alloc_new _ _⟩⟩
  have HM := Aside0.mk (h.below (below_alloc (Below.refl _ _) (.cells #[.string ⟨#[]⟩, .slice none 0 0] 24)))
  clear h hp hn hN hb hab hs4 htt hxl hgx
  obtain ⟨s0, s1, s2, s3, s4⟩ := HM.out.cells; have sl := HM.out.lt; obtain ⟨x0, x1, x2, x3⟩ := HX.out.cells; have xl := HX.out.lt
  go_enter Try.func21, Try.ntmps21
  go_wp2_with (first | (go_at_call 35; (with_reducible refine (HGD.out _ HM.out).mono ?_); rintro e w1 ⟨rfl, hb1⟩; have HM := Aside0.mk (HM.out.below hb1); have HX := Aside0.mk (HX.out.below hb1); have HB := Aside0.mk (below_step HB.out hb1); clear hb1 s0 s1 s2 s3 s4 sl x0 x1 x2 x3 xl; obtain ⟨s0, s1, s2, s3, s4⟩ := HM.out.cells; have sl := HM.out.lt; obtain ⟨x0, x1, x2, x3⟩ := HX.out.cells; have xl := HX.out.lt) | (go_at_call 37; (with_reducible refine (HWI.out _ HM.out).mono ?_); rintro e w3 ⟨rfl, hb1⟩; have HM := Aside0.mk (HM.out.below hb1); have HX := Aside0.mk (HX.out.below hb1); have HB := Aside0.mk (below_step HB.out hb1); clear hb1 s0 s1 s2 s3 s4 sl x0 x1 x2 x3 xl; obtain ⟨s0, s1, s2, s3, s4⟩ := HM.out.cells; have sl := HM.out.lt; obtain ⟨x0, x1, x2, x3⟩ := HX.out.cells; have xl := HX.out.lt) | (go_at_call 38; (with_reducible refine (HPI.out _ (HM.out.below ?sb)).mono ?_); (case sb => exact (by repeat (first | (with_reducible first | exact Below.refl _ _ | apply pw_below_drewN | apply below_alloc | apply below_drew) | exact Below.refl _ _))); rintro e w4 ⟨zs, Az, cz, rfl, hz, ho⟩; have HZ := Aside0.mk hz; have HCB := Aside0.mk (CB.start HSU.out HB.out HX.out ho); clear hz ho s0 s1 s2 s3 s4 sl x0 x1 x2 x3 xl HM HX HB))
  have HZG : Aside0 (∀ p, p ∈ zs → GoodP ad.length p.o) := ⟨fun p hp => HGZ.out _ (by rw [← HZ.out]; exact List.mem_map_of_mem hp)⟩
  have HLZ : Aside0 ((lab (zs.map (·.o))).length ≤ 4096) := ⟨by
    rw [HZ.out, HCUT.out.2]
    exact H4.out⟩
  have HTZ : Aside0 (tot (zs.map (·.o)) ≤ 4096) := ⟨by
    have h2 := tot_txt HGZ.out
    rw [HCUT.out.1, bO_len] at h2
    rw [HZ.out, ← h2]
    exact HEX.out⟩
  have HZL : Aside0 (zs.length ≤ 4096) := ⟨by
    have h1 := tot_len HGZ.out
    have h2 := tot_txt HGZ.out
    rw [HCUT.out.1, bO_len] at h2
    have e := congrArg List.length HZ.out
    rw [List.length_map] at e
    have := HEX.out
    omega⟩
  go_loopw [9, 29] (fun rr ii wr => ∃ (q : Nat) (r : List Rn) (vr p v : Value) (wr1 : World), wr1 = wr ∧ vr = rr ∧ ii = .int .i64 (q : Nat) ∧ q ≤ zs.length ∧ Aside0 (goodB r = true ∧ bytesR r = lab ((zs.take q).map (·.o))) ∧ Aside0 (p = .pointer none ∨ p = .pointer (some ⟨w3.heap.size, 0, none⟩)) ∧ Aside0 (CB w u wr1 P mo (.slice Aa ad.length ca) vs ad xs n u.heap.size w3.heap.size p v (nums .u8 (txt ad ((zs.take q).map (·.o)))) (.slice Az zs.length cz) zs vr r)) (fun _ ii _ => zs.length - (RowKit.intOf ii).toNat)
  case atStart => exact ⟨0, [], _, _, _, _, rfl, rfl, rfl, Nat.zero_le _, ⟨⟨by decide, rfl⟩⟩, ⟨Or.inl rfl⟩, HCB⟩
  case round =>
    obtain ⟨q, r, vr, pv, v, wr1, rfl, rfl, rfl, hq, HR, HPV, HCB⟩ := hrel
    obtain ⟨Ar, cr, ev⟩ := Kd.R_slice HCB.out.r
    subst ev
    by_cases hql : q < zs.length
    · obtain ⟨p, hp⟩ : ∃ p, zs[q]? = some p := ⟨_, List.getElem?_eq_getElem hql⟩
      have hpm := List.mem_of_getElem? hp
      have HGP := Aside0.mk (HZG.out p hpm)
      have HST := Aside0.mk (cut_step hp HGP.out.g HR.out.1 HR.out.2 HLZ.out)
      have HTS := Aside0.mk (txt_step (ad := ad) hp)
      obtain ⟨adz, c', hsl, -⟩ := HCB.out.z.o.elem q p hp
      cases hsl
      obtain ⟨z0, z1, z2⟩ := HCB.out.z.o.elem' q p hp
      have hf := HGP.out.f
      have hn1 := HGP.out.p
      have hNN := HNN.out
      obtain ⟨ga, cap, cur, hva, hcl⟩ : ∃ ga cap, ∃ cur : Array Value, Value.slice Aa ad.length ca = .slice (some ⟨ga, 0, none⟩) ad.length cap ∧ ad.length ≤ cap := by
        rcases HSU.out.a.2 with ⟨e, e2⟩ | ⟨g, cap, cur, e, -, -, h3, -⟩
        · omega
        · exact ⟨_, _, cur, e, h3⟩
      cases hva
      go_upto_region 10 with (fail)
      have HCB := Aside0.mk (HCB.out.below (below_alloc (Below.refl _ _) (.cells #[.int .i64 p.o.f, sv p.A p.o.r p.c, .int .i64 p.o.n] 83)))
      have HB := Aside0.mk (heap_alloc_new wr1 (.cells #[.int .i64 p.o.f, sv p.A p.o.r p.c, .int .i64 p.o.n] 83))
      have k0 := cell_of_row _ _ 0 _ _ _ HB.out
      have k1 := cell_of_row _ _ 1 _ _ _ HB.out
      have k2 := cell_of_row _ _ 2 _ _ _ HB.out
      clear z0 z1 z2
      generalize wr1.heap.size = pb at *
      generalize World.alloc wr1 _ = w1 at *
      have s2 := HCB.out.store.cells.2.2.1
      have hw4 : IntKind.i64.wrap ((p.o.f : Int) + (p.o.n : Int)) = (p.o.f : Int) + (p.o.n : Int) := by rw [wrap_ok _ (by omega)]
      have hq0 : (txt ad ((zs.take q).map (·.o))).length ≤ 1000000000 := by
        have h1 := txt_len (ad := ad) (l := (zs.take q).map (·.o))
        have h2 := tot_take zs q
        have h3 := HTZ.out
        omega
      have HWR := Aside0.mk (fun (W : World) (h : CB w u W P mo (.slice (some ⟨ga, 0, none⟩) ad.length ca) vs ad xs n u.heap.size w3.heap.size pv v (nums .u8 (txt ad ((zs.take q).map (·.o)))) (.slice (some adz) zs.length cz) zs (.slice Ar r.length cr) r) => write_ok h HPV.out p.o HGP.out hq0 hNN)
      have HCA := Aside0.mk (fun (W : World) {pv v : Value} {bs : List Value} (h : CB w u W P mo (.slice (some ⟨ga, 0, none⟩) ad.length ca) vs ad xs n u.heap.size w3.heap.size pv v bs (.slice (some adz) zs.length cz) zs (.slice Ar r.length cr) r) => CatR_w W Ar p.A cr p.c r p.o.r (Kd.R_reads' h.r).2.2 (Kd.R_reads' h.r).2.1 (Kd.R_reads' (h.z.r p hpm)).2.2 (Kd.R_reads' (h.z.r p hpm)).2.1 HR.out.1 HGP.out.g HST.out.1)
      have hsl := win_ok ga ad.length ca p.o.f p.o.n hn1 (by omega)
      go_region_held3 (fun w' => ((w'.cell? ⟨P, 2, none⟩ = some (.slice (some ⟨ga, 0, none⟩) ad.length ca) ∧ w'.cell? ⟨pb, 0, none⟩ = some (.int .i64 p.o.f)) ∧ w'.cell? ⟨pb, 2, none⟩ = some (.int .i64 p.o.n))) (first | exact ⟨⟨s2, k0⟩, k2⟩ | exact ⟨⟨HCB.out.store.cells.2.2.1, cell_of_row _ pb 0 _ _ _ HB.out⟩, cell_of_row _ pb 2 _ _ _ HB.out⟩ | go_keep) (first | (go_at_call 39; (with_reducible refine (HWR.out _ (HCB.out.below ?sb)).mono ?_); (case sb => exact (by repeat (first | (with_reducible first | exact Below.refl _ _ | apply pw_below_drewN | apply below_alloc | apply below_drew) | exact Below.refl _ _))); rintro e w5 ⟨rfl, v5, hcb, hk5⟩; have HB := Aside0.mk ((HCB.out.below (by repeat (first | (with_reducible first | exact Below.refl _ _ | apply pw_below_drewN | apply below_alloc | apply below_drew) | exact Below.refl _ _))).box hk5 (blk_below HB.out (by repeat (first | (with_reducible first | exact Below.refl _ _ | apply pw_below_drewN | apply below_alloc | apply below_drew) | exact Below.refl _ _)))); have HCB := Aside0.mk hcb; clear hcb hk5; have j1 := cell_of_row w5 pb 1 _ _ _ HB.out))
      go_wp2_with (first | (go_at_call 40; (with_reducible refine (HCA.out _ HCB.out).mono ?_); rintro e w6 ⟨A6, c6, rfl, hr6, hb6⟩; have HCB := Aside0.mk (HCB.out.cat hr6 hb6); clear hr6 hb6))
      have hwq : wrap64 ((q : Int) + 1) = ((q + 1 : Nat) : Int) := by have := HZL.out; rw [IntWalk.wrap64_in _ ⟨by omega, by omega⟩]; omega
      exact ⟨⟨q + 1, _, _, _, v5, w6, rfl, rfl, by rw [hwq], hql, ⟨HST.out.2⟩, ⟨Or.inr rfl⟩, ⟨by rw [HTS.out]; exact HCB.out⟩⟩, by simp only [hwq]; exact meas hql⟩
    · have hqe : q = zs.length := by omega
      subst hqe
      have hR := HR.out
      have hC := HCB.out
      rw [List.take_length] at hR hC
      rw [HZ.out, HCUT.out.2] at hR
      rw [HZ.out, HCUT.out.1] at hC
      obtain rfl := pk_inj (good_pk hR.1) HSL.out.1 hR.2
      have HST := Aside0.mk (string_ok hC HPV.out)
      have HCB := Aside0.mk hC
      clear hR hC HR hql hq
      go_wp2_with (first | (go_at_call 41; (with_reducible refine HST.out.mono ?_); rintro e w5 ⟨rfl, hb5, hx5, hr5⟩; obtain ⟨x0, x1, f0, f1⟩ := hx5.cells; have HB5 := Aside0.mk hb5; have HX5 := Aside0.mk hx5; have HR5 := Aside0.mk hr5; clear hb5 hx5 hr5))
      have hx2 := heap_setCell_same _ u.heap.size 1 _ _ (sv Ar (sli rl a b) cr) (heap_setCell_same _ u.heap.size 0 _ _ (.string (s.extract a b)) HX5.out.x)
      have c0 := cell_of_row _ u.heap.size 0 _ _ _ hx2
      have c1 := cell_of_row _ u.heap.size 1 _ _ _ hx2
      exact bodyPost_ret (v := .tuple #[vT (s.extract a b) (sv Ar (sli rl a b) cr), .int .i64 0]) (by simp [results, Try.results21, go_sem, c0, c1]) rfl ⟨Ar, cr, rfl, R_two HR5.out HX5.out _ _, two_set (HCB.out.b.trans HB5.out) (Nat.le_refl _)⟩

end Go.Proofs.Ytgaggoglbkcomaa.Ext

set_option linter.unusedVariables false
set_option linter.unusedSimpArgs false
namespace Go.Proofs.Ytgaggoglbkcomaa.Ext
open Go.RowKit Go.Lib Go.Proofs.YtgaggoglbkcomaaW.PrintWords Go.Proofs.YtgaggoglbkcomaaW.PrintMore Go.Proofs.Ytgaggoglbkcomaa.XRR

theorem sli_whole {s : ByteArray} {rl : List Rn} (h : goodT s rl = true) : sli rl ((0 : Nat) : Int) (s.size : Int) = rl := by
  obtain ⟨hg, hn⟩ := goodT_good h
  obtain ⟨h1, h2⟩ := sli_ok hg 0 s.size (Nat.zero_le _)
  refine pk_inj h1 (good_pk hg) ?_
  rw [h2, List.drop_zero, List.take_of_length_le]
  unfold nB at hn
  omega
set_option maxRecDepth 100000 in
set_option maxHeartbeats 4000000 in
theorem text_ok {w u : World} {P mo n : Nat} {va vs : Value} {ad : List Int} {xs : List Sp} {s : ByteArray} {rl : List Rn} (h : SM w u P mo va vs ad xs n) (hp : PS ad (xs.map (·.o)) s rl) (hn : n = s.size) (hN : ad.length ≤ 1000000000) :
    Calls Try.prog 20 #[.pointer (some ⟨P, 0, none⟩)] u fun e w' => ∃ A c, e = .returned (vT s (sv A rl c)) ∧ RR w' u.heap.size (sv A rl c) rl ∧ Below u.heap.size u w' := by
  have HCU : Aside0 (∀ (W : World), SM w W P mo va vs ad xs n → Calls Try.prog 21 #[.pointer (some ⟨P, 0, none⟩), .int .i64 0, .int .i64 n] W fun e w' => ∃ A c, e = .returned (.tuple #[vT s (sv A rl c), .int .i64 0]) ∧ RR w' W.heap.size (sv A rl c) rl ∧ Below W.heap.size W w') := ⟨fun W k => by
    have := cut_ok k hp hn hN 0 n (Nat.zero_le _) (Nat.le_refl _)
    rw [hn, ext_all, sli_whole hp.gt] at this
    rw [hn]
    exact this⟩
  have HGD := Aside0.mk (fun (W : World) (k : SM w W P mo va vs ad xs n) => good_w k)
  have HB := Aside0.mk (below_alloc (Below.refl u.heap.size u) (.cells #[.string ⟨#[]⟩, .slice none 0 0] 24))
  have HX : Aside0 (BX (u.alloc (.cells #[.string ⟨#[]⟩, .slice none 0 0] 24)) u.heap.size ⟨#[]⟩ (.slice none 0 0)) := ⟨⟨heap_alloc_new _ _⟩⟩
  have HM := Aside0.mk (h.below (below_alloc (Below.refl _ _) (.cells #[.string ⟨#[]⟩, .slice none 0 0] 24)))
  clear h hp hn hN
  obtain ⟨s0, s1, s2, s3, s4⟩ := HM.out.cells; have sl := HM.out.lt; obtain ⟨x0, x1, x2, x3⟩ := HX.out.cells; have xl := HX.out.lt
  go_enter Try.func20, Try.ntmps20
  go_wp2_with (first | (go_at_call 35; (with_reducible refine (HGD.out _ HM.out).mono ?_); rintro e w1 ⟨rfl, hb1⟩; have HM := Aside0.mk (HM.out.below hb1); have HX := Aside0.mk (HX.out.below hb1); have HB := Aside0.mk (below_step HB.out hb1); clear hb1 s0 s1 s2 s3 s4 sl x0 x1 x2 x3 xl; obtain ⟨s0, s1, s2, s3, s4⟩ := HM.out.cells; have sl := HM.out.lt; obtain ⟨x0, x1, x2, x3⟩ := HX.out.cells; have xl := HX.out.lt) | (go_at_call 21; (with_reducible refine (HCU.out _ HM.out).mono ?_); rintro e w2 ⟨A2, c2, rfl, hr2, hb2⟩; have HM := Aside0.mk (HM.out.below hb2); have HX := Aside0.mk (HX.out.below hb2); have HR := Aside0.mk (Kd.R_lower hr2 HB.out.size : RR w2 u.heap.size _ _); have HB := Aside0.mk (below_step HB.out hb2); clear hb2 hr2 s0 s1 s2 s3 s4 sl x0 x1 x2 x3 xl; obtain ⟨s0, s1, s2, s3, s4⟩ := HM.out.cells; have sl := HM.out.lt; obtain ⟨x0, x1, x2, x3⟩ := HX.out.cells; have xl := HX.out.lt))
  have hx2 := blk_below (heap_setCell_same _ u.heap.size 1 _ _ (sv A2 rl c2) (heap_setCell_same _ u.heap.size 0 _ _ (.string s) HX.out.x)) (below_alloc (Below.refl _ _) (.cells #[.string s, sv A2 rl c2] 24))
  have c0 := cell_of_row _ u.heap.size 0 _ _ _ hx2
  have c1 := cell_of_row _ u.heap.size 1 _ _ _ hx2
  exact bodyPost_ret (v := vT s (sv A2 rl c2)) (by simp [results, Try.results20, go_sem, c0, c1]) rfl ⟨A2, c2, rfl, Kd.R_below (R_two HR.out HX.out _ _) (below_alloc (Below.refl _ _) _), below_alloc (two_set HB.out (Nat.le_refl _)) _⟩
theorem make_bytes (n : Nat) (hn : n ≤ 1000000000) (w : World) : (Instr.makeSlice 68 (.int .i64 (n : Int)) (.int .i64 (n : Int))).run Try.prog w = .ok (.slice (some ⟨w.heap.size, 0, none⟩) n n) (w.alloc (.cells (madeCells #[.int .u8 0] n) 5)) := by
  obtain ⟨i0, hi0, hz⟩ := Option.map_eq_some_iff.1 (show (Try.prog.info? 5).map (fun i => (i.zero, i.size, i.bytes)) = some (some (.int .u8 0), 1, 1) by kernel_rfl)
  simp only [Prod.mk.injEq] at hz
  obtain ⟨hz1, hz2, hz3⟩ := hz
  have hb : (i0.bytes : Int) * (n : Int) ≤ 281474976710656 := by rw [hz3]; omega
  have hr := run_make (P := Try.prog) w 68 5 i0 _ Try.underlying68 hi0 hz1 .i64 .i64 n n (by omega) (by omega) hb (by omega)
  rw [hz2] at hr
  simp only [Int.toNat_natCast, Nat.mul_one] at hr
  exact hr
theorem make_spans (n : Nat) (hn : n ≤ 100000) (w : World) : (Instr.makeSlice 69 (.int .i64 (n : Int)) (.int .i64 (n : Int))).run Try.prog w = .ok (.slice (some ⟨w.heap.size, 0, none⟩) n n) (w.alloc (.cells (madeCells #[.int .i64 0, .slice none 0 0, .int .i64 0] (n * 3)) 83)) := by
  obtain ⟨i0, hi0, hz⟩ := Option.map_eq_some_iff.1 (show (Try.prog.info? 83).map (fun i => (i.zero, i.size, i.bytes)) = some (some (.agg #[.int .i64 0, .slice none 0 0, .int .i64 0]), 3, 40) by kernel_rfl)
  simp only [Prod.mk.injEq] at hz
  obtain ⟨hz1, hz2, hz3⟩ := hz
  have hb : (i0.bytes : Int) * (n : Int) ≤ 281474976710656 := by rw [hz3]; omega
  have hr := run_make (P := Try.prog) w 69 83 i0 _ Try.underlying69 hi0 hz1 .i64 .i64 n n (by omega) (by omega) hb (by omega)
  rw [hz2] at hr
  simp only [Int.toNat_natCast] at hr
  exact hr
/-- Two rows of n elements each, copied. -/
theorem copy_row (w : World) (dT sT ty elem : TypeId) (sz g n dCap : Nat) (A : Option Addr) (sCap : Nat) (cur : Array Value) (t : TypeId) (cs : List Value)
    (hu : Try.prog.underlying dT = some (.slice elem)) (hs : (Try.prog.info? elem).map (·.size) = some sz)
    (hg : w.heap[g]? = some (.cells cur t (0, 0))) (hn : cs.length = n * sz) (hA : ∀ a, A = some a → ∀ j v, cs[j]? = some v → w.cell? (a.add j) = some v) (h0 : A = none → cs = [])
    (hfit : cur.size = n * sz) (h1 : ∀ v ∈ cs, v.oneCell' = true) :
    (Builtin.copy_ #[dT, sT] ty #[.slice (some ⟨g, 0, none⟩) n dCap, .slice A n sCap]).run Try.prog w = .ok (goInt n) (w.setRow g cs.toArray) := by
  have hst := run_storeCells_at Try.prog g 0 t cs 0 cur w hg (by omega) h1
  have hc : (cur.toList.take (0 + 0) ++ cs ++ cur.toList.drop (0 + 0 + cs.length)).toArray = cs.toArray := by
    rw [show 0 + 0 + cs.length = cur.toList.length from by have h := Array.length_toList (xs := cur); omega, List.drop_length]
    simp
  rw [hc] at hst
  cases hq : Try.prog.info? elem with
  | none => simp [hq] at hs
  | some i =>
    have hi : i.size = sz := by simpa [hq] using hs
    cases A with
    | none =>
      have he := h0 rfl
      subst he
      simp [Builtin.copy_, run_underlying hu, Builtin.lenOf, Builtin.firstCells, sizeOf, typeInfo, hq, hi]
      have hst' : (storeCells ⟨g, 0, none⟩ []).run Try.prog w = .ok () (w.setRow g #[]) := by simpa using hst
      rw [hst']
      rfl
    | some a =>
      have hl := run_loadCells_list (P := Try.prog) w a cs (hA a rfl)
      rw [hn] at hl
      simp [Builtin.copy_, run_underlying hu, Builtin.lenOf, Builtin.firstCells, sizeOf, typeInfo, hq, hi, hl, hst]
structure CPS (u wr : World) (mo : Nat) (ad : List Int) (xs : List Sp) (n C g1 g2 : Nat) (c1 c2 : Array Value) : Prop where
  b : Below u.heap.size u wr
  xc : wr.heap[C]? = some (.cells #[.bool true, .int .i64 mo, .slice (some ⟨g1, 0, none⟩) ad.length ad.length, .slice (some ⟨g2, 0, none⟩) xs.length xs.length, .int .i64 n] 71 (0, 0))
  x1 : wr.heap[g1]? = some (.cells c1 5 (0, 0))
  x2 : wr.heap[g2]? = some (.cells c2 83 (0, 0))
  l1 : u.heap.size ≤ g1
  l2 : u.heap.size ≤ g2
  l3 : u.heap.size ≤ C
theorem three (W : World) (a b c : Obj) : (((W.alloc a).alloc b).alloc c).heap[W.heap.size]? = some a ∧ (((W.alloc a).alloc b).alloc c).heap[W.heap.size + 1]? = some b ∧ (((W.alloc a).alloc b).alloc c).heap[W.heap.size + 1 + 1]? = some c := by
  have e1 : (W.alloc a).heap.size = W.heap.size + 1 := by simp
  have e2 : ((W.alloc a).alloc b).heap.size = W.heap.size + 1 + 1 := by simp
  refine ⟨?_, ?_, ?_⟩
  · rw [Below.heap_alloc _ _ _ (by omega), Below.heap_alloc _ _ _ (by omega)]
    exact heap_alloc_new _ _
  · rw [Below.heap_alloc _ _ _ (by omega)]
    have := heap_alloc_new (W.alloc a) b
    rwa [e1] at this
  · have := heap_alloc_new ((W.alloc a).alloc b) c
    rwa [e2] at this
theorem CPS.ab {u W : World} {mo n : Nat} {ad : List Int} {xs : List Sp} (hb : Below u.heap.size u W) : CPS u (((W.alloc (.cells (madeCells #[.int .u8 0] ad.length) 5)).alloc (.cells (madeCells #[.int .i64 0, .slice none 0 0, .int .i64 0] (xs.length * 3)) 83)).alloc (.cells #[.bool true, .int .i64 mo, .slice (some ⟨W.heap.size, 0, none⟩) ad.length ad.length, .slice (some ⟨W.heap.size + 1, 0, none⟩) xs.length xs.length, .int .i64 n] 71)).drew mo ad xs n (W.heap.size + 1 + 1) W.heap.size (W.heap.size + 1) (madeCells #[.int .u8 0] ad.length) (madeCells #[.int .i64 0, .slice none 0 0, .int .i64 0] (xs.length * 3)) := by
  obtain ⟨h1, h2, h3⟩ := three W (.cells (madeCells #[.int .u8 0] ad.length) 5) (.cells (madeCells #[.int .i64 0, .slice none 0 0, .int .i64 0] (xs.length * 3)) 83) (.cells #[.bool true, .int .i64 mo, .slice (some ⟨W.heap.size, 0, none⟩) ad.length ad.length, .slice (some ⟨W.heap.size + 1, 0, none⟩) xs.length xs.length, .int .i64 n] 71)
  have hB : Below W.heap.size W _ := below_drew (below_alloc (below_alloc (below_alloc (Below.refl W.heap.size W) (.cells (madeCells #[.int .u8 0] ad.length) 5)) (.cells (madeCells #[.int .i64 0, .slice none 0 0, .int .i64 0] (xs.length * 3)) 83)) (.cells #[.bool true, .int .i64 mo, .slice (some ⟨W.heap.size, 0, none⟩) ad.length ad.length, .slice (some ⟨W.heap.size + 1, 0, none⟩) xs.length xs.length, .int .i64 n] 71))
  have := hb.size
  exact ⟨below_step hb hB, h3, h1, h2, by omega, by omega, by omega⟩
theorem CPS.ba {u W : World} {mo n : Nat} {ad : List Int} {xs : List Sp} (hb : Below u.heap.size u W) : CPS u (((W.alloc (.cells (madeCells #[.int .i64 0, .slice none 0 0, .int .i64 0] (xs.length * 3)) 83)).alloc (.cells (madeCells #[.int .u8 0] ad.length) 5)).alloc (.cells #[.bool true, .int .i64 mo, .slice (some ⟨W.heap.size + 1, 0, none⟩) ad.length ad.length, .slice (some ⟨W.heap.size, 0, none⟩) xs.length xs.length, .int .i64 n] 71)).drew mo ad xs n (W.heap.size + 1 + 1) (W.heap.size + 1) W.heap.size (madeCells #[.int .u8 0] ad.length) (madeCells #[.int .i64 0, .slice none 0 0, .int .i64 0] (xs.length * 3)) := by
  obtain ⟨h1, h2, h3⟩ := three W (.cells (madeCells #[.int .i64 0, .slice none 0 0, .int .i64 0] (xs.length * 3)) 83) (.cells (madeCells #[.int .u8 0] ad.length) 5) (.cells #[.bool true, .int .i64 mo, .slice (some ⟨W.heap.size + 1, 0, none⟩) ad.length ad.length, .slice (some ⟨W.heap.size, 0, none⟩) xs.length xs.length, .int .i64 n] 71)
  have hB : Below W.heap.size W _ := below_drew (below_alloc (below_alloc (below_alloc (Below.refl W.heap.size W) (.cells (madeCells #[.int .i64 0, .slice none 0 0, .int .i64 0] (xs.length * 3)) 83)) (.cells (madeCells #[.int .u8 0] ad.length) 5)) (.cells #[.bool true, .int .i64 mo, .slice (some ⟨W.heap.size + 1, 0, none⟩) ad.length ad.length, .slice (some ⟨W.heap.size, 0, none⟩) xs.length xs.length, .int .i64 n] 71))
  have := hb.size
  exact ⟨below_step hb hB, h3, h2, h1, by omega, by omega, by omega⟩
theorem CPS.cells {u wr : World} {mo n C g1 g2 : Nat} {ad : List Int} {xs : List Sp} {c1 c2 : Array Value} (h : CPS u wr mo ad xs n C g1 g2 c1 c2) : wr.cell? ⟨C, 2, none⟩ = some (.slice (some ⟨g1, 0, none⟩) ad.length ad.length) ∧ wr.cell? ⟨C, 3, none⟩ = some (.slice (some ⟨g2, 0, none⟩) xs.length xs.length) := ⟨cell_of_row wr C 2 _ _ _ h.xc, cell_of_row wr C 3 _ _ _ h.xc⟩
theorem step_copy {ops : Array Oper} {o : Oper} {a : Act} {Q : Exit → Act → World → Prop} {Kc : Act → World → Prop} {E : Prop} {W W2 : World} (hw : Region.wanted o (yielded ops a.tmps) = true) (d s : Operand) (dT sT : TypeId)
    (ho : o.op = .call { callee := .builtin .copy, args := #[d, s], argTypes := #[dT, sT] })
    (vd vs r : Value) (hd : a.eval d = vd) (hs : a.eval s = vs) (hr : ∀ ty, (Builtin.copy_ #[dT, sT] ty #[vd, vs]).run Try.prog W = .ok r W2)
    (h : Kc (a.put o.dst r) W2) :
    if Region.wanted o (yielded ops a.tmps) = true then Oper.wp Try.prog o a W Kc Q else E := by
  rw [if_pos hw]
  unfold Oper.wp execOp
  simp only [ho, resolve, invoke, builtin, Sem.run_bind, Sem.run_pure, Result.andThen_ok, List.map_toArray, List.map_cons, List.map_nil, hd, hs, hr]
  exact h
theorem CPS.set1 {u wr : World} {mo n C g1 g2 : Nat} {ad : List Int} {xs : List Sp} {c1 c2 : Array Value} (h : CPS u wr mo ad xs n C g1 g2 c1 c2) (c : Array Value) : CPS u (wr.drew.setRow g1 c) mo ad xs n C g1 g2 c c2 := by
  refine ⟨below_setRow (below_drew h.b) h.l1 c, ?_, setRow_heap wr.drew g1 _ c _ _ h.x1, ?_, h.l1, h.l2, h.l3⟩
  · rw [setRow_other wr.drew g1 C c (fun e => by have := h.xc; rw [e, h.x1] at this; cases this)]
    exact h.xc
  · rw [setRow_other wr.drew g1 g2 c (fun e => by have := h.x2; rw [e, h.x1] at this; cases this)]
    exact h.x2
theorem CPS.set2 {u wr : World} {mo n C g1 g2 : Nat} {ad : List Int} {xs : List Sp} {c1 c2 : Array Value} (h : CPS u wr mo ad xs n C g1 g2 c1 c2) (c : Array Value) : CPS u (wr.drew.setRow g2 c) mo ad xs n C g1 g2 c1 c := by
  refine ⟨below_setRow (below_drew h.b) h.l2 c, ?_, ?_, setRow_heap wr.drew g2 _ c _ _ h.x2, h.l1, h.l2, h.l3⟩
  · rw [setRow_other wr.drew g2 C c (fun e => by have := h.xc; rw [e, h.x2] at this; cases this)]
    exact h.xc
  · rw [setRow_other wr.drew g2 g1 c (fun e => by have := h.x1; rw [e, h.x2] at this; cases this)]
    exact h.x1
theorem bytes_src {w : World} {base cap : Nat} {A : Option Addr} {ad : List Int} (h : w.ownsRow base 5 1 (.slice A ad.length cap) ad.length (nums .u8 ad)) : ∃ c : List Value, c = nums .u8 ad ∧ (∀ v, v ∈ c → v.oneCell' = true) ∧ (∀ a, A = some a → ∀ j v, c[j]? = some v → w.cell? (a.add j) = some v) ∧ (A = none → c = []) := by
  refine ⟨_, rfl, nums_one ad, ?_, ?_⟩
  · rintro a rfl
    rcases h.2 with ⟨e, -⟩ | ⟨g, c', cur, e, -⟩
    · cases e
    · injection e with e1
      injection e1 with e1
      subst e1
      exact h.cells (g := g) rfl
  · rintro rfl
    rcases h.2 with ⟨e, e2⟩ | ⟨g, c', cur, e, -⟩
    · exact List.eq_nil_of_length_eq_zero (by rw [nums_len]; exact e2)
    · cases e
theorem raw_one {w : World} {m : List (List Value)} {news : List Value} (h : Reps ((Kd.raw 3).K w) 3 m news) : ∀ u ∈ news, u.oneCell' = true := by
  intro u hu
  obtain ⟨q, hq, rfl⟩ := List.mem_iff_getElem.1 hu
  have hl := h.1
  have hql : q / 3 < m.length := by omega
  have hp := h.2 (q / 3) _ (List.getElem?_eq_getElem hql)
  refine (Kd.raw 3).K_one hp _ (List.mem_of_getElem? (i := q % 3) ?_)
  rw [List.getElem?_take_of_lt (by omega), List.getElem?_drop, List.getElem?_eq_some_iff]
  exact ⟨by omega, by congr 1; omega⟩
theorem spans_src {w : World} {base cap : Nat} {A : Option Addr} {xs : List Sp} (h : SR w base (.slice A xs.length cap) xs) : ∃ c : List Value, c.length = xs.length * 3 ∧ (∀ v, v ∈ c → v.oneCell' = true) ∧ (∀ a, A = some a → ∀ j v, c[j]? = some v → w.cell? (a.add j) = some v) ∧ (A = none → c = []) ∧ Reps ((Kd.raw 3).K w) 3 (xs.map spR) c := by
  obtain ⟨-, inner, ho, hr⟩ := h
  have hl := ho.1
  rw [List.length_map] at hl
  refine ⟨inner, hl, ?_, ?_, ?_, hr.imp_ (fun _ _ h => h)⟩
  · exact raw_one (w := w) (hr.imp_ (fun _ _ h => h))
  · rintro a rfl
    rcases ho.2 with ⟨e, -⟩ | ⟨g, c', cur, e, -⟩
    · cases e
    · injection e with e1
      injection e1 with e1
      subst e1
      rw [List.length_map] at ho
      exact ho.cells (g := g) rfl
  · rintro rfl
    rcases ho.2 with ⟨e, e2⟩ | ⟨g, c', cur, e, -⟩
    · exact List.eq_nil_of_length_eq_zero (by rw [List.length_map] at e2; rw [hl, e2, Nat.zero_mul])
    · cases e
theorem copy_fin {w u W2 : World} {P mo n C g1 g2 : Nat} {va vs : Value} {ad : List Int} {xs : List Sp} {c1 c2 : List Value} (h : SM w u P mo va vs ad xs n) (hC : CPS u (W2.drew.setRow g2 c2.toArray) mo ad xs n C g1 g2 c1.toArray c2.toArray) (hN : ad.length ≤ 1000000000) (hx : xs.length ≤ 4096) (q1 : c1 = nums .u8 ad) (q2 : c2.length = xs.length * 3) (q3 : Reps ((Kd.raw 3).K W2) 3 (xs.map spR) c2) : ∃ C' va' vs' xs', Ending.returned (.pointer (some ⟨C, 0, none⟩)) = .returned (.pointer (some ⟨C', 0, none⟩)) ∧ SM w (W2.drew.setRow g2 c2.toArray) C' mo va' vs' ad xs' n ∧ xs'.map (·.o) = xs.map (·.o) ∧ u.heap.size ≤ C' ∧ (∀ k, va'.ownBlock = some k → u.heap.size ≤ k) ∧ Below u.heap.size u (W2.drew.setRow g2 c2.toArray) := by
  have hu := h.b.size
  have hl1 := hC.l1
  have hl2 := hC.l2
  have hl3 := hC.l3
  refine ⟨C, .slice (some ⟨g1, 0, none⟩) ad.length ad.length, .slice (some ⟨g2, 0, none⟩) xs.length xs.length, xs, rfl, ⟨h.b.trans (hC.b.mono hu), hC.xc, by omega, ?_, ?_, (h.below hC.b).r⟩, rfl, hl3, fun k e => by cases e; exact hl1, hC.b⟩
  · refine ⟨by rw [nums_len, Nat.mul_one], .inr ⟨g1, ad.length, c1.toArray, rfl, by omega, hC.x1, Nat.le_refl _, by unfold maxLen; omega, ?_, ?_⟩⟩
    · rw [List.size_toArray, q1, nums_len, Nat.mul_one]
    · rw [q1, ← nums_len ad, Nat.mul_one]
      simp
  · refine ⟨fun _ _ => trivial, c2, ⟨by rw [List.length_map]; exact q2, .inr ⟨g2, xs.length, c2.toArray, by rw [List.length_map], by omega, hC.x2, by rw [List.length_map]; exact Nat.le_refl _, by unfold maxLen; omega, ?_, ?_⟩⟩, ?_⟩
    · rw [List.size_toArray]
      exact q2
    · rw [List.length_map]
      show List.take (xs.length * 3) _ = _
      rw [← q2]
      simp
    · exact q3.imp_ (fun _ _ h => h)
set_option maxRecDepth 100000 in
set_option maxHeartbeats 8000000 in
theorem copy_ok {w u : World} {P mo n : Nat} {va vs : Value} {ad : List Int} {xs : List Sp} (h : SM w u P mo va vs ad xs n) (hN : ad.length ≤ 1000000000) (hx : xs.length ≤ 4096) :
    Calls Try.prog 26 #[.pointer (some ⟨P, 0, none⟩)] u fun e w' => ∃ C va' vs' xs', e = .returned (.pointer (some ⟨C, 0, none⟩)) ∧ SM w w' C mo va' vs' ad xs' n ∧ xs'.map (·.o) = xs.map (·.o) ∧ u.heap.size ≤ C ∧ (∀ k, va'.ownBlock = some k → u.heap.size ≤ k) ∧ Below u.heap.size u w' := by
  obtain ⟨Aa, ca, hva⟩ : ∃ (A : Option Addr) (c : Nat), va = .slice A ad.length c := by
    rcases h.a.2 with ⟨e, e2⟩ | ⟨g, cap, cur, e, -⟩
    · exact ⟨none, 0, by rw [e, e2]⟩
    · exact ⟨_, _, e⟩
  subst hva
  obtain ⟨As, cs, hvs⟩ : ∃ A c, vs = .slice A xs.length c := by
    obtain ⟨A, c, e⟩ := Kd.R_slice h.s
    rw [List.length_map] at e
    exact ⟨A, c, e⟩
  subst hvs
  have HGD := Aside0.mk (fun (W : World) (k : SM w W P mo (.slice Aa ad.length ca) (.slice As xs.length cs) ad xs n) => good_w k)
  have HM := Aside0.mk h
  have HSU := Aside0.mk h
  have HN := Aside0.mk hN
  have HXL := Aside0.mk hx
  have HB := Aside0.mk (Below.refl u.heap.size u)
  have hm1 := make_bytes ad.length hN
  have hm2 := make_spans xs.length (by omega)
  clear h hN hx
  obtain ⟨s0, s1, s2, s3, s4⟩ := HM.out.cells; have sl := HM.out.lt
  go_enter Try.func26, Try.ntmps26
  go_upto_region 3 with (first | (go_at_call 35; (with_reducible refine (HGD.out _ HM.out).mono ?_); rintro e w1 ⟨rfl, hb1⟩; have HM := Aside0.mk (HM.out.below hb1); have HB := Aside0.mk (below_step HB.out hb1); clear hb1 s0 s1 s2 s3 s4 sl; obtain ⟨s0, s1, s2, s3, s4⟩ := HM.out.cells; have sl := HM.out.lt))
  generalize w1 = W1 at *
  go_cut [3] (fun v3 wc => ∃ (wc1 : World) (C g1 g2 : Nat), wc1 = wc ∧ v3 = .pointer (some ⟨C, 0, none⟩) ∧ Aside0 (CPS u wc1 mo ad xs n C g1 g2 (madeCells #[.int .u8 0] ad.length) (madeCells #[.int .i64 0, .slice none 0 0, .int .i64 0] (xs.length * 3))))
  case first =>
    go_region
    all_goals (go_wp2; go_meet)
    · exact ⟨_, _, _, _, rfl, rfl, ⟨CPS.ab HB.out⟩⟩
    · exact ⟨_, _, _, _, rfl, rfl, ⟨CPS.ba HB.out⟩⟩
  case rest =>
    obtain ⟨wc1, C, g1, g2, rfl, rfl, HC⟩ := hcut
    clear s0 s1 s2 s3 s4 sl HM HB hm1 hm2 HGD
    have HM := Aside0.mk (HSU.out.below HC.out.b)
    obtain ⟨s0, s1, s2, s3, s4⟩ := HM.out.cells
    obtain ⟨t2, t3⟩ := HC.out.cells
    obtain ⟨c1, q1, q2, q3, q4⟩ := bytes_src HM.out.a
    obtain ⟨c2, r1, r2, r3, r4, hR⟩ := spans_src HM.out.s
    have HR2 := Aside0.mk hR
    have q5 : c1.length = ad.length * 1 := by rw [q1, nums_len, Nat.mul_one]
    have hcr := fun ty : TypeId => copy_row wc1.drew 68 68 ty 5 1 g1 ad.length ad.length Aa ca _ 5 c1 Try.underlying68 (by kernel_rfl) HC.out.x1 q5 q3 q4 (by simp [size_madeCells]) q2
    have HC1 := Aside0.mk (HC.out.set1 c1.toArray)
    have HQ1 := Aside0.mk q1
    clear q1 q2 q3 q4 q5 r1 r2 r3 r4 hR HR2
    go_upto_region 4 with (fail)
    go_region
    clear s0 s1 s2 s3 s4 t2 t3 hcr HM HC
    generalize World.setRow wc1.drew g1 _ = W2 at *
    have HM := Aside0.mk (HSU.out.below HC1.out.b)
    obtain ⟨s0, s1, s2, s3, s4⟩ := HM.out.cells
    obtain ⟨t2, t3⟩ := HC1.out.cells
    obtain ⟨c2, r1, r2, r3, r4, hR⟩ := spans_src HM.out.s
    have HR2 := Aside0.mk hR
    have HL2 := Aside0.mk r1
    have hcr := fun ty : TypeId => copy_row W2.drew 69 69 ty 83 3 g2 xs.length xs.length As cs _ 83 c2 Try.underlying69 (by kernel_rfl) HC1.out.x2 r1 r3 r4 (by simp [size_madeCells]) r2
    have HC2 := Aside0.mk (HC1.out.set2 c2.toArray)
    clear r1 r2 r3 r4 hR
    go_upto_region 5 with (fail)
    go_region
    go_wp2
    go_ret
    exact copy_fin HSU.out HC2.out HN.out HXL.out HQ1.out HL2.out HR2.out

end Go.Proofs.Ytgaggoglbkcomaa.Ext

set_option linter.unusedVariables false
set_option linter.unusedSimpArgs false
namespace Go.Proofs.Ytgaggoglbkcomaa.Ext
open Go.RowKit Go.Lib Go.Proofs.YtgaggoglbkcomaaW.PrintWords Go.Proofs.YtgaggoglbkcomaaW.PrintMore Go.Proofs.Ytgaggoglbkcomaa.XRR

/-- What a Put may turn: stores and bytes. All else stays. -/
structure Kt (w w' : World) : Prop where
  size : w.heap.size ≤ w'.heap.size
  keep : ∀ (k : Nat) (o : Obj), w.heap[k]? = some o → (∀ c, o ≠ Obj.cells c 71 (0, 0)) → (∀ c, o ≠ Obj.cells c 5 (0, 0)) → w'.heap[k]? = some o
theorem Kt.refl (w : World) : Kt w w := ⟨Nat.le_refl _, fun _ _ h _ _ => h⟩
theorem Kt.trans {a b c : World} (h : Kt a b) (k : Kt b c) : Kt a c := ⟨Nat.le_trans h.size k.size, fun i o hi h1 h2 => k.keep i o (h.keep i o hi h1 h2) h1 h2⟩
theorem Kt.of_below {w w' : World} (h : Below w.heap.size w w') : Kt w w' := ⟨h.size, fun k o hk _ _ => (h.block k (Array.getElem?_eq_some_iff.1 hk).1).trans hk⟩
theorem Kt.of_kp {S : Nat → Prop} {w w' : World} (h : Kp S w w') (hS : ∀ k, S k → ∃ c, w.heap[k]? = some (.cells c 71 (0, 0)) ∨ w.heap[k]? = some (.cells c 5 (0, 0))) : Kt w w' :=
  ⟨h.size, fun k o hk h1 h2 => (h.block k (Array.getElem?_eq_some_iff.1 hk).1 (fun hs => by
    obtain ⟨c, e | e⟩ := hS k hs
    · rw [hk] at e; injection e with e; exact h1 c e
    · rw [hk] at e; injection e with e; exact h2 c e)).trans hk⟩
theorem Kt.kp {w w' : World} (h : Kt w w') : Kp (fun k => ∃ c, w.heap[k]? = some (.cells c 71 (0, 0)) ∨ w.heap[k]? = some (.cells c 5 (0, 0))) w w' :=
  ⟨h.size, fun k hk hn => by
    have e := Array.getElem?_eq_getElem hk
    rw [e]
    exact h.keep k _ e (fun c hc => hn ⟨c, Or.inl (by rw [e, hc])⟩) (fun c hc => hn ⟨c, Or.inr (by rw [e, hc])⟩)⟩
theorem RR.kt {w w' : World} {base : Nat} {v : Value} {l : List Rn} (h : RR w base v l) (k : Kt w w') : RR w' base v l :=
  R_keep h k.kp (fun g hg q hq cells hc => by
    obtain ⟨c, e⟩ := hg
    rcases List.mem_cons.1 hq with eq | eq
    · subst eq
      rcases e with e | e <;> (rw [hc] at e; cases e)
    · exact (List.not_mem_nil eq).elim)
structure Rd (w wr : World) (A : Option Addr) (c : Nat) (l : List Rn) : Prop where
  hc : l.length ≤ c
  r : CC w A l ∨ RR wr w.heap.size (sv A l c) l
theorem Rd.read {w wr : World} {A : Option Addr} {c : Nat} {l : List Rn} (h : Rd w wr A c l) (hb : Below w.heap.size w wr) : CC wr A l := by
  rcases h.r with h | h
  · exact Kd.C_below h hb
  · exact (Kd.R_reads' h).2.2
theorem Rd.below {w wr w' : World} {A : Option Addr} {c : Nat} {l : List Rn} (h : Rd w wr A c l) (hb : Below wr.heap.size wr w') : Rd w w' A c l := ⟨h.hc, h.r.imp id (fun h => Kd.R_below h hb)⟩
theorem Rd.mk' {w wr : World} {base : Nat} {A : Option Addr} {c : Nat} {l : List Rn} (h : RR wr base (sv A l c) l) (hb : w.heap.size ≤ base) : Rd w wr A c l := ⟨(Kd.R_reads' h).2.1, .inr (Kd.R_lower h hb)⟩
theorem Rd.kt {w wr w' : World} {A : Option Addr} {c : Nat} {l : List Rn} (h : Rd w wr A c l) (k : Kt wr w') : Rd w w' A c l := ⟨h.hc, h.r.imp id (fun h => h.kt k)⟩
theorem Kt.cells {w w' : World} {k : Nat} {c : Array Value} {t : TypeId} (h : Kt w w') (hk : w.heap[k]? = some (.cells c t (0, 0))) (h1 : t ≠ 71) (h2 : t ≠ 5) : w'.heap[k]? = some (.cells c t (0, 0)) :=
  h.keep k _ hk (fun c' e => by injection e with _ e; exact h1 e) (fun c' e => by injection e with _ e; exact h2 e)
/-- The store as a state: the text (s, rl); q Puts so far. -/
structure ST5 (w W : World) (P : Nat) (va : Value) (mo : Nat) (s : ByteArray) (rl : List Rn) (q : Nat) : Prop where
  x : ∃ vs ad xs, SM w W P mo va vs ad xs s.size ∧ PS ad (xs.map (·.o)) s rl ∧ ad.length ≤ 5000 * q
  m : s.size ≤ mo
theorem ST5.below {w W W' : World} {P mo q : Nat} {va : Value} {s : ByteArray} {rl : List Rn} (h : ST5 w W P va mo s rl q) (hb : Below W.heap.size W W') : ST5 w W' P va mo s rl q := by
  obtain ⟨⟨vs, ad, xs, h1, h2, h3⟩, hm⟩ := h
  exact ⟨⟨vs, ad, xs, h1.below hb, h2, h3⟩, hm⟩
theorem ST5.b {w W : World} {P mo q : Nat} {va : Value} {s : ByteArray} {rl : List Rn} (h : ST5 w W P va mo s rl q) : Below w.heap.size w W := by
  obtain ⟨⟨vs, ad, xs, h1, -⟩, -⟩ := h
  exact h1.b
theorem ST5.lt {w W : World} {P mo q : Nat} {va : Value} {s : ByteArray} {rl : List Rn} (h : ST5 w W P va mo s rl q) : P < W.heap.size := by
  obtain ⟨⟨vs, ad, xs, h1, -⟩, -⟩ := h
  exact h1.lt
theorem ST5.le {w W : World} {P mo q : Nat} {va : Value} {s : ByteArray} {rl : List Rn} (h : ST5 w W P va mo s rl q) : w.heap.size ≤ P := by
  obtain ⟨⟨vs, ad, xs, h1, -⟩, -⟩ := h
  exact h1.le
theorem ST5.good {w W : World} {P mo q : Nat} {va : Value} {s : ByteArray} {rl : List Rn} (h : ST5 w W P va mo s rl q) : goodT s rl = true := by
  obtain ⟨⟨vs, ad, xs, -, h1, -⟩, -⟩ := h
  exact h1.gt
/-- What a Put answers and leaves. -/
def putM (s : ByteArray) (rl : List Rn) (mo : Nat) (f t : Int) (x : ByteArray) (m : List Rn) : ByteArray × List Rn × Int :=
  if goodT x m = true ∧ 0 ≤ f ∧ f ≤ t ∧ t ≤ (s.size : Int) then (if s.size - (t.toNat - f.toNat) + x.size ≤ mo then (sS s f.toNat t.toNat x, spl rl f t m, 0) else (s, rl, 4)) else (s, rl, 2)
/-- The frame of a Put on P. -/
def KP5 (P : Nat) (va : Value) (w w' : World) : Prop := Kp (fun k => k = P ∨ va.ownBlock = some k) w w'
theorem KP5.kt {W w' : World} {P mo q : Nat} {va : Value} {s : ByteArray} {rl : List Rn} {w : World} (h : KP5 P va W w') (hs : ST5 w W P va mo s rl q) : Kt W w' := by
  obtain ⟨⟨vs, ad, xs, h1, -⟩, -⟩ := hs
  refine Kt.of_kp h (fun k hk => ?_)
  rcases hk with rfl | hk
  · exact ⟨_, Or.inl h1.x⟩
  · obtain ⟨c, hc⟩ := own_typed h1.a k hk
    exact ⟨c, Or.inr hc⟩
theorem AtB.refl (v : Value) (n : Nat) : AtB v v n := Or.inl rfl
theorem put_s {w u : World} {P mo q : Nat} {va : Value} {s : ByteArray} {rl : List Rn} (h : ST5 w u P va mo s rl q) (hq : q ≤ 1000) (hmo : mo ≤ 4096) (x : ByteArray) (m : List Rn) (A2 : Option Addr) (c2 : Nat) (hr : CC u A2 m) (hc : m.length ≤ c2) (hm5 : m.length ≤ 8000000000000000000) (f t : Int) :
    Calls Try.prog 19 #[.pointer (some ⟨P, 0, none⟩), .int .i64 f, .int .i64 t, vT x (sv A2 m c2)] u fun e w' => e = .returned (.int .i64 (putM s rl mo f t x m).2.2) ∧ ∃ va', ST5 w w' P va' mo (putM s rl mo f t x m).1 (putM s rl mo f t x m).2.1 (q + 1) ∧ KP5 P va u w' ∧ AtB va' va u.heap.size := by
  obtain ⟨⟨vs, ad, xs, h1, h2, h3⟩, hms⟩ := h
  by_cases hok : goodT x m = true ∧ 0 ≤ f ∧ f ≤ t ∧ t ≤ (s.size : Int)
  · obtain ⟨a, rfl⟩ : ∃ a : Nat, f = a := ⟨f.toNat, by omega⟩
    obtain ⟨b, rfl⟩ : ∃ b : Nat, t = b := ⟨t.toNat, by omega⟩
    have hab : a ≤ b := by omega
    have hb : b ≤ s.size := by omega
    by_cases hle : s.size - (b - a) + x.size ≤ mo
    · have e : putM s rl mo a b x m = (sS s a b x, spl rl a b m, 0) := by unfold putM; rw [if_pos hok, Int.toNat_natCast, Int.toNat_natCast, if_pos hle]
      rw [e]
      refine (put_ok h1 h2 rfl (by omega) hmo x m A2 c2 hr hc hok.1 a b hab hb hle).mono ?_
      rintro e w' ⟨rfl, va', vs', xs', hat, hs, hxs, hk, -⟩
      have hz := sS_size s x a b hab hb
      refine ⟨rfl, va', ⟨⟨vs', ad ++ bytesOf x, xs', ?_, ?_, ?_⟩, ?_⟩, hk, hat⟩
      · show SM w w' P mo va' vs' (ad ++ bytesOf x) xs' (sS s a b x).size
        rw [hz]; exact hs
      · rw [hxs]; exact h2.put hok.1 a b hab hb (by omega)
      · rw [List.length_append, bO_len]
        have := goodT_sz hok.1
        omega
      · show (sS s a b x).size ≤ mo
        rw [hz]; exact hle
    · have e : putM s rl mo a b x m = (s, rl, 4) := by unfold putM; rw [if_pos hok, Int.toNat_natCast, Int.toNat_natCast, if_neg hle]
      rw [e]
      refine (put_full h1 hmo (by omega) x m A2 c2 hr hc hok.1 a b hab hb (by omega)).mono ?_
      rintro e w' ⟨rfl, hs, hB⟩
      exact ⟨rfl, va, ⟨⟨vs, ad, xs, hs, h2, by omega⟩, hms⟩, (Kp.of_below (S := fun _ => False) hB).mono (fun _ h => h.elim), AtB.refl _ _⟩
  · have e : putM s rl mo f t x m = (s, rl, 2) := by unfold putM; rw [if_neg hok]
    rw [e]
    refine (put_arg h1 x m A2 c2 hr hc hm5 f t hok).mono ?_
    rintro e w' ⟨rfl, hs, hB⟩
    exact ⟨rfl, va, ⟨⟨vs, ad, xs, hs, h2, by omega⟩, hms⟩, (Kp.of_below (S := fun _ => False) hB).mono (fun _ h => h.elim), AtB.refl _ _⟩
theorem cut_s {w u : World} {P mo q : Nat} {va : Value} {s : ByteArray} {rl : List Rn} (h : ST5 w u P va mo s rl q) (hq : q ≤ 1000) (f t : Int) :
    Calls Try.prog 21 #[.pointer (some ⟨P, 0, none⟩), .int .i64 f, .int .i64 t] u fun e w' => ∃ A c, e = .returned (.tuple #[vT (cutT s rl f t).1 (sv A (cutT s rl f t).2.1 c), .int .i64 (cutT s rl f t).2.2]) ∧ RR w' u.heap.size (sv A (cutT s rl f t).2.1 c) (cutT s rl f t).2.1 ∧ Below u.heap.size u w' := by
  obtain ⟨⟨vs, ad, xs, h1, h2, h3⟩, -⟩ := h
  by_cases hok : 0 ≤ f ∧ f ≤ t ∧ t ≤ (s.size : Int)
  · obtain ⟨a, rfl⟩ : ∃ a : Nat, f = a := ⟨f.toNat, by omega⟩
    obtain ⟨b, rfl⟩ : ∃ b : Nat, t = b := ⟨t.toNat, by omega⟩
    have hw : withinT s rl a b = true := within_intro h2.gt (by omega) (by omega)
    have e : cutT s rl a b = (s.extract a b, sli rl a b, 0) := by unfold cutT; rw [if_pos hw, Int.toNat_natCast, Int.toNat_natCast]
    rw [e]
    exact cut_ok h1 h2 rfl (by omega) a b (by omega) (by omega)
  · have e : cutT s rl f t = (⟨#[]⟩, [], 2) := by
      unfold cutT
      rw [if_neg]
      intro hw
      obtain ⟨-, a1, a2, a3⟩ := withinT_good hw
      exact hok ⟨a1, a2, a3⟩
    rw [e]
    refine (cut_arg h1 f t hok).mono ?_
    rintro e w' ⟨rfl, -, hB⟩
    exact ⟨none, 0, rfl, Kd.R_nil _ _ _ _ _, hB⟩
theorem text_s {w u : World} {P mo q : Nat} {va : Value} {s : ByteArray} {rl : List Rn} (h : ST5 w u P va mo s rl q) (hq : q ≤ 1000) :
    Calls Try.prog 20 #[.pointer (some ⟨P, 0, none⟩)] u fun e w' => ∃ A c, e = .returned (vT s (sv A rl c)) ∧ RR w' u.heap.size (sv A rl c) rl ∧ Below u.heap.size u w' := by
  obtain ⟨⟨vs, ad, xs, h1, h2, h3⟩, -⟩ := h
  exact text_ok h1 h2 rfl (by omega)
theorem len_s {w u : World} {P mo q : Nat} {va : Value} {s : ByteArray} {rl : List Rn} (h : ST5 w u P va mo s rl q) :
    Calls Try.prog 24 #[.pointer (some ⟨P, 0, none⟩)] u fun e w' => e = .returned (.int .i64 (s.size : Nat)) ∧ Below u.heap.size u w' := by
  obtain ⟨⟨vs, ad, xs, h1, h2, h3⟩, -⟩ := h
  exact len_w h1
theorem room_s {w u : World} {P mo q : Nat} {va : Value} {s : ByteArray} {rl : List Rn} (h : ST5 w u P va mo s rl q) (hmo : mo ≤ 4096) :
    Calls Try.prog 25 #[.pointer (some ⟨P, 0, none⟩)] u fun e w' => e = .returned (.int .i64 ((mo : Int) - (s.size : Nat))) ∧ Below u.heap.size u w' := by
  obtain ⟨⟨vs, ad, xs, h1, h2, h3⟩, hm⟩ := h
  exact room_w h1 hmo (by omega)
theorem copy_s {w u : World} {P mo q : Nat} {va : Value} {s : ByteArray} {rl : List Rn} (h : ST5 w u P va mo s rl q) (hq : q ≤ 1000) :
    Calls Try.prog 26 #[.pointer (some ⟨P, 0, none⟩)] u fun e w' => ∃ C va', e = .returned (.pointer (some ⟨C, 0, none⟩)) ∧ ST5 w w' C va' mo s rl q ∧ u.heap.size ≤ C ∧ (∀ k, va'.ownBlock = some k → u.heap.size ≤ k) ∧ Below u.heap.size u w' := by
  obtain ⟨⟨vs, ad, xs, h1, h2, h3⟩, hm⟩ := h
  have h4 := goodT_sz h2.gt
  have hx : xs.length ≤ 4096 := by
    have e1 := tot_len h2.g
    have e2 := h2.tot
    rw [List.length_map] at e1
    omega
  refine (copy_ok h1 (by omega) hx).mono ?_
  rintro e w' ⟨C, va', vs', xs', rfl, k1, k2, k3, k4, k5⟩
  exact ⟨C, va', rfl, ⟨⟨vs', ad, xs', k1, by rw [k2]; exact h2, h3⟩, hm⟩, k3, k4, k5⟩
theorem PS.nil : PS [] [] ⟨#[]⟩ [] := ⟨fun p hp => (List.not_mem_nil hp).elim, rfl, rfl, by decide⟩
theorem new_s {w u : World} (hb : Below w.heap.size w u) (mo : Nat) (hmo : mo ≤ 4096) :
    Calls Try.prog 18 #[.int .i64 mo] u fun e w' => e = .returned (.pointer (some ⟨u.heap.size, 0, none⟩)) ∧ ST5 w w' u.heap.size (.slice none 0 0) mo ⟨#[]⟩ [] 0 ∧ Below u.heap.size u w' := by
  refine (new_ok hb mo hmo).mono ?_
  rintro e w' ⟨rfl, h1, h2⟩
  exact ⟨rfl, ⟨⟨_, [], [], h1, PS.nil, Nat.le_refl _⟩, Nat.zero_le _⟩, h2⟩
theorem put_a1 : putM ⟨#[]⟩ [] 5 0 0 ⟨#[97, 98, 99]⟩ [⟨1, 3⟩] = (⟨#[97, 98, 99]⟩, [⟨1, 3⟩], 0) := by decide +kernel
theorem put_a2 : putM ⟨#[97, 98, 99]⟩ [⟨1, 3⟩] 5 1 2 ⟨#[120, 121]⟩ [⟨2, 2⟩] = (⟨#[97, 120, 121, 99]⟩, [⟨1, 1⟩, ⟨2, 2⟩, ⟨1, 1⟩], 0) := by decide +kernel
abbrev aS1 : ByteArray := ⟨#[97, 98, 99]⟩
abbrev aS2 : ByteArray := ⟨#[97, 120, 121, 99]⟩
abbrev aL1 : List Rn := [⟨1, 3⟩]
abbrev aL2 : List Rn := [⟨1, 1⟩, ⟨2, 2⟩, ⟨1, 1⟩]
theorem C_lit {w : World} {p : Nat} {a b : Int} (h : w.heap[p]? = some (.cells #[.int .u64 a, .int .i64 b] 29 (0, 0))) : CC w (some ⟨p, 0, none⟩) [⟨a, b⟩] := C_one w p a b (cell_of_row w p 0 _ _ _ h) (cell_of_row w p 1 _ _ _ h)
theorem lit_CC (W : World) (a b : Int) : CC (W.alloc (.cells #[.int .u64 a, .int .i64 b] 29)) (some ⟨W.heap.size, 0, none⟩) [⟨a, b⟩] := C_lit (heap_alloc_new _ _)
set_option maxRecDepth 100000 in
set_option maxHeartbeats 8000000 in
theorem alive_w (w : World) : Calls Try.prog 17 #[] w fun e w' => e = .returned (.bool true) ∧ Below w.heap.size w w' := by
  have HN : Aside0 (Calls Try.prog 18 #[.int .i64 5] w fun e w' => e = .returned (.pointer (some ⟨w.heap.size, 0, none⟩)) ∧ ST5 w w' w.heap.size (.slice none 0 0) 5 ⟨#[]⟩ [] 0 ∧ Below w.heap.size w w') := ⟨new_s (Below.refl _ _) 5 (by decide)⟩
  have HP1 : Aside0 (∀ (W : World) (P : Nat), ST5 w W P (.slice none 0 0) 5 ⟨#[]⟩ [] 0 → Calls Try.prog 19 #[.pointer (some ⟨P, 0, none⟩), .int .i64 0, .int .i64 0, .agg #[.string ⟨#[97, 98, 99]⟩, .slice (some ⟨W.heap.size, 0, none⟩) 1 1]] (W.alloc (.cells #[.int .u64 1, .int .i64 3] 29)) fun e w' => e = .returned (.int .i64 0) ∧ ∃ va', ST5 w w' P va' 5 aS1 aL1 1) := ⟨fun W P h => by
    have := put_s (h.below (below_alloc (Below.refl _ _) (.cells #[.int .u64 1, .int .i64 3] 29))) (by decide) (by decide) aS1 aL1 (some ⟨W.heap.size, 0, none⟩) 1 (lit_CC W 1 3) (by decide) (by decide) 0 0
    rw [put_a1] at this
    refine this.mono ?_
    rintro e w' ⟨rfl, va', h1, -⟩
    exact ⟨rfl, va', h1⟩⟩
  have HP2 : Aside0 (∀ (W : World) (P : Nat) (va : Value), ST5 w W P va 5 aS1 aL1 1 → Calls Try.prog 19 #[.pointer (some ⟨P, 0, none⟩), .int .i64 1, .int .i64 2, .agg #[.string ⟨#[120, 121]⟩, .slice (some ⟨W.heap.size, 0, none⟩) 1 1]] (W.alloc (.cells #[.int .u64 2, .int .i64 2] 29)) fun e w' => e = .returned (.int .i64 0) ∧ ∃ va', ST5 w w' P va' 5 aS2 aL2 2) := ⟨fun W P va h => by
    have := put_s (h.below (below_alloc (Below.refl _ _) (.cells #[.int .u64 2, .int .i64 2] 29))) (by decide) (by decide) ⟨#[120, 121]⟩ [⟨2, 2⟩] (some ⟨W.heap.size, 0, none⟩) 1 (lit_CC W 2 2) (by decide) (by decide) 1 2
    rw [put_a2] at this
    refine this.mono ?_
    rintro e w' ⟨rfl, va', h1, -⟩
    exact ⟨rfl, va', h1⟩⟩
  have HT : Aside0 (∀ (W : World) (P : Nat) (va : Value), ST5 w W P va 5 aS2 aL2 2 → Calls Try.prog 20 #[.pointer (some ⟨P, 0, none⟩)] W fun e w' => ∃ A c, e = .returned (.agg #[.string ⟨#[97, 120, 121, 99]⟩, .slice A 3 c]) ∧ ST5 w w' P va 5 aS2 aL2 2) := ⟨fun W P va h => by
    refine (text_s h (by decide)).mono ?_
    rintro e w' ⟨A, c, rfl, -, hb⟩
    exact ⟨A, c, rfl, h.below hb⟩⟩
  have HRO : Aside0 (∀ (W : World) (P : Nat) (va : Value), ST5 w W P va 5 aS2 aL2 2 → Calls Try.prog 25 #[.pointer (some ⟨P, 0, none⟩)] W fun e w' => e = .returned (.int .i64 1) ∧ ST5 w w' P va 5 aS2 aL2 2) := ⟨fun W P va h => by
    refine (room_s h (by decide)).mono ?_
    rintro e w' ⟨rfl, hb⟩
    exact ⟨rfl, h.below hb⟩⟩
  have hfd : ∀ (s : ByteArray) (A : Option Addr) (n c : Nat) (w : World), (Instr.field 24 (.agg #[.string s, .slice A n c]) 0).run Try.prog w = .ok (.string s) w := fun _ _ _ _ _ => by kernel_rfl
  go_enter Try.func17, Try.ntmps17
  go_wp2_with (first | (go_at_call 18; (with_reducible refine HN.out.mono ?_); rintro e w1 ⟨rfl, hs1, hb1⟩; have HS := Aside0.mk hs1; clear hs1 hb1) | (go_at_call 19; (with_reducible refine (HP1.out _ _ HS.out).mono ?_); rintro e w2 ⟨rfl, va2, hs2⟩; have HS2 := Aside0.mk hs2; clear hs2) | (go_at_call 19; (with_reducible refine (HP2.out _ _ _ HS2.out).mono ?_); rintro e w3 ⟨rfl, va3, hs3⟩; have HS3 := Aside0.mk hs3; clear hs3) | (go_at_call 20; (with_reducible refine (HT.out _ _ _ HS3.out).mono ?_); rintro e w4 ⟨A4, c4, rfl, hs4⟩; have HS3 := Aside0.mk hs4; clear hs4) | (go_at_call 25; (with_reducible refine (HRO.out _ _ _ HS3.out).mono ?_); rintro e w5 ⟨rfl, hs5⟩; have HS3 := Aside0.mk hs5; clear hs5))
  go_ret
  exact ⟨rfl, HS3.out.b⟩
/-- An act's box. -/
structure AX (w : World) (p : Nat) (f t : Int) (x : ByteArray) (v : Value) (k1 k2 : Bool) : Prop where
  x : w.heap[p]? = some (.cells #[.int .i64 f, .int .i64 t, .string x, v, .bool k1, .bool k2] 48 (0, 0))
theorem AX.below {w w' : World} {p : Nat} {f t : Int} {x : ByteArray} {v : Value} {k1 k2 : Bool} (h : AX w p f t x v k1 k2) (hb : Below w.heap.size w w') : AX w' p f t x v k1 k2 := ⟨(hb.block p (Array.getElem?_eq_some_iff.1 h.x).1).trans h.x⟩
theorem AX.kt {w w' : World} {p : Nat} {f t : Int} {x : ByteArray} {v : Value} {k1 k2 : Bool} (h : AX w p f t x v k1 k2) (hk : Kt w w') : AX w' p f t x v k1 k2 := ⟨hk.cells h.x (by decide) (by decide)⟩
theorem AX.lt {w : World} {p : Nat} {f t : Int} {x : ByteArray} {v : Value} {k1 k2 : Bool} (h : AX w p f t x v k1 k2) : p < w.heap.size := (Array.getElem?_eq_some_iff.1 h.x).1
theorem AX.cells {w : World} {p : Nat} {f t : Int} {x : ByteArray} {v : Value} {k1 k2 : Bool} (h : AX w p f t x v k1 k2) : w.cell? ⟨p, 0, none⟩ = some (.int .i64 f) ∧ w.cell? ⟨p, 1, none⟩ = some (.int .i64 t) ∧ w.cell? ⟨p, 2, none⟩ = some (.string x) ∧ w.cell? ⟨p, 3, none⟩ = some v ∧ w.cell? ⟨p, 4, none⟩ = some (.bool k1) ∧ w.cell? ⟨p, 5, none⟩ = some (.bool k2) :=
  ⟨cell_of_row w p 0 _ _ _ h.x, cell_of_row w p 1 _ _ _ h.x, cell_of_row w p 2 _ _ _ h.x, cell_of_row w p 3 _ _ _ h.x, cell_of_row w p 4 _ _ _ h.x, cell_of_row w p 5 _ _ _ h.x⟩
/-- A text's box, its runs the walk's own. -/
structure Tx (wr : World) (base p : Nat) (s : ByteArray) (A : Option Addr) (c : Nat) (rl : List Rn) : Prop where
  b : BX wr p s (sv A rl c)
  r : RR wr base (sv A rl c) rl
theorem Tx.below {w w' : World} {base p c : Nat} {s : ByteArray} {A : Option Addr} {rl : List Rn} (h : Tx w base p s A c rl) (hb : Below w.heap.size w w') : Tx w' base p s A c rl := ⟨h.b.below hb, Kd.R_below h.r hb⟩
theorem Tx.kt {w w' : World} {base p c : Nat} {s : ByteArray} {A : Option Addr} {rl : List Rn} (h : Tx w base p s A c rl) (hk : Kt w w') : Tx w' base p s A c rl := ⟨⟨hk.cells h.b.x (by decide) (by decide)⟩, RR.kt h.r hk⟩
theorem Tx.new {w2 : World} {base base' c : Nat} {s : ByteArray} {A : Option Addr} {rl : List Rn} (hr : RR w2 base' (sv A rl c) rl) (hb : base ≤ base') : Tx (w2.alloc (.cells #[.string s, sv A rl c] 24)) base w2.heap.size s A c rl := ⟨⟨heap_alloc_new _ _⟩, Kd.R_below (Kd.R_lower hr hb) (below_alloc (Below.refl _ _) _)⟩
theorem ga0 {x : Oper} {l : List Oper} : (x :: l).toArray[0]? = some x := rfl
theorem gaS {x y : Oper} {l : List Oper} {n : Nat} (h : l.toArray[n]? = some y) : (x :: l).toArray[n + 1]? = some y := by
  simpa using h
theorem same4 (s : ByteArray) (l : List Rn) (hl : l.length ≤ 100000) : bureauref04_Same.f (l.length + 1) s l s l = some true := by
  unfold bureauref04_Same.f
  rw [if_pos rfl, dSame l l (by omega) _ (Nat.le_refl _), decide_eq_true rfl]
  rfl
def fitB (s : ByteArray) (m : List Rn) : Bool := decide (s.size ≤ 5000 ∧ m.length ≤ 5000)
theorem fit_f (s : ByteArray) (m : List Rn) : bureaulaw04_Fits.f s m = some (fitB s m) := by
  unfold bureaulaw04_Fits.f fitB
  by_cases c : (s.size : Int) ≤ 5000
  · rw [if_pos c]
    congr 1
    exact decide_eq_decide.2 (by constructor <;> intro h <;> omega)
  · rw [if_neg c, decide_eq_false (by omega)]
theorem fits_c (s : ByteArray) (m : List Rn) (W : World) (A : Option Addr) (c : Nat) (hr : CC W A m) (hc : m.length ≤ c) : Calls Try.prog 12 #[vT s (sv A m c)] W fun e w' => e = .returned (.bool (fitB s m)) ∧ Below W.heap.size W w' := bureaulaw04_Fits.calls s A c m _ W hr hc (fit_f s m)
theorem good_c {s : ByteArray} {rl : List Rn} (hg : goodT s rl = true) (W : World) (base : Nat) (A : Option Addr) (c : Nat) (hr : RR W base (sv A rl c) rl) : Calls Try.prog 13 #[vT s (sv A rl c)] W fun e w' => e = .returned (.bool true) ∧ Below W.heap.size W w' := by
  have hl := good_len (goodT_good hg).1
  exact bureauref04_Good.calls (2 * rl.length + 5000) s A c rl true W (Kd.R_reads' hr).2.2 (Kd.R_reads' hr).2.1 (by rw [dGood4 s rl (by omega) _ (Nat.le_refl _), hg])
theorem same_c (s : ByteArray) (l : List Rn) (hl : l.length ≤ 100000) (W : World) (A A2 : Option Addr) (c c2 : Nat) (h1 : CC W A l) (hc : l.length ≤ c) (h2 : CC W A2 l) (hc2 : l.length ≤ c2) : Calls Try.prog 16 #[vT s (sv A l c), vT s (sv A2 l c2)] W fun e w' => e = .returned (.bool true) ∧ Below W.heap.size W w' :=
  bureauref04_Same.calls (l.length + 1) s A c l s A2 c2 l true W h1 hc h2 hc2 (same4 s l hl)
theorem putM_ok {s : ByteArray} {rl : List Rn} {mo : Nat} {f t : Int} {x : ByteArray} {m : List Rn} (h : (putM s rl mo f t x m).2.2 = 0) : goodT x m = true ∧ 0 ≤ f ∧ f ≤ t ∧ t ≤ (s.size : Int) ∧ s.size - (t.toNat - f.toNat) + x.size ≤ mo ∧ putM s rl mo f t x m = (sS s f.toNat t.toNat x, spl rl f t m, 0) := by
  unfold putM at h ⊢
  by_cases h1 : goodT x m = true ∧ 0 ≤ f ∧ f ≤ t ∧ t ≤ (s.size : Int)
  · rw [if_pos h1] at h ⊢
    by_cases h2 : s.size - (t.toNat - f.toNat) + x.size ≤ mo
    · rw [if_pos h2]
      exact ⟨h1.1, h1.2.1, h1.2.2.1, h1.2.2.2, h2, rfl⟩
    · rw [if_neg h2] at h
      cases h
  · rw [if_neg h1] at h
    cases h
theorem putM_no {s : ByteArray} {rl : List Rn} {mo : Nat} {f t : Int} {x : ByteArray} {m : List Rn} (h : (putM s rl mo f t x m).2.2 ≠ 0) : (putM s rl mo f t x m).1 = s ∧ (putM s rl mo f t x m).2.1 = rl := by
  unfold putM at h ⊢
  by_cases h1 : goodT x m = true ∧ 0 ≤ f ∧ f ≤ t ∧ t ≤ (s.size : Int)
  · rw [if_pos h1] at h ⊢
    by_cases h2 : s.size - (t.toNat - f.toNat) + x.size ≤ mo
    · rw [if_pos h2] at h
      exact absurd rfl h
    · rw [if_neg h2]
      exact ⟨rfl, rfl⟩
  · rw [if_neg h1]
    exact ⟨rfl, rfl⟩
theorem cell_old {w W : World} (hb : Below w.heap.size w W) {a : Addr} {v : Value} (h : w.cell? a = some v) : W.cell? a = some v := by
  rw [hb.cell (p := a) ?_]
  · exact h
  · unfold World.cell? at h
    cases e : w.heap[a.block]? with
    | none => rw [e] at h; cases h
    | some o => exact (Array.getElem?_eq_some_iff.1 e).1
theorem ST5.up {w W : World} {P mo q : Nat} {va : Value} {s : ByteArray} {rl : List Rn} (h : ST5 w W P va mo s rl q) : ST5 w W P va mo s rl (q + 1) := by
  obtain ⟨⟨vs, ad, xs, h1, h2, h3⟩, hm⟩ := h
  exact ⟨⟨vs, ad, xs, h1, h2, by omega⟩, hm⟩
theorem put_k {w u : World} {P mo q : Nat} {va : Value} {s : ByteArray} {rl : List Rn} (h : ST5 w u P va mo s rl q) (hq : q ≤ 1000) (hmo : mo ≤ 4096) (x : ByteArray) (m : List Rn) (A2 : Option Addr) (c2 : Nat) (hr : CC u A2 m) (hc : m.length ≤ c2) (hm5 : m.length ≤ 8000000000000000000) (f t : Int) {s' : ByteArray} {rl' : List Rn} {e' : Int} (he : putM s rl mo f t x m = (s', rl', e')) :
    Calls Try.prog 19 #[.pointer (some ⟨P, 0, none⟩), .int .i64 f, .int .i64 t, vT x (sv A2 m c2)] u fun e w' => e = .returned (.int .i64 e') ∧ ∃ va', ST5 w w' P va' mo s' rl' (q + 1) ∧ Kt u w' := by
  have := put_s h hq hmo x m A2 c2 hr hc hm5 f t
  rw [he] at this
  refine this.mono ?_
  rintro e w' ⟨rfl, va', h1, h2, -⟩
  exact ⟨rfl, va', h1, KP5.kt h2 h⟩

end Go.Proofs.Ytgaggoglbkcomaa.Ext
