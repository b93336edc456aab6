/- The law WholeSees, by its walk. -/
import Derived.Test.YtcaoopmpbpfeaaaExtRN
import Derived.Test.YtcaoopmpbpfeaaaXRRx2
import Derived.Test.YtcaoopmpbpfeaaaXRRx4
import Derived.Test.YtcaoopmpbpfeaaaXRRx0
import Derived.Test.YtcaoopmpbpfeaaaXSEx0
import Derived.Test.YtcaoopmpbpfeaaaWMore
import Derived.WalkKit
import Derived.WalkMore
import Derived.Below
import Derived.KernelRfl
import Derived.LoopTactic
import Derived.Deep.RegionWith
import Derived.Deep.RegionHeld3
import Derived.IntWalk
import Derived.Deep.DeepCutAuto
import Derived.Deep.CutBlock
import Derived.BigQuiet
import Derived.Laws.RangeString
import Derived.Laws.RangeAny
import Derived.Laws.Rows
import Derived.Laws.Runes
import Derived.Lib.OthersKept
import Derived.OpenShut
set_option linter.unusedVariables false
set_option linter.unusedSimpArgs false
namespace Go.Proofs.Ytcaoopmpbpfeaaa.Ext
open Go.RowKit Go.Lib Go.Proofs.YtcaoopmpbpfeaaaW.PrintWords Go.Proofs.YtcaoopmpbpfeaaaW.PrintMore Go.Proofs.Ytcaoopmpbpfeaaa.XRR

theorem C_map {α β : Type} {d : Kd α} {d' : Kd β} (f : α → β) (hs : d.sz = d'.sz) (h : ∀ w x cs, d.K w x cs → d'.K w (f x) cs) {w : World} {A : Option Addr} {n : Nat} {xs : List α} (hc : d.C w A n xs) : d'.C w A n (xs.map f) := by
  obtain ⟨h1, h2, h3⟩ := hc
  refine ⟨by rw [List.length_map]; exact h1, h2, fun hn => ?_⟩
  obtain ⟨ad, hA, hcell⟩ := h3 hn
  refine ⟨ad, hA, fun j p hj => ?_⟩
  rw [List.getElem?_map] at hj
  cases e : xs[j]? with
  | none => rw [e] at hj; cases hj
  | some x =>
    rw [e] at hj
    cases hj
    obtain ⟨c, hl, hk, hcc⟩ := hcell j x e
    rw [hs] at hl hcc
    exact ⟨c, hl, h w x c hk, hcc⟩
def cvR (x : XSE.S43) : Rn := ⟨x.f0, x.f1⟩
theorem C_cv {w : World} {A : Option Addr} {n : Nat} {xs : List XSE.S43} (h : Kd.C XSE.k43 w A n xs) : Kd.C k43 w A n (xs.map cvR) :=
  C_map cvR rfl (fun w x cs hk => by rw [XSE.k43_open hk]; exact k43_mk w (cvR x)) h
def fitB (s : ByteArray) (m : List Rn) : Bool := decide (s.size ≤ 5000 ∧ m.length ≤ 5000)
theorem fit_f (s : ByteArray) (m : List Rn) : bureaulaw04_Fits.f s m = some (fitB s m) := by
  unfold bureaulaw04_Fits.f fitB
  by_cases c : (s.size : Int) ≤ 5000
  · rw [if_pos c]
    congr 1
    exact decide_eq_decide.2 (by constructor <;> intro h <;> omega)
  · rw [if_neg c, decide_eq_false (by omega)]
/-- The walk's two texts in their boxes. -/
structure SB (w0 wr : World) (X T : Nat) (s x : ByteArray) (v : Value) (al m : List Rn) (A1 : Option Addr) (c1 : Nat) : Prop where
  a : BX wr X s v
  t : BX wr T x (.slice A1 m.length c1)
  r : Kd.R k43 43 wr w0.heap.size (fun _ => True) v al
  m : Kd.C k43 wr A1 m.length m
  b : Below w0.heap.size w0 wr
theorem SB.below {w0 wr w' : World} {X T : Nat} {s x : ByteArray} {v : Value} {al m : List Rn} {A1 : Option Addr} {c1 : Nat} (h : SB w0 wr X T s x v al m A1 c1) (hb : Below wr.heap.size wr w') : SB w0 w' X T s x v al m A1 c1 :=
  ⟨h.a.below hb, h.t.below hb, Kd.R_below h.r hb, Kd.C_below h.m hb, below_step h.b hb⟩
theorem bx_put {w : World} {X : Nat} {s s' : ByteArray} {v v' : Value} (h : BX w X s v) : BX ((w.setCell ⟨X, 0, none⟩ (.string s')).setCell ⟨X, 1, none⟩ v') X s' v' := by
  have h1 := heap_setCell_same w X 0 _ _ (.string s') h.x
  exact ⟨heap_setCell_same _ X 1 _ _ v' h1⟩
theorem good_short {s : ByteArray} {l : List Rn} (h : goodT s l = true) : l.length ≤ 4096 := by
  obtain ⟨hg, hn⟩ := goodT_good h
  have := len_nB (pk_mem (good_pk hg))
  have := good_n hg
  omega
set_option maxRecDepth 100000 in
set_option maxHeartbeats 16000000 in
theorem Sees_w (A0 : Option Addr) (c0 : Nat) (l : List XSE.S28) (L : Int) (w : World) (hr : Kd.C XSE.k28 w A0 l.length l) (hc : l.length ≤ c0) (hL0 : 0 ≤ L) (hL1 : L ≤ 18446744073709551615) :
    Calls Try.prog 3 #[.slice A0 l.length c0, .int .u64 L] w fun e w' => e = .returned (.bool true) ∧ Below w.heap.size w w' := by
  have HR := Aside0.mk hr
  have HAL := Aside0.mk (fun (w1 : World) => alive04_w w1)
  clear hr
  by_cases hbig : (40 : Int) < (l.length : Int)
  · go_enter Try.func3, Try.ntmps3
    go_wp2_with (first | (go_at_call 4; (with_reducible refine (HAL.out _).mono ?_); rintro e w1 ⟨rfl, hb1⟩; have HB1 := Aside0.mk hb1; clear hb1))
    go_ret
    exact ⟨rfl, HB1.out⟩
  · go_enter Try.func3, Try.ntmps3
    go_wp2_with (first | (go_at_call 4; (with_reducible refine (HAL.out _).mono ?_); rintro e w1 ⟨rfl, hb1⟩; have HB1 := Aside0.mk hb1; clear hb1))
    go_loopw [6, 30] (fun ww ii wr => ∃ (wr1 : World) (q : Nat) (s : ByteArray) (al : List Rn) (v : Value), wr1 = wr ∧ ww = .string (vieT s al L) ∧ ii = .int .i64 q ∧ q ≤ l.length ∧ goodT s al = true ∧ Aside0 (BX wr1 w1.heap.size s v) ∧ Aside0 (Kd.R k43 43 wr1 w.heap.size (fun _ => True) v al) ∧ Aside0 (Below w.heap.size w wr1)) (fun _ ii _ => l.length - (intOf ii).toNat)
    case atStart => exact ⟨_, 0, e0, [], _, rfl, rfl, rfl, Nat.zero_le _, by decide, ⟨⟨heap_alloc_new _ _⟩⟩, ⟨Kd.R_nil _ _ _ _ _⟩, ⟨below_step HB1.out (below_alloc (Below.refl _ _) _)⟩⟩
    case round =>
      obtain ⟨wr1, q, s, al, v, rfl, rfl, rfl, hq, hgs, HX, HRA, HBW⟩ := hrel
      obtain ⟨A, c, eV, hcA, hCA⟩ := Kd.R_reads HRA.out
      subst eV
      have hal := good_short hgs
      obtain ⟨hglA, hnA⟩ := goodT_good hgs
      have hs4 := good_n hglA
      by_cases hql : q < l.length
      · obtain ⟨ad, A1, c1, eA, z0, z1, hc1, hC1⟩ := XSE.at_T28 (Kd.C_below HR.out HBW.out) (q : Int) (by omega) (by omega)
        cases eA
        rw [Int.toNat_natCast] at z0 z1
        have hC2 := C_cv hC1
        clear hC1
        generalize XSE.rd_T28 l (q : Int) = y at *
        obtain ⟨x, ym⟩ := y
        simp only at z0 z1 hc1 hC2
        rw [show ym.length = (ym.map cvR).length from (List.length_map _).symm] at z1 hc1 hC2
        generalize ym.map cvR = m at *
        have hS1 : SB w (wr1.alloc (.cells #[.string x, .slice A1 m.length c1] 28)) w1.heap.size wr1.heap.size s x (.slice A al.length c) al m A1 c1 :=
          (fun hb => ⟨HX.out.below hb, ⟨heap_alloc_new _ _⟩, Kd.R_below HRA.out hb, Kd.C_below hC2 hb, below_step HBW.out hb⟩) (below_alloc (Below.refl wr1.heap.size wr1) _)
        have HS1 := Aside0.mk hS1
        obtain ⟨b0, b1, -, -⟩ := hS1.t.cells
        have HFI := Aside0.mk (fun (w2 : World) (h : SB w w2 w1.heap.size wr1.heap.size s x (.slice A al.length c) al m A1 c1) => bureaulaw04_Fits.calls x A1 c1 m _ w2 h.m hc1 (fit_f x m))
        clear hS1 hC2 hCA
        cases hfi : fitB x m
        · rw [hfi] at HFI
          go_wp2_with (first | (go_at_call 5; (with_reducible refine (HFI.out _ HS1.out).mono ?_); rintro e w2 ⟨rfl, hb2⟩; have HS2 := Aside0.mk (HS1.out.below hb2); clear hb2; obtain ⟨a0, a1, -, -⟩ := HS2.out.a.cells; clear b0 b1; obtain ⟨b0, b1, -, -⟩ := HS2.out.t.cells))
          exact ⟨⟨_, q + 1, s, al, _, rfl, rfl, by go_num, by omega, hgs, ⟨HS2.out.a⟩, ⟨HS2.out.r⟩, ⟨HS2.out.b⟩⟩, by simp [intOf]; omega⟩
        · have hml : x.size ≤ 5000 ∧ m.length ≤ 5000 := of_decide_eq_true hfi
          have HGD := Aside0.mk (fun (w2 : World) (h : SB w w2 w1.heap.size wr1.heap.size s x (.slice A al.length c) al m A1 c1) => bureauref04_Good.calls (2 * m.length + 5000) x A1 c1 m _ w2 h.m hc1 (dGood4 x m (by omega) _ (Nat.le_refl _)))
          rw [hfi] at HFI
          cases hgx : goodT x m
          · rw [hgx] at HGD
            go_wp2_with (first | (go_at_call 5; (with_reducible refine (HFI.out _ HS1.out).mono ?_); rintro e w2 ⟨rfl, hb2⟩; have HS2 := Aside0.mk (HS1.out.below hb2); clear hb2; obtain ⟨a0, a1, -, -⟩ := HS2.out.a.cells; clear b0 b1; obtain ⟨b0, b1, -, -⟩ := HS2.out.t.cells) | (go_at_call 6; (with_reducible refine (HGD.out _ HS2.out).mono ?_); rintro e w3 ⟨rfl, hb3⟩; have HS3 := Aside0.mk (HS2.out.below hb3); clear hb3; clear a0 a1 b0 b1; obtain ⟨a0, a1, -, -⟩ := HS3.out.a.cells; obtain ⟨b0, b1, -, -⟩ := HS3.out.t.cells))
            exact ⟨⟨_, q + 1, s, al, _, rfl, rfl, by go_num, by omega, hgs, ⟨HS3.out.a⟩, ⟨HS3.out.r⟩, ⟨HS3.out.b⟩⟩, by simp [intOf]; omega⟩
          · rw [hgx] at HGD
            have HCA := Aside0.mk (fun (w2 : World) (h : SB w w2 w1.heap.size wr1.heap.size s x (.slice A al.length c) al m A1 c1) => catT_w w2 s x A A1 c c1 al m (Kd.R_reads' h.r).2.2 hcA h.m hc1 (by omega) (by omega))
            rw [cat_val hgs hgx] at HCA
            obtain ⟨hglX, hnX⟩ := goodT_good hgx
            have hx4 := good_n hglX
            by_cases hbb : (s.size : Int) + x.size > 4096
            · rw [if_pos hbb] at HCA
              have hsw : IntKind.i64.wrap ((s.size : Int) + x.size) = (s.size : Int) + x.size := wrap_ok _ ⟨by omega, by omega⟩
              have hle : ¬ ((s.size : Int) + x.size ≤ 4096) := by omega
              go_wp2_with (first | (go_at_call 5; (with_reducible refine (HFI.out _ HS1.out).mono ?_); rintro e w2 ⟨rfl, hb2⟩; have HS2 := Aside0.mk (HS1.out.below hb2); clear hb2; obtain ⟨a0, a1, -, -⟩ := HS2.out.a.cells; clear b0 b1; obtain ⟨b0, b1, -, -⟩ := HS2.out.t.cells) | (go_at_call 6; (with_reducible refine (HGD.out _ HS2.out).mono ?_); rintro e w3 ⟨rfl, hb3⟩; have HS3 := Aside0.mk (HS2.out.below hb3); clear hb3; clear a0 a1 b0 b1; obtain ⟨a0, a1, -, -⟩ := HS3.out.a.cells; obtain ⟨b0, b1, -, -⟩ := HS3.out.t.cells) | (go_at_call 7; (with_reducible refine (HCA.out _ HS3.out).mono ?_); rintro e w4 ⟨v4, rfl, hr4, hb4⟩; obtain ⟨A4, c4, e4, hc4, hC4⟩ := Kd.R_reads hr4; subst e4; have HS5 := Aside0.mk ((HS3.out.below hb4).below (below_alloc (Below.refl _ _) (.cells #[.string e0, .slice A4 0 c4] 28))); clear hb4 hr4 hC4 hc4; clear a0 a1 b0 b1; obtain ⟨a0, a1, -, -⟩ := HS5.out.a.cells; obtain ⟨b0, b1, -, -⟩ := HS5.out.t.cells))
              exact ⟨⟨_, q + 1, s, al, _, rfl, rfl, by go_num, by omega, hgs, ⟨HS5.out.a⟩, ⟨HS5.out.r⟩, ⟨HS5.out.b⟩⟩, by simp [intOf]; omega⟩
            · rw [if_neg hbb] at HCA
              have HVI := Aside0.mk (fun (w2 : World) (h : SB w w2 w1.heap.size wr1.heap.size s x (.slice A al.length c) al m A1 c1) => view_w w2 x A1 c1 m L h.m hc1 (by omega) hgx)
              have hvs := vie_size L hgs
              have hvx := vie_size L hgx
              have y1 : (9223372036854775807 < (vieT s al L).size + (vieT x m L).size) = False := eq_false (by rw [hvs, hvx]; omega)
              have hg2 := spl_good hgs hgx (by omega)
              have HVC := Aside0.mk (vie_cat L hgs hgx)
              clear hvs hvx
              go_wp2_with (first | (go_at_call 5; (with_reducible refine (HFI.out _ HS1.out).mono ?_); rintro e w2 ⟨rfl, hb2⟩; have HS2 := Aside0.mk (HS1.out.below hb2); clear hb2; obtain ⟨a0, a1, -, -⟩ := HS2.out.a.cells; clear b0 b1; obtain ⟨b0, b1, -, -⟩ := HS2.out.t.cells) | (go_at_call 6; (with_reducible refine (HGD.out _ HS2.out).mono ?_); rintro e w3 ⟨rfl, hb3⟩; have HS3 := Aside0.mk (HS2.out.below hb3); clear hb3; clear a0 a1 b0 b1; obtain ⟨a0, a1, -, -⟩ := HS3.out.a.cells; obtain ⟨b0, b1, -, -⟩ := HS3.out.t.cells) | (go_at_call 7; (with_reducible refine (HCA.out _ HS3.out).mono ?_); rintro e w4 ⟨v4, rfl, hr4, hb4⟩; obtain ⟨A4, c4, e4, hc4, hC4⟩ := Kd.R_reads hr4; subst e4; have hb5 := below_alloc (Below.refl w4.heap.size w4) (.cells #[.string (s ++ x), .slice A4 (spl al s.size s.size m).length c4] 28); have HR5 := Aside0.mk (Kd.R_below (Kd.R_lower hr4 HS3.out.b.size) hb5); have HS5 := Aside0.mk ((HS3.out.below hb4).below hb5); have HX5 := Aside0.mk (⟨heap_alloc_new _ _⟩ : BX (w4.alloc (.cells #[.string (s ++ x), .slice A4 (spl al s.size s.size m).length c4] 28)) w4.heap.size (s ++ x) (.slice A4 (spl al s.size s.size m).length c4)); clear hb5 hb4 hr4 hC4 hc4; clear a0 a1 b0 b1; obtain ⟨a0, a1, -, -⟩ := HS5.out.a.cells; obtain ⟨b0, b1, -, -⟩ := HS5.out.t.cells) | (go_at_call 8; (with_reducible refine (HVI.out _ HS5.out).mono ?_); rintro e w6 ⟨rfl, hb6⟩; have HR6 := Aside0.mk (Kd.R_below HR5.out hb6); have HS6 := Aside0.mk (HS5.out.below hb6); have HX6 := Aside0.mk (HX5.out.below hb6); clear hb6; clear a0 a1 b0 b1; obtain ⟨a0, a1, f0, f1⟩ := HS6.out.a.cells; obtain ⟨b0, b1, -, -⟩ := HS6.out.t.cells; obtain ⟨c0, c1, -, -⟩ := HX6.out.cells; have lx6 := HS6.out.a.lt))
              exact ⟨⟨_, q + 1, s ++ x, spl al s.size s.size m, _, rfl, by rw [HVC.out], by go_num, by omega, hg2, ⟨bx_put HS6.out.a⟩, ⟨R_two HR6.out HS6.out.a _ _⟩, ⟨two_set HS6.out.b HB1.out.size⟩⟩, by simp [intOf]; omega⟩
      · have hqg : l.length ≤ q := by omega
        have HC := Aside0.mk hCA
        obtain ⟨a0, a1, -, -⟩ := HX.out.cells
        have HVI := Aside0.mk (fun (w2 : World) (h : Below wr1.heap.size wr1 w2) => view_w w2 s A c al L (Kd.C_below HC.out h) hcA (by omega) hgs)
        clear hCA
        by_cases hmax : L = 18446744073709551615
        · subst hmax
          rw [vie_max hgs] at HVI ⊢
          go_wp2_with (first | (go_at_call 8; (with_reducible refine (HVI.out _ (Below.refl _ _)).mono ?_); rintro e w6 ⟨rfl, hb6⟩; have HX6 := Aside0.mk (HX.out.below hb6); have HB6 := Aside0.mk (below_step HBW.out hb6); have HB16 := Aside0.mk hb6; clear hb6; clear a0 a1; obtain ⟨a0, a1, -, -⟩ := HX6.out.cells))
          go_ret
          exact ⟨rfl, HB6.out⟩
        · have HRI := Aside0.mk (fun (w2 : World) (h : Below wr1.heap.size wr1 w2) => raiseT_w w2 s A c al (notL L) (Kd.C_below HC.out h) hcA (by omega))
          have er : raiT s al (notL L) = (s, rai al 0 s.size (notL L), 0) := by unfold raiT; rw [hgs]; rfl
          have hgr := rai_good (notL L) hgs
          have hrl := good_short hgr
          have HV2 := Aside0.mk (fun (w2 : World) (A7 : Option Addr) (c7 : Nat) (hC : Kd.C k43 w2 A7 (rai al 0 s.size (notL L)).length (rai al 0 s.size (notL L))) (hcc : (rai al 0 s.size (notL L)).length ≤ c7) => view_w w2 s A7 c7 _ L hC hcc (by omega) hgr)
          have hvs := vie_size L hgs
          have hvr := vie_size L hgr
          have HHI := Aside0.mk (vie_hidden L hL0 (by omega) hgs)
          rw [er] at HRI
          generalize rai al 0 s.size (notL L) = ra at *
          unfold notL at HRI
          clear er
          go_wp2_with (first | (go_at_call 8; (with_reducible refine (HVI.out _ (Below.refl _ _)).mono ?_); rintro e w6 ⟨rfl, hb6⟩; have HX6 := Aside0.mk (HX.out.below hb6); have HB6 := Aside0.mk (below_step HBW.out hb6); have HB16 := Aside0.mk hb6; clear hb6; clear a0 a1; obtain ⟨a0, a1, -, -⟩ := HX6.out.cells) | (go_at_call 9; (with_reducible refine (HRI.out _ HB16.out).mono ?_); rintro e w7 ⟨v7, rfl, hr7, hb7⟩; obtain ⟨A7, c7, e7, hc7, hC7⟩ := Kd.R_reads hr7; subst e7; have hb8 := below_alloc (Below.refl w7.heap.size w7) (.cells #[.string s, .slice A7 ra.length c7] 28); have HC8 := Aside0.mk (Kd.C_below hC7 hb8); have HCC := Aside0.mk hc7; have HB8 := Aside0.mk (below_step (below_step HB6.out hb7) hb8); clear hr7 hc7 hC7 hb7 hb8; dsimp only [vT]) | (go_at_call 8; (with_reducible refine (HV2.out _ _ _ HC8.out HCC.out).mono ?_); rintro e w9 ⟨rfl, hb9⟩; have HB9 := Aside0.mk (below_step HB8.out hb9); clear hb9))
          go_loopw [118] (fun ii wr => ∃ (wr2 : World) (j : Nat), wr2 = wr ∧ ii = .int .i64 j ∧ j ≤ (vieT s ra L).size ∧ Aside0 (Below w.heap.size w wr2)) (fun ii _ => (vieT s ra L).size - (intOf ii).toNat)
          case atStart => exact ⟨_, 0, rfl, rfl, Nat.zero_le _, HB9⟩
          case round =>
            obtain ⟨wr2, j, rfl, rfl, hj, HBR⟩ := hrel
            by_cases hjl : j < (vieT s ra L).size
            · have hv := HHI.out j hjl
              have hj2 : (j : Int) < ((vieT s ra L).size : Int) := by omega
              go_wp2
              exact ⟨⟨_, j + 1, rfl, by go_num, by omega, HBR⟩, by simp [intOf]; omega⟩
            · have hj2 : ¬ (j : Int) < ((vieT s ra L).size : Int) := by omega
              go_wp2
              go_ret
              exact ⟨rfl, HBR.out⟩
def bureautop_WholeSees.f (l0 : List XSE.S28) (a1 : Int) : Option Bool := if 0 ≤ a1 ∧ a1 ≤ 18446744073709551615 then some true else none
theorem bureautop_WholeSees.calls (A0 : Option Addr) (c0 : Nat) (l0 : List XSE.S28) (a1 : Int) (r : Bool) (w : World) (hr0 : Kd.C XSE.k28 w A0 l0.length l0) (hc0 : l0.length ≤ c0) (h : bureautop_WholeSees.f l0 a1 = some r) :
    Calls Try.prog 3 #[.slice A0 l0.length c0, .int .u64 a1] w fun e w' => e = .returned (.bool r) ∧ Below w.heap.size w w' := by
  unfold bureautop_WholeSees.f at h
  by_cases hc : 0 ≤ a1 ∧ a1 ≤ 18446744073709551615
  · rw [if_pos hc] at h
    cases h
    exact Sees_w A0 c0 l0 a1 w hr0 hc0 hc.1 hc.2
  · rw [if_neg hc] at h
    cases h

end Go.Proofs.Ytcaoopmpbpfeaaa.Ext
