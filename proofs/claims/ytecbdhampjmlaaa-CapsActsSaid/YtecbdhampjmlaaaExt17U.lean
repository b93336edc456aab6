/- caps: CapsActs, by its walk. -/
import Derived.Test.YtecbdhampjmlaaaExt17T
import Derived.Test.YtecbdhampjmlaaaXCapsActsx3
import Derived.Test.YtecbdhampjmlaaaXCapsActsx4
import Derived.Test.YtecbdhampjmlaaaXCapsActsx5
import Derived.Test.YtecbdhampjmlaaaXCapsActsx6
import Derived.Test.YtecbdhampjmlaaaXCapsActsx7
import Derived.Test.YtecbdhampjmlaaaXCAx0
import Derived.Test.YtecbdhampjmlaaaWMore
import Derived.WalkKit
import Derived.WalkMore
import Derived.Below
import Derived.KernelRfl
import Derived.LoopTactic
import Derived.Deep.RegionWith
import Derived.Deep.RegionHeld3
import Derived.IntWalk
import Derived.Deep.DeepCutAuto
import Derived.Deep.CutBlock
import Derived.BigQuiet
import Derived.Laws.RangeString
import Derived.Laws.RangeAny
import Derived.Laws.Rows
import Derived.Laws.Runes
import Derived.Lib.OthersKept
import Derived.OpenShut
set_option linter.unusedVariables false
set_option linter.unusedSimpArgs false
namespace Go.Proofs.Ytecbdhampjmlaaa.Ext
open Go.RowKit Go.Lib Go.Proofs.YtecbdhampjmlaaaW.PrintWords Go.Proofs.YtecbdhampjmlaaaW.PrintMore Go.Proofs.Ytecbdhampjmlaaa.XCapsActs

abbrev OB (v : Value) : Nat → Prop := fun k => v.ownBlock = some k
structure AS (w0 w : World) (R B T n : Nat) (l : List Sl) (g : Int) (v : Value) (L : List S59) : Prop where
  t : TRow w R B l g
  hb : Below w0.heap.size w0 w
  sz : w0.heap.size ≤ B
  tz : w0.heap.size ≤ T
  bx : w.heap[T]? = some (.cells #[v, .int .i64 n, .int .i64 g] 49 (0, 0))
  ln : l.length = n
  r : Kd.R k59 59 w w0.heap.size (OB v) v L
theorem AS.below {w0 w w' : World} {R B T n : Nat} {l : List Sl} {g : Int} {v : Value} {L : List S59} (h : AS w0 w R B T n l g v L) (hb : Below w.heap.size w w') : AS w0 w' R B T n l g v L :=
  ⟨h.t.below hb, below_step h.hb hb, h.sz, h.tz, (hb.block T (Array.getElem?_eq_some_iff.1 h.bx).1).trans h.bx, h.ln, Kd.R_below h.r hb⟩
theorem AS.alloc {w0 w : World} {R B T n : Nat} {l : List Sl} {g : Int} {v : Value} {L : List S59} (h : AS w0 w R B T n l g v L) (o : Obj) : AS w0 (w.alloc o) R B T n l g v L := h.below (below_alloc (Below.refl _ _) _)
theorem ty_ne {w : World} {a b : Nat} {ca cb : Array Value} {ta tb : TypeId} (ha : w.heap[a]? = some (.cells ca ta (0, 0))) (hb : w.heap[b]? = some (.cells cb tb (0, 0))) (h : ta ≠ tb) : a ≠ b := fun e => by
  subst e
  rw [ha] at hb
  injection hb with hb
  injection hb with _ hb
  exact h hb
theorem keep_row3 {w w' : World} {base B : Nat} {ok : Nat → Prop} {v : Value} {xs : List S59} {cs : Array Value} {t : TypeId} (h : Kd.R k59 59 w base ok v xs) (hB : w.heap[B]? = some (.cells cs t (0, 0))) (ht : 59 ≠ t) (hG : w.grownBy w' (some B)) : Kd.R k59 59 w' base ok v xs :=
  Kd.R_mono (Kd.R_step (Kd.R_types h hB (fun q hq => by
    rcases List.mem_cons.1 hq with e | e
    · rw [e]; exact ht
    · exact (List.not_mem_nil e).elim)) (fun k hk hlt => hG.block k hlt (fun e => hk.2 (by injection e)))) (fun _ hk => hk.1)
theorem AS.only {w0 w w' : World} {R B T n : Nat} {l l' : List Sl} {g : Int} {v : Value} {L : List S59} (h : AS w0 w R B T n l g v L) (ht : TRow w' R B l' g) (hl : l'.length = l.length) (hG : w.grownBy w' (some B)) : AS w0 w' R B T n l' g v L :=
  ⟨ht, ⟨hG.os.trans h.hb.os, hG.tape.trans h.hb.tape, hG.output.trans h.hb.output, Nat.le_trans h.hb.size hG.size, fun k hk => (hG.block k (Nat.lt_of_lt_of_le hk h.hb.size) (fun e => by injection e with e; have := h.sz; omega)).trans (h.hb.block k hk)⟩, h.sz, h.tz, (hG.block T (Array.getElem?_eq_some_iff.1 h.bx).1 (fun e => ty_ne h.bx h.t.b (by decide) (by injection e))).trans h.bx, hl.trans h.ln, keep_row3 h.r h.t.b (by decide) hG⟩
/-- What a document's function leaves: the table, and its variable. -/
theorem AS.kept {w0 w w' : World} {R B T n : Nat} {l : List Sl} {g : Int} {v : Value} {L : List S59} (h : AS w0 w R B T n l g v L) (hk : Kept w w' (OB v)) : TRow w' R B l g ∧ w'.heap[T]? = some (.cells #[v, .int .i64 n, .int .i64 g] 49 (0, 0)) :=
  ⟨h.t.kept (hk.2 R h.t.ltR (fun e => Kd.R_ne h.r h.t.t (by decide) e.symm)) (hk.2 B h.t.ltB (fun e => Kd.R_ne h.r h.t.b (by decide) e.symm)), (hk.2 T (Array.getElem?_eq_some_iff.1 h.bx).1 (fun e => Kd.R_ne h.r h.bx (by decide) e.symm)).trans h.bx⟩
theorem box_kept {w0 w w' : World} {R B T n : Nat} {l : List Sl} {g : Int} {v : Value} {L : List S59} (h : AS w0 w R B T n l g v L) (hk : Kept w w' (OB v)) {X : Nat} {cs : Array Value} {t : TypeId} (hx : w.heap[X]? = some (.cells cs t (0, 0))) (ht : 59 ≠ t) : w'.heap[X]? = some (.cells cs t (0, 0)) :=
  (hk.2 X (Array.getElem?_eq_some_iff.1 hx).1 (fun e => Kd.R_ne h.r hx ht e.symm)).trans hx
theorem lay3s {w : World} {T : Nat} {a b c : Value} {t : TypeId} (h : w.heap[T]? = some (.cells #[a, b, c] t (0, 0))) (x y z : Value) : (((w.setCell ⟨T, 0, none⟩ x).setCell ⟨T, 1, none⟩ y).setCell ⟨T, 2, none⟩ z).heap[T]? = some (.cells #[x, y, z] t (0, 0)) := by
  have h1 := heap_setCell_same w T 0 _ t x h
  have h2 := heap_setCell_same _ T 1 _ t y h1
  exact heap_setCell_same _ T 2 _ t z h2
theorem three_far (w : World) (T : Nat) (x y z : Value) (k : Nat) (h : k ≠ T) : (((w.setCell ⟨T, 0, none⟩ x).setCell ⟨T, 1, none⟩ y).setCell ⟨T, 2, none⟩ z).heap[k]? = w.heap[k]? := by
  rw [Below.heap_setCell _ _ _ _ (by exact h), Below.heap_setCell _ _ _ _ (by exact h), Below.heap_setCell _ _ _ _ (by exact h)]
theorem AS.put {w0 w : World} {R B T n : Nat} {l : List Sl} {g : Int} {v0 a b c : Value} {L' : List S59} (hn : l.length = n) (ht : TRow w R B l g) (hb : Below w0.heap.size w0 w) (hsz : w0.heap.size ≤ B) (htz : w0.heap.size ≤ T) (hx : w.heap[T]? = some (.cells #[a, b, c] 49 (0, 0))) (hr : Kd.R k59 59 w w0.heap.size (fun _ => True) v0 L') :
    AS w0 (((w.setCell ⟨T, 0, none⟩ v0).setCell ⟨T, 1, none⟩ (.int .i64 n)).setCell ⟨T, 2, none⟩ (.int .i64 g)) R B T n l g v0 L' := by
  refine ⟨ht.kept (three_far _ _ _ _ _ _ (ty_ne ht.t hx (by decide))) (three_far _ _ _ _ _ _ (ty_ne ht.b hx (by decide))), below_set (below_set (below_set hb htz) htz) htz, hsz, htz, lay3s hx _ _ _, hn, ?_⟩
  have hne := Kd.R_ne hr hx (by decide)
  obtain ⟨_, inner, ho, hrr⟩ := hr
  have hk : Kd.R k59 59 w w0.heap.size (OB v0) v0 L' := ⟨fun k hk => hk, inner, ho, hrr⟩
  exact Kd.R_move hk (fun k hk => three_far _ _ _ _ _ _ (fun e => hne (by rw [← e]; exact hk.symm)))
theorem cell_b {a b : World} {c : Nat} (hg : Below c a b) {ad : Addr} {v : Value} (h : a.cell? ad = some v) (hlt : ad.block < c) : b.cell? ad = some v := (hg.cell hlt).trans h
theorem rvk_len (ks kg : Int) : ∀ (L : List Gv) (gone : List (Int × Int)), (rvk ks kg L gone).1.length = L.length := by
  intro L
  induction L with
  | nil => intro _; rfl
  | cons x L ih =>
    intro gone
    rw [rvk_cons]
    split
    · simp only [List.length_cons, ih]
    · simp only [List.length_cons, ih]
theorem Sim.start (n : Nat) : Sim (List.replicate n sl0) [] := by
  refine ⟨fun i _ => ?_, fun g h => (List.not_mem_nil h).elim, fun p g h => (by simp at h), fun g h => (List.not_mem_nil h).elim, fun i h => ?_, fun p g h => (by simp at h), fun g h => (List.not_mem_nil h).elim, fun g h => (List.not_mem_nil h).elim⟩
  · rw [atS_rep]; rfl
  · rw [atS_rep] at h; cases h
theorem giveZ_len (g : Int) (l : List Sl) (c : Cp) : (giveZ g l c).1.length = l.length := by
  rcases giveZ_or g l c with ⟨i, hi, hf, e⟩ | e
  · rw [e]; exact List.length_set
  · rw [e]
theorem mintZ_len (g : Int) (l : List Sl) (a b c : Int) : (mintZ g l a b c).1.length = l.length := by
  unfold mintZ
  split
  · rfl
  · exact giveZ_len _ _ _
theorem deriveZ_len (g : Int) (l : List Sl) (a b c d e : Int) : (deriveZ g l a b c d e).1.length = l.length := by
  unfold deriveZ
  split
  · rfl
  · split
    · rfl
    · exact giveZ_len _ _ _
theorem revokeZ_len (l : List Sl) (ks kg : Int) : (revokeZ l ks kg).1.length = l.length := by
  unfold revokeZ
  by_cases c : findE l ks kg ≠ 0
  · rw [if_pos c]
  · rw [if_neg c]
    obtain ⟨i, rfl, hi, ha, hg⟩ := findE_ok (Classical.not_not.1 c)
    exact (revS_ok (lives l) l _ (by rw [Int.toNat_natCast]; exact ha) (Nat.le_refl _)).less.len
attribute [local go_sem high] eqA28 eqA37
set_option maxRecDepth 100000 in
set_option maxHeartbeats 16000000 in
theorem Acts_w (n : Nat) (g : Int) (A1 : Option Addr) (c1 : Nat) (l1 : List XCA.S32) (w : World) (hr1 : Kd.C XCA.k32 w A1 l1.length l1) (hc1 : l1.length ≤ c1) (hlm : l1.length ≤ maxLen) (hk : ∀ x, x ∈ l1 → 0 ≤ x.f0 ∧ x.f0 ≤ 255) (hn : 1 ≤ n ∧ n ≤ 64) (hg : 1 ≤ g ∧ g ≤ 65535) :
    Calls Try.prog 5 #[.int .i64 n, .int .i64 g, .slice A1 l1.length c1] w fun e w' => e = .returned (.bool true) ∧ Below w.heap.size w w' := by
  have hlm2 : l1.length ≤ 9223372036854775807 := hlm
  have HAL := Aside0.mk (alive_w w)
  have HN := Aside0.mk (fun (w1 : World) => New_w n g w1 (by omega) hg)
  have HK := Aside0.mk hk
  have HR1 := Aside0.mk hr1
  have cg1 : decide (1 ≤ (n : Int)) = true := decide_eq_true (by omega)
  have cg2 : decide ((n : Int) ≤ 64) = true := decide_eq_true (by omega)
  have cg3 : decide (1 ≤ g) = true := decide_eq_true (by omega)
  have cg4 : decide (g ≤ 65535) = true := decide_eq_true (by omega)
  have HNN := Aside0.mk hn
  have HGG := Aside0.mk hg
  clear hk hr1 hlm hn hg
  go_enter Try.func5, Try.ntmps5
  go_wp2_with (first
    | (go_at_call 8; (with_reducible refine HAL.out.mono ?_); rintro e w1 ⟨rfl, hb1⟩; have HB1 := Aside0.mk hb1; clear hb1)
    | (go_at_call 9; (with_reducible refine (HN.out _).mono ?_); rintro e w2 ⟨R, B, hR, hB, rfl, hT2, hb2⟩; have HT2 := Aside0.mk hT2; have HB2 := Aside0.mk hb2; have ltR := hT2.ltR; have ltB := hT2.ltB; clear hT2 hb2))
  have HS0 : Aside0 (AS w (w2.alloc (.cells #[.slice none 0 0, .int .i64 n, .int .i64 g] 49)) R B w2.heap.size n (List.replicate (n : Int).toNat sl0) g (.slice none 0 0) []) := ⟨⟨HT2.out.below (below_alloc (Below.refl _ _) _), below_alloc (below_step HB1.out HB2.out) _, Nat.le_trans HB1.out.size hB, Nat.le_trans HB1.out.size HB2.out.size, heap_alloc_new _ _, by rw [List.length_replicate, Int.toNat_natCast], Kd.R_nil _ _ _ _ _⟩⟩
  have HSI0 : Aside0 (Sim (List.replicate (n : Int).toNat sl0) (([] : List S59).map cv)) := ⟨Sim.start _⟩
  generalize w2.heap.size = T at *
  clear HB1 HB2 HT2 cg1 cg2 cg3 cg4
  go_loopw [9] (fun ii wr => ∃ (wr1 : World) (k : Nat) (l : List Sl) (v : Value) (L : List S59), wr1 = wr ∧ ii = .int .i64 k ∧ k ≤ l1.length ∧ L.length ≤ k ∧ Aside0 (Sim l (L.map cv)) ∧ Aside0 (AS w wr1 R B T n l g v L)) (fun ii _ => l1.length - (intOf ii).toNat)
  case atStart => exact ⟨_, 0, _, _, [], rfl, rfl, Nat.zero_le _, Nat.le_refl _, HSI0, HS0⟩
  case round =>
    obtain ⟨wr1, k, l, v, L, rfl, rfl, hk, hL, HSI, HS⟩ := hrel
    by_cases hkl : k < l1.length
    · by_cases hk60 : k < 60
      · obtain ⟨ad, eA, hx0, hx1, hx2, hx3, hx4, hx5, hx6, hx7⟩ := XCA.at_T32 HR1.out (k : Int) (by omega) (by omega)
        cases eA
        rw [Int.toNat_natCast] at hx0 hx1 hx2 hx3 hx4 hx5 hx6 hx7
        have hlt : (ad.add (k * 8)).block < w.heap.size := by
          have := Kd.C_lt HR1.out (by omega) (by decide)
          unfold Addr.add
          split <;> exact this
        have hm : XCA.rd_T32 l1 (k : Int) ∈ l1 := by
          unfold XCA.rd_T32
          rw [Int.toNat_natCast, List.getD_eq_getElem?_getD, List.getElem?_eq_getElem hkl]
          exact List.getElem_mem hkl
        have hkk := HK.out _ hm
        generalize XCA.rd_T32 l1 (k : Int) = x at hx0 hx1 hx2 hx3 hx4 hx5 hx6 hx7 hkk
        obtain ⟨kd, ⟨ks, kg⟩, who, ob, ri, ow, fo⟩ := x
        simp only at hx0 hx1 hx2 hx3 hx4 hx5 hx6 hx7 hkk
        have hx0 := cell_b HS.out.hb hx0 hlt
        have hx1 := cell_b HS.out.hb hx1 hlt
        have hx2 := cell_b HS.out.hb hx2 hlt
        have hx3 := cell_b HS.out.hb hx3 hlt
        have hx4 := cell_b HS.out.hb hx4 hlt
        have hx5 := cell_b HS.out.hb hx5 hlt
        have hx6 := cell_b HS.out.hb hx6 hlt
        have hx7 := cell_b HS.out.hb hx7 hlt
        obtain ⟨hkk0, hkk1⟩ := hkk
        clear hm hlt
        go_upto_block 2 with (fail)
        clear hx0 hx1 hx2 hx3 hx4 hx5 hx6 hx7
        have HS1 := Aside0.mk (HS.out.alloc (.cells #[.int .u8 kd, .int .i64 ks, .int .i64 kg, .int .i64 who, .int .i64 ob, .int .i64 ri, .int .i64 ow, .bool fo] 32))
        have HX1 := Aside0.mk (heap_alloc_new wr1 (.cells #[.int .u8 kd, .int .i64 ks, .int .i64 kg, .int .i64 who, .int .i64 ob, .int .i64 ri, .int .i64 ow, .bool fo] 32))
        generalize wr1.alloc (.cells #[.int .u8 kd, .int .i64 ks, .int .i64 kg, .int .i64 who, .int .i64 ob, .int .i64 ri, .int .i64 ow, .bool fo] 32) = wa at HS1 HX1 ⊢
        have hXB := ty_ne HX1.out HS1.out.t.b (by decide)
        generalize wr1.heap.size = X at HX1 hXB ⊢
        clear HS HR1 HK
        go_cut [11] (fun t11 wc => ∃ (wc1 : World) (l' : List Sl) (v' : Value) (L' : List S59), wc1 = wc ∧ t11 = .bool true ∧ L'.length ≤ k + 1 ∧ Aside0 (Sim l' (L'.map cv)) ∧ Aside0 (AS w wc1 R B T n l' g v' L'))
        case first =>
          obtain ⟨a0, a1, a2, a3, a4, a5, a6, a7, -⟩ := lay8 HX1.out
          obtain ⟨p0, p1, p2, -, -, -⟩ := lay3 HS1.out.bx
          by_cases c0 : kd % 4 = 0
          · have cb : (kd % 4 == 0) = true := beq_iff_eq.2 c0
            clear c0
            have HLN := Aside0.mk (mintZ_len g l ob ri ow)
            have HM := Aside0.mk (fun (w1 : World) (h : TRow w1 R B l g) => Mint_w R B l g ob ri ow w1 h)
            obtain ⟨kk, L', hf, hsim, hlen⟩ := mint_doc L g HSI.out (by omega) (by have := HNN.out; have := HS1.out.ln; omega) ob ri ow
            rw [HS1.out.ln] at hf
            have HDM := Aside0.mk (fun (w1 : World) (hB : Below w.heap.size w w1) (ho : Kd.R k59 59 w1 w.heap.size (OB v) v L) => bureauref17_Mint.calls kk (OB v) v L n g ob ri ow L' _ _ _ _ _ w w1 hB ho hf)
            have HSIM := Aside0.mk hsim
            clear hf hsim
            generalize mintZ g l ob ri ow = z at HLN HM HDM HSIM
            obtain ⟨l', ts, tg, te⟩ := z
            simp only at HLN HSIM HDM
            go_wp2_with (first | (go_at_call 15; (with_reducible refine (HM.out _ HS1.out.t).mono ?_); rintro e w3 ⟨rfl, hT3, hG3⟩; have HS3 := Aside0.mk (HS1.out.only hT3 HLN.out hG3); have hx3 := only_cells hG3 HX1.out hXB; have hlX : X < w3.heap.size := (Array.getElem?_eq_some_iff.1 hx3).1; clear a0 a1 a2 a3 a4 a5 a6 a7 p0 p1 p2; obtain ⟨a0, a1, a2, a3, a4, a5, a6, a7, -⟩ := lay8 hx3; have hlT : T < w3.heap.size := (Array.getElem?_eq_some_iff.1 HS3.out.bx).1; obtain ⟨p0, p1, p2, -, -, -⟩ := lay3 HS3.out.bx; clear hx3 hT3 hG3) | (go_at_call 16; (with_reducible refine (HDM.out _ (HS3.out.alloc _).hb (HS3.out.alloc _).r).mono ?_); rintro e w4 ⟨v0, rfl, hR4, hb4, hk4⟩; obtain ⟨A4, c4, e4⟩ := Kd.R_slice hR4; subst e4; have hx4 := box_kept (HS3.out.alloc _) hk4 (heap_alloc_new w3 _) (by decide); have hl4 : w3.heap.size < w4.heap.size := (Array.getElem?_eq_some_iff.1 hx4).1; obtain ⟨b0, b1, -, -⟩ := tok_lay hx4; have hkk4 := AS.kept (HS3.out.alloc _) hk4; have hlT4 : T < w4.heap.size := (Array.getElem?_eq_some_iff.1 hkk4.2).1; obtain ⟨q0, q1, q2, f0, f1, f2⟩ := lay3 hkk4.2; have HP := Aside0.mk (AS.put HS3.out.ln hkk4.1 hb4 HS1.out.sz HS1.out.tz hkk4.2 (Kd.R_mono hR4 (ok' := fun _ => True) (fun _ _ => trivial))); clear hx4 hkk4 hR4 hb4 hk4))
            go_meet
            case rel => exact ⟨_, l', _, L', rfl, rfl, by omega, HSIM, ⟨(HP.out.alloc _).alloc _⟩⟩
          have cb0 : (kd % 4 == 0) = false := beq_eq_false_iff_ne.2 c0
          by_cases c1 : kd % 4 = 1
          · have cb : (kd % 4 == 1) = true := beq_iff_eq.2 c1
            clear c0 c1
            have HLN := Aside0.mk (deriveZ_len g l ks kg who ri ow)
            have HM := Aside0.mk (fun (w1 : World) (h : TRow w1 R B l g) => Derive_w R B l g ks kg who ri ow w1 h)
            obtain ⟨kk, L', hf, hsim, hlen⟩ := derive_doc L g HSI.out (by omega) (by have := HNN.out; have := HS1.out.ln; omega) ks kg who ri ow
            rw [HS1.out.ln] at hf
            have HDM := Aside0.mk (fun (w1 : World) (hB : Below w.heap.size w w1) (ho : Kd.R k59 59 w1 w.heap.size (OB v) v L) => bureauref17_Derive.calls kk (OB v) v L n g ks kg who ri ow L' _ _ _ _ _ w w1 hB ho hf)
            have HSIM := Aside0.mk hsim
            clear hf hsim
            generalize deriveZ g l ks kg who ri ow = z at HLN HM HDM HSIM
            obtain ⟨l', ts, tg, te⟩ := z
            simp only at HLN HSIM HDM
            go_wp2_with (first | (go_at_call 17; (with_reducible refine (HM.out _ HS1.out.t).mono ?_); rintro e w3 ⟨rfl, hT3, hG3⟩; have HS3 := Aside0.mk (HS1.out.only hT3 HLN.out hG3); have hx3 := only_cells hG3 HX1.out hXB; have hlX : X < w3.heap.size := (Array.getElem?_eq_some_iff.1 hx3).1; clear a0 a1 a2 a3 a4 a5 a6 a7 p0 p1 p2; obtain ⟨a0, a1, a2, a3, a4, a5, a6, a7, -⟩ := lay8 hx3; have hlT : T < w3.heap.size := (Array.getElem?_eq_some_iff.1 HS3.out.bx).1; obtain ⟨p0, p1, p2, -, -, -⟩ := lay3 HS3.out.bx; clear hx3 hT3 hG3) | (go_at_call 18; (with_reducible refine (HDM.out _ (HS3.out.alloc _).hb (HS3.out.alloc _).r).mono ?_); rintro e w4 ⟨v0, rfl, hR4, hb4, hk4⟩; obtain ⟨A4, c4, e4⟩ := Kd.R_slice hR4; subst e4; have hx4 := box_kept (HS3.out.alloc _) hk4 (heap_alloc_new w3 _) (by decide); have hl4 : w3.heap.size < w4.heap.size := (Array.getElem?_eq_some_iff.1 hx4).1; obtain ⟨b0, b1, -, -⟩ := tok_lay hx4; have hkk4 := AS.kept (HS3.out.alloc _) hk4; have hlT4 : T < w4.heap.size := (Array.getElem?_eq_some_iff.1 hkk4.2).1; obtain ⟨q0, q1, q2, f0, f1, f2⟩ := lay3 hkk4.2; have HP := Aside0.mk (AS.put HS3.out.ln hkk4.1 hb4 HS1.out.sz HS1.out.tz hkk4.2 (Kd.R_mono hR4 (ok' := fun _ => True) (fun _ _ => trivial))); clear hx4 hkk4 hR4 hb4 hk4))
            go_meet
            case rel => exact ⟨_, l', _, L', rfl, rfl, by omega, HSIM, ⟨(HP.out.alloc _).alloc _⟩⟩
          have cb1 : (kd % 4 == 1) = false := beq_eq_false_iff_ne.2 c1
          by_cases c2 : kd % 4 = 2
          · have cb : (kd % 4 == 2) = true := beq_iff_eq.2 c2
            clear c0 c1 c2
            obtain ⟨Av, cw, ev⟩ := Kd.R_slice HS1.out.r
            subst ev
            have hcw := (Kd.R_reads' HS1.out.r).2.1
            have HLN := Aside0.mk (revokeZ_len l ks kg)
            have HM := Aside0.mk (fun (w1 : World) (h : TRow w1 R B l g) => Revoke_w R B l g ks kg w1 h)
            have hrd := revoke_doc (L.map cv) HSI.out ks kg
            unfold revD at hrd
            by_cases hfe : findE l ks kg ≠ 0
            · rw [if_pos hfe] at hrd
              have HDR := fun (w1 : World) (hr : Kd.C k59 w1 Av L.length L) => RevD_err (l := l) Av cw L g ks kg w1 HSI.out (by omega) hr hcw hfe
              simp only [HS1.out.ln] at HDR
              have HDR := Aside0.mk HDR
              have HSIM := Aside0.mk hrd.2
              have hz := hrd.1
              clear hrd
              generalize revokeZ l ks kg = z at HLN HM HSIM hz
              obtain ⟨l', zn, ze⟩ := z
              simp only [Prod.mk.injEq] at hz HLN HSIM
              obtain ⟨rfl, rfl⟩ := hz
              go_wp2_with (first | (go_at_call 14; (with_reducible refine (HM.out _ HS1.out.t).mono ?_); rintro e w3 ⟨rfl, hT3, hG3⟩; have HS3 := Aside0.mk (HS1.out.only hT3 HLN.out hG3); have hx3 := only_cells hG3 HX1.out hXB; have hlX : X < w3.heap.size := (Array.getElem?_eq_some_iff.1 hx3).1; clear a0 a1 a2 a3 a4 a5 a6 a7 p0 p1 p2; obtain ⟨a0, a1, a2, a3, a4, a5, a6, a7, -⟩ := lay8 hx3; have hlT : T < w3.heap.size := (Array.getElem?_eq_some_iff.1 HS3.out.bx).1; obtain ⟨p0, p1, p2, -, -, -⟩ := lay3 HS3.out.bx; clear hx3 hT3 hG3) | (go_at_call 19; (with_reducible refine (HDR.out _ (Kd.R_reads' HS3.out.r).2.2).mono ?_); rintro e w4 ⟨rfl, hb4⟩; have HS4 := Aside0.mk (HS3.out.below hb4); have hlT4 : T < w4.heap.size := (Array.getElem?_eq_some_iff.1 HS4.out.bx).1; obtain ⟨q0, q1, q2, f0, f1, f2⟩ := lay3 HS4.out.bx; have HP := Aside0.mk (AS.put HS4.out.ln HS4.out.t HS4.out.hb HS1.out.sz HS1.out.tz HS4.out.bx (Kd.R_mono HS4.out.r (ok' := fun _ => True) (fun _ _ => trivial))); clear hb4))
              go_meet
              case rel => exact ⟨_, l', _, L, rfl, rfl, by omega, HSIM, ⟨HP.out.alloc _⟩⟩
            · have hf0 := Classical.not_not.1 hfe
              rw [if_neg hfe] at hrd
              obtain ⟨M, m, hM⟩ : ∃ M m, rvk ks kg (L.map cv) [(ks, kg)] = (M, m) := ⟨_, _, rfl⟩
              rw [hM] at hrd
              have HDR := fun (w1 : World) (hr : Kd.C k59 w1 Av L.length L) => RevD_ok (l := l) Av cw L g ks kg w1 HSI.out (by omega) hr hcw hf0 M m hM
              simp only [HS1.out.ln] at HDR
              have HDR := Aside0.mk HDR
              have HSIM := Aside0.mk hrd.2
              have hz := hrd.1
              have hlm3 : M.length = L.length := by
                have h := rvk_len ks kg (L.map cv) [(ks, kg)]
                rw [hM, List.length_map] at h
                exact h
              clear hrd hM hfe hf0
              generalize revokeZ l ks kg = z at HLN HM HSIM hz
              obtain ⟨l', zn, ze⟩ := z
              simp only [Prod.mk.injEq] at hz HLN HSIM
              obtain ⟨rfl, rfl⟩ := hz
              have HLM := Aside0.mk hlm3
              clear hlm3
              go_wp2_with (first | (go_at_call 14; (with_reducible refine (HM.out _ HS1.out.t).mono ?_); rintro e w3 ⟨rfl, hT3, hG3⟩; have HS3 := Aside0.mk (HS1.out.only hT3 HLN.out hG3); have hx3 := only_cells hG3 HX1.out hXB; have hlX : X < w3.heap.size := (Array.getElem?_eq_some_iff.1 hx3).1; clear a0 a1 a2 a3 a4 a5 a6 a7 p0 p1 p2; obtain ⟨a0, a1, a2, a3, a4, a5, a6, a7, -⟩ := lay8 hx3; have hlT : T < w3.heap.size := (Array.getElem?_eq_some_iff.1 HS3.out.bx).1; obtain ⟨p0, p1, p2, -, -, -⟩ := lay3 HS3.out.bx; clear hx3 hT3 hG3) | (go_at_call 19; (with_reducible refine (HDR.out _ (Kd.R_reads' HS3.out.r).2.2).mono ?_); rintro e w4 ⟨v0, L', rfl, hR4, hM4, hb4⟩; obtain ⟨A4, c4, e4⟩ := Kd.R_slice hR4; subst e4; have HS4 := Aside0.mk (HS3.out.below hb4); have hlT4 : T < w4.heap.size := (Array.getElem?_eq_some_iff.1 HS4.out.bx).1; obtain ⟨q0, q1, q2, f0, f1, f2⟩ := lay3 HS4.out.bx; have HP := Aside0.mk (AS.put HS4.out.ln HS4.out.t HS4.out.hb HS1.out.sz HS1.out.tz HS4.out.bx (Kd.R_lower hR4 HS3.out.hb.size)); have HM4 := Aside0.mk hM4; clear hb4 hR4 hM4))
              go_meet
              case rel => exact ⟨_, l', _, L', rfl, rfl, by have h := congrArg List.length HM4.out; rw [List.length_map, HLM.out] at h; omega, ⟨by rw [HM4.out]; exact HSIM.out⟩, ⟨HP.out.alloc _⟩⟩
          have cb2 : (kd % 4 == 2) = false := beq_eq_false_iff_ne.2 c2
          clear c0 c1 c2
          obtain ⟨Av, cw, ev⟩ := Kd.R_slice HS1.out.r
          subst ev
          have hcw := (Kd.R_reads' HS1.out.r).2.1
          have HM := Aside0.mk (fun (w1 : World) (h : TRow w1 R B l g) => Look_w R B l g ks kg who ri w1 h)
          obtain ⟨r1, r2, rb, hf⟩ := look_doc L g HSI.out (by omega) ks kg who ri (L.length + 10) (Nat.le_refl _)
          rw [HS1.out.ln] at hf
          have HDK := Aside0.mk (fun (w1 : World) (hr : Kd.C k59 w1 Av L.length L) => bureauref17_Look.calls (L.length + 10) Av cw L n g ks kg who ri _ _ _ _ _ _ _ _ _ w1 hr hcw hf)
          clear hf
          generalize lookZ l ks kg who ri = z at HM HDK
          obtain ⟨⟨y0, y1, y2, y3, y4⟩, ye⟩ := z
          simp only at HM HDK
          go_wp2_with (first | (go_at_call 13; (with_reducible refine (HM.out _ HS1.out.t).mono ?_); rintro e w3 ⟨rfl, hb3⟩; have HS3 := Aside0.mk (HS1.out.below hb3); have hx3 := (hb3.block X (Array.getElem?_eq_some_iff.1 HX1.out).1).trans HX1.out; have hlX : X < w3.heap.size := (Array.getElem?_eq_some_iff.1 hx3).1; clear a0 a1 a2 a3 a4 a5 a6 a7 p0 p1 p2; obtain ⟨a0, a1, a2, a3, a4, a5, a6, a7, -⟩ := lay8 hx3; have hlT : T < w3.heap.size := (Array.getElem?_eq_some_iff.1 HS3.out.bx).1; obtain ⟨p0, p1, p2, -, -, -⟩ := lay3 HS3.out.bx; clear hx3 hb3) | (go_at_call 20; (with_reducible refine (HDK.out _ (Kd.R_reads' (HS3.out.alloc _).r).2.2).mono ?_); rintro e w4 ⟨rfl, hb4⟩; have hx4 := (hb4.block w3.heap.size (by simp)).trans (heap_alloc_new w3 _); have hl4 : w3.heap.size < w4.heap.size := (Array.getElem?_eq_some_iff.1 hx4).1; obtain ⟨b0, b1, b2, b3, b4⟩ := cap_lay hx4; have HS4 := Aside0.mk ((HS3.out.alloc _).below hb4); clear hx4 hb4))
          go_meet
          case rel => exact ⟨_, l, _, L, rfl, rfl, by omega, HSI, ⟨HS4.out.alloc _⟩⟩
        case rest =>
          obtain ⟨wc1, l', v', L', rfl, rfl, hL', HSI', HS'⟩ := hcut
          obtain ⟨Av, cw, ev⟩ := Kd.R_slice HS'.out.r
          subst ev
          have hcw := (Kd.R_reads' HS'.out.r).2.1
          have hn64 : l'.length ≤ 64 := by have := HNN.out; have := HS'.out.ln; omega
          obtain ⟨k1, k2, N, hf1, hf2⟩ := live_doc L' g HSI'.out (by omega) hn64
          obtain ⟨k3, hf3⟩ := free_doc L' g HSI'.out (by omega) hn64
          rw [HS'.out.ln] at hf1 hf3
          have HLV := Aside0.mk (fun (w1 : World) (h : TRow w1 R B l' g) => Live_w R B l' g w1 h)
          have HDL := Aside0.mk (fun (w1 : World) (hr : Kd.C k59 w1 Av L'.length L') => bureauref17_Live.calls k1 Av cw L' n g N w1 hr hcw hf1)
          have HSM := Aside0.mk (fun (A0 : Option Addr) (d0 : Nat) (A1 : Option Addr) (d1 : Nat) (w1 : World) (hr0 : Kd.C k39 w1 A0 ((liveZ l').map s39).length ((liveZ l').map s39)) (hc0 : ((liveZ l').map s39).length ≤ d0) (hr1 : Kd.C k59 w1 A1 N.length N) (hc1 : N.length ≤ d1) => bureaulaw17_same.calls k2 A0 d0 ((liveZ l').map s39) A1 d1 N true w1 hr0 hc0 hr1 hc1 hf2)
          have HFR := Aside0.mk (fun (w1 : World) (h : TRow w1 R B l' g) => Free_w R B l' g w1 h)
          have HDF := Aside0.mk (fun (w1 : World) (hr : Kd.C k59 w1 Av L'.length L') => bureauref17_Free.calls k3 Av cw L' n g (freeZ g l' : Int) w1 hr hcw hf3)
          clear hf1 hf2 hf3 hn64 hkk0 hkk1 hXB HX1 HS1 HSI
          generalize (liveZ l').map s39 = lv at *
          generalize ((freeZ g l' : Nat) : Int) = fz at *
          obtain ⟨p0, p1, p2, -, -, -⟩ := lay3 HS'.out.bx
          go_upto_region 31 with (fail)
          go_cut [229] from 213 to 229 (fun b wc => ∃ (wc2 : World), wc2 = wc ∧ b = .bool false ∧ Aside0 (AS w wc2 R B T n l' g (.slice Av L'.length cw) L'))
          case first =>
            have HC := Aside0.mk (HS'.out.below (below_drew (Below.refl _ _)))
            go_region_held3 (fun w' => w'.cell? ⟨T, 0, none⟩ = some (.slice Av L'.length cw) ∧ w'.cell? ⟨T, 1, none⟩ = some (.int .i64 n) ∧ w'.cell? ⟨T, 2, none⟩ = some (.int .i64 g)) (first | exact ⟨(lay3 HC.out.bx).1, (lay3 HC.out.bx).2.1, (lay3 HC.out.bx).2.2.1⟩ | go_keep) (first | (go_at_call 12; (with_reducible refine (HLV.out _ HC.out.t).mono ?_); rintro e wx ⟨v5, rfl, hR5, hb5⟩; obtain ⟨A5, c5, e5⟩ := Kd.R_slice hR5; subst e5; have HC := Aside0.mk (HC.out.below hb5); have HL5 := Aside0.mk (Kd.R_mono hR5 (ok' := fun _ => True) (fun _ _ => trivial)); (try (have HD5 := Aside0.mk (Kd.R_below HD5.out hb5))); clear hR5 hb5) | (go_at_call 22; (with_reducible refine (HDL.out _ (Kd.R_reads' HC.out.r).2.2).mono ?_); rintro e wx ⟨v6, rfl, hR6, hb6⟩; obtain ⟨A6, c6, e6⟩ := Kd.R_slice hR6; subst e6; have HC := Aside0.mk (HC.out.below hb6); have HD5 := Aside0.mk (Kd.R_mono hR6 (ok' := fun _ => True) (fun _ _ => trivial)); (try (have HL5 := Aside0.mk (Kd.R_below HL5.out hb6))); clear hR6 hb6) | (go_at_call 21; (with_reducible refine (HSM.out _ _ _ _ _ (Kd.R_reads' HL5.out).2.2 (Kd.R_reads' HL5.out).2.1 (Kd.R_reads' HD5.out).2.2 (Kd.R_reads' HD5.out).2.1).mono ?_); rintro e wx ⟨rfl, hd5⟩; have HC := Aside0.mk (HC.out.below hd5.below); clear hd5) | (go_at_call 23; (with_reducible refine (HFR.out _ HC.out.t).mono ?_); rintro e wx ⟨rfl, hb5⟩; have HC := Aside0.mk (HC.out.below hb5); clear hb5) | (go_at_call 24; (with_reducible refine (HDF.out _ (Kd.R_reads' HC.out.r).2.2).mono ?_); rintro e wx ⟨rfl, hb5⟩; have HC := Aside0.mk (HC.out.below hb5); clear hb5))
            all_goals (go_wp2; go_meet; exact ⟨_, rfl, rfl, HC⟩)
          case rest =>
            obtain ⟨wc2, rfl, rfl, HSf⟩ := hcut
            go_wp2
            exact ⟨⟨_, k + 1, l', _, L', rfl, by go_num, by omega, by omega, HSI', HSf⟩, by simp [intOf]; omega⟩
      · have hkg : 60 ≤ k := by omega
        go_wp2
        go_ret
        exact ⟨rfl, HS.out.hb⟩
    · have hkg : l1.length ≤ k := by omega
      go_wp2
      go_ret
      exact ⟨rfl, HS.out.hb⟩
set_option maxRecDepth 100000 in
set_option maxHeartbeats 8000000 in
theorem Acts_nil (s g : Int) (A1 : Option Addr) (n1 c1 : Nat) (w : World) (h : s < 1 ∨ 64 < s ∨ g < 1 ∨ 65535 < g) :
    Calls Try.prog 5 #[.int .i64 s, .int .i64 g, .slice A1 n1 c1] w fun e w' => e = .returned (.bool true) ∧ Below w.heap.size w w' := by
  have HAL := Aside0.mk (alive_w w)
  have HN := Aside0.mk (fun (w1 : World) => New_nil s g w1 h)
  by_cases c1 : s < 1
  · have cb1 : decide (1 ≤ s) = false := decide_eq_false (by omega)
    clear h c1
    go_enter Try.func5, Try.ntmps5
    go_wp2_with (first
      | (go_at_call 8; (with_reducible refine HAL.out.mono ?_); rintro e w1 ⟨rfl, hb1⟩; have HB1 := Aside0.mk hb1; clear hb1)
      | (go_at_call 9; (with_reducible refine (HN.out _).mono ?_); rintro e w2 ⟨rfl, rfl⟩))
    go_loopw [9] (fun ii wr => ii = .int .i64 0 ∧ Aside0 (Below w.heap.size w wr)) (fun _ _ => 0)
    case atStart => exact ⟨rfl, ⟨below_alloc HB1.out _⟩⟩
    case round =>
      obtain ⟨rfl, HB2⟩ := hrel
      go_wp2
      go_ret
      exact ⟨rfl, HB2.out⟩
  have cb1 : decide (1 ≤ s) = true := decide_eq_true (by omega)
  by_cases c2 : 64 < s
  · have cb2 : decide (s ≤ 64) = false := decide_eq_false (by omega)
    clear h c1 c2
    go_enter Try.func5, Try.ntmps5
    go_wp2_with (first
      | (go_at_call 8; (with_reducible refine HAL.out.mono ?_); rintro e w1 ⟨rfl, hb1⟩; have HB1 := Aside0.mk hb1; clear hb1)
      | (go_at_call 9; (with_reducible refine (HN.out _).mono ?_); rintro e w2 ⟨rfl, rfl⟩))
    go_loopw [9] (fun ii wr => ii = .int .i64 0 ∧ Aside0 (Below w.heap.size w wr)) (fun _ _ => 0)
    case atStart => exact ⟨rfl, ⟨below_alloc HB1.out _⟩⟩
    case round =>
      obtain ⟨rfl, HB2⟩ := hrel
      go_wp2
      go_ret
      exact ⟨rfl, HB2.out⟩
  have cb2 : decide (s ≤ 64) = true := decide_eq_true (by omega)
  by_cases c3 : g < 1
  · have cb3 : decide (1 ≤ g) = false := decide_eq_false (by omega)
    clear h c1 c2 c3
    go_enter Try.func5, Try.ntmps5
    go_wp2_with (first
      | (go_at_call 8; (with_reducible refine HAL.out.mono ?_); rintro e w1 ⟨rfl, hb1⟩; have HB1 := Aside0.mk hb1; clear hb1)
      | (go_at_call 9; (with_reducible refine (HN.out _).mono ?_); rintro e w2 ⟨rfl, rfl⟩))
    go_loopw [9] (fun ii wr => ii = .int .i64 0 ∧ Aside0 (Below w.heap.size w wr)) (fun _ _ => 0)
    case atStart => exact ⟨rfl, ⟨below_alloc HB1.out _⟩⟩
    case round =>
      obtain ⟨rfl, HB2⟩ := hrel
      go_wp2
      go_ret
      exact ⟨rfl, HB2.out⟩
  have cb3 : decide (1 ≤ g) = true := decide_eq_true (by omega)
  have cb4 : decide (g ≤ 65535) = false := decide_eq_false (by omega)
  clear h c1 c2 c3
  go_enter Try.func5, Try.ntmps5
  go_wp2_with (first
    | (go_at_call 8; (with_reducible refine HAL.out.mono ?_); rintro e w1 ⟨rfl, hb1⟩; have HB1 := Aside0.mk hb1; clear hb1)
    | (go_at_call 9; (with_reducible refine (HN.out _).mono ?_); rintro e w2 ⟨rfl, rfl⟩))
  go_loopw [9] (fun ii wr => ii = .int .i64 0 ∧ Aside0 (Below w.heap.size w wr)) (fun _ _ => 0)
  case atStart => exact ⟨rfl, ⟨below_alloc HB1.out _⟩⟩
  case round =>
    obtain ⟨rfl, HB2⟩ := hrel
    go_wp2
    go_ret
    exact ⟨rfl, HB2.out⟩
/-! The contract of CapsActs, in the print's form. -/
def bureaulaw17_CapsActs.f (a0 a1 : Int) (l2 : List XCA.S32) : Option Bool := if l2.length ≤ maxLen ∧ l2.all (fun x => decide (0 ≤ x.f0 ∧ x.f0 ≤ 255)) = true then some true else none
theorem bureaulaw17_CapsActs.calls (a0 a1 : Int) (A2 : Option Addr) (c2 : Nat) (l2 : List XCA.S32) (r : Bool) (w : World) (hr2 : Kd.C XCA.k32 w A2 l2.length l2) (hc2 : l2.length ≤ c2) (h : bureaulaw17_CapsActs.f a0 a1 l2 = some r) :
    Calls Try.prog 5 #[.int .i64 a0, .int .i64 a1, .slice A2 l2.length c2] w fun e w' => e = .returned (.bool r) ∧ Below w.heap.size w w' := by
  unfold bureaulaw17_CapsActs.f at h
  split at h
  · rename_i hc
    cases h
    by_cases hb : a0 < 1 ∨ 64 < a0 ∨ a1 < 1 ∨ 65535 < a1
    · exact Acts_nil a0 a1 A2 l2.length c2 w hb
    · obtain ⟨n, rfl⟩ : ∃ n : Nat, a0 = (n : Int) := ⟨a0.toNat, by omega⟩
      exact Acts_w n a1 A2 c2 l2 w hr2 hc2 hc.1 (fun x hx => of_decide_eq_true (List.all_eq_true.1 hc.2 x hx)) (by omega) (by omega)
  · cases h

end Go.Proofs.Ytecbdhampjmlaaa.Ext
