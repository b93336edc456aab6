/- A text's signs (scan), the decoder, and glyph.Valid, in the print's contract form. -/
import Derived.Test.YtbbogjecpdebbaaDoorProg
import Derived.WalkKit
import Derived.WalkMore
import Derived.Below
import Derived.KernelRfl
import Derived.LoopTactic
import Derived.Laws.RangeString
import Derived.Laws.RangeAny
import Derived.Laws.Rows
import Derived.Lib.OthersKept
import Derived.Shelf.Unicode.DecodeAny
import Derived.Test.YtbbogjecpdebbaaDoorShelf
import Derived.Test.YtbbogjecpdebbaaDoorWWords
set_option linter.unusedVariables false
set_option linter.unusedSimpArgs false
namespace Go.Proofs.YtbbogjecpdebbaaDoor.Ext
open Go.RowKit Go.Lib Go.Proofs.YtbbogjecpdebbaaDoorW.PrintWords

/-- The signs of a text from a byte on: where, rune, width. -/
def scan (s : ByteArray) : Nat → Nat → List (Nat × Nat × Nat)
  | 0, _ => []
  | n + 1, i => if i < s.size then (i, (Utf8.decode s i).1, (Utf8.decode s i).2) :: scan s n (i + (Utf8.decode s i).2) else []
theorem scan_end (s : ByteArray) (n i : Nat) (h : ¬ i < s.size) : scan s n i = [] := by
  cases n with
  | zero => rfl
  | succ n => simp [scan, h]
theorem width_pos (s : ByteArray) (pos : Nat) (h : pos < s.size) : 1 ≤ (Utf8.decode s pos).2 := by
  by_cases ha : (s[pos]'h).toNat < 128
  · rw [decode_ascii s pos h ha]
    exact Nat.le_refl _
  · exact (decode_high s pos h (by omega)).2
theorem scan_len (s : ByteArray) : ∀ n i, (scan s n i).length ≤ n := by
  intro n
  induction n with
  | zero => intro i; exact Nat.le_refl _
  | succ n ih =>
    intro i
    unfold scan
    split
    · have := ih (i + (Utf8.decode s i).2); simp only [List.length_cons]; omega
    · simp
/-! ### the two tables, and the decoder -/
abbrev Tabs (w : World) : Prop := Lib.Utf8Tabs 0 1 w
theorem Tabs.below {w w' : World} {B : Nat} (h : Tabs w) (hb : Below B w w') (hB : w.heap.size ≤ B) : Tabs w' :=
  ⟨fun c hc => (hb.cell (Nat.lt_of_lt_of_le (World.block_lt_of_cell? w _ (h.1 c hc)) hB)).trans (h.1 c hc),
   fun i hi => ⟨(hb.cell (Nat.lt_of_lt_of_le (World.block_lt_of_cell? w _ (h.2 i hi).1) hB)).trans (h.2 i hi).1, (hb.cell (Nat.lt_of_lt_of_le (World.block_lt_of_cell? w _ (h.2 i hi).2) hB)).trans (h.2 i hi).2⟩⟩
def utf8_DecodeRuneInString.f (a0 : ByteArray) : Option (Int × Int) := some (((Lib.decodeGo a0).1 : Int), ((Lib.decodeGo a0).2 : Int))
theorem utf8_DecodeRuneInString.calls (a0 : ByteArray) (r1 r2 : Int) (w : World) (h : utf8_DecodeRuneInString.f a0 = some (r1, r2)) (hT : Tabs w) :
    Calls Tryd.prog 29 #[.string a0] w fun e w' => e = .returned (.tuple #[.int .i32 r1, .int .i64 r2]) ∧ Below w.heap.size w w' := by
  simp only [utf8_DecodeRuneInString.f, Option.some.injEq, Prod.mk.injEq] at h
  obtain ⟨rfl, rfl⟩ := h
  exact Tryd.utf8_DecodeRuneInString a0 w hT

/-! ### Valid -/
def whole (x : Nat × Nat × Nat) : Bool := !(x.2.1 == 65533 && x.2.2 == 1)
def glyph_Valid.f (a0 : ByteArray) : Option Bool := some ((scan a0 a0.size 0).all whole)
theorem get_suffix (s : ByteArray) (i k : Nat) : (s.extract i s.size).get! k = s.get! (i + k) := by
  show (s.extract i s.size).data[k]! = s.data[i + k]!
  have hs : s.size = s.data.size := rfl
  rw [ByteArray.data_extract, getElem!_def, getElem!_def, Array.getElem?_extract, hs]
  by_cases h : k < s.size - i
  · simp [h]
  · have h2 : s.data[i + k]? = none := Array.getElem?_eq_none (by omega)
    simp [h, h2]
theorem size_suffix (s : ByteArray) (i : Nat) : (s.extract i s.size).size = s.size - i := by
  rw [ByteArray.size_extract]
  omega
theorem suffix_decode (s : ByteArray) (i : Nat) (h : i < s.size) : Lib.decodeGo (s.extract i s.size) = Utf8.decode s i := by
  unfold Lib.decodeGo
  rw [if_neg (by rw [size_suffix]; omega), Lib.decode_at, Lib.decode_at s i, size_suffix, get_suffix, get_suffix, get_suffix, get_suffix]
  rfl
set_option maxRecDepth 1000000 in
theorem Valid_walk (s : ByteArray) (w : World) (hT : Tabs w) :
    Calls Tryd.prog 23 #[.string s] w fun e w' => e = .returned (.bool ((scan s s.size 0).all whole)) ∧ Below w.heap.size w w' := by
  go_enter Tryd.func23, Tryd.ntmps23
  go_wp2
  go_loopw [] (fun w' => ∃ (pos b : Nat), w'.heap[w.heap.size]? = some (.stringIter s pos) ∧ Below w.heap.size w w' ∧ (scan s b pos).all whole = (scan s s.size 0).all whole ∧ s.size ≤ pos + b) (fun w' => s.size - w'.iterPos w.heap.size)
  case atStart => exact ⟨0, s.size, World.iter_heap w s 0, (Below.refl w.heap.size w).alloc (Nat.le_refl _) _, rfl, by omega⟩
  case round =>
    obtain ⟨pos, b, hk, hB, hc, hb⟩ := hrel
    by_cases hp : pos < s.size
    · have hwd := width_pos s pos hp
      have hnx0 : ∀ ty, (Instr.next (.pointer (some ⟨w.heap.size, 0, none⟩)) true ty).run Tryd.prog _ = _ := fun ty => run_next_any_at _ w.heap.size s pos ty hk hp
      cases b with
      | zero => omega
      | succ b =>
        have hcons : (scan s (b + 1) pos).all whole = (whole (pos, (Utf8.decode s pos).1, (Utf8.decode s pos).2) && (scan s b (pos + (Utf8.decode s pos).2)).all whole) := by
          rw [scan, if_pos hp]
          rfl
        rw [hcons] at hc
        have hB1 : Below w.heap.size w (wr.iterAt w.heap.size s (pos + (Utf8.decode s pos).2)) := below_iterAt hB (Nat.le_refl _) s _
        have hk1 := iterAt_heap wr w.heap.size s pos (pos + (Utf8.decode s pos).2) hk
        have hlt1 := (Array.getElem?_eq_some_iff.1 hk1).1
        have hm : wr.iterPos w.heap.size = pos := by simp [World.iterPos, hk]
        have cD := Tryd.utf8_DecodeRuneInString (s.extract pos s.size) _ (hT.below hB1 (Nat.le_refl _))
        rw [suffix_decode s pos hp] at cD
        have hw : whole (pos, (Utf8.decode s pos).1, (Utf8.decode s pos).2) = !(((Utf8.decode s pos).1 : Int) == 65533 && ((Utf8.decode s pos).2 : Int) == 1) := by
          unfold whole
          congr 1
          rw [Bool.eq_iff_iff]
          simp only [Bool.and_eq_true, beq_iff_eq]
          omega
        rw [hw] at hc
        clear hw hcons
        obtain ⟨q, hq⟩ : ∃ q, pos + (Utf8.decode s pos).2 = q := ⟨_, rfl⟩
        have hpq : pos < q := by omega
        rw [hq] at hc hB1 hk1 hlt1 cD
        obtain ⟨R, hR⟩ : ∃ R : Int, ((Utf8.decode s pos).1 : Int) = R := ⟨_, rfl⟩
        obtain ⟨K, hK⟩ : ∃ K : Int, ((Utf8.decode s pos).2 : Int) = K := ⟨_, rfl⟩
        have hnx : ∀ ty, (Instr.next (.pointer (some ⟨w.heap.size, 0, none⟩)) true ty).run Tryd.prog wr = .ok (.tuple #[.bool true, .int .i64 pos, .int .i32 R]) (wr.iterAt w.heap.size s q) := fun ty => by rw [hnx0 ty, hR, hq]
        clear hnx0
        simp only [hR, hK] at cD hc
        clear hR hK hq hwd
        by_cases hr : R = 65533
        · have hr0 : (R != 65533) = false := by simp [hr]
          have hr1 : (R == 65533) = true := by simp [hr]
          rw [hr1, Bool.true_and] at hc
          by_cases hn : K = 1
          · have hn0 : (K == 1) = true := by simp [hn]
            rw [hn0, Bool.not_true, Bool.false_and] at hc
            have HC := Aside0.mk hc
            clear hr hn hc
            go_wp2_with (go_at_call 29; refine cD.mono ?_; rintro e w2 ⟨rfl, hb2⟩)
            go_ret
            exact ⟨congrArg (fun b_ => Ending.returned (.bool b_)) HC.out, hB1.trans (hb2.mono (by omega))⟩
          · have hn0 : (K == 1) = false := by simp [hn]
            rw [hn0, Bool.not_false, Bool.true_and] at hc
            clear hr hn
            go_wp2_with (go_at_call 29; refine cD.mono ?_; rintro e w2 ⟨rfl, hb2⟩)
            have hk2 := (hb2.block _ hlt1).trans hk1
            go_roundw
            case rel => exact ⟨q, b, hk2, hB1.trans (hb2.mono (by omega)), hc, by omega⟩
            case measure =>
              rw [hm]
              simp only [World.iterPos, hk2]
              omega
        · have hr0 : (R != 65533) = true := by simp [hr]
          have hr1 : (R == 65533) = false := by simp [hr]
          rw [hr1, Bool.false_and, Bool.not_false, Bool.true_and] at hc
          clear hr
          go_wp2
          go_roundw
          case rel => exact ⟨q, b, hk1, hB1, hc, by omega⟩
          case measure =>
            rw [hm]
            simp only [World.iterPos, hk1]
            omega
    · have hnx : ∀ ty, (Instr.next (.pointer (some ⟨w.heap.size, 0, none⟩)) true ty).run Tryd.prog _ = _ := fun ty => run_next_end_at _ w.heap.size s pos ty hk hp
      rw [scan_end s b pos hp] at hc
      go_wp2
      go_ret
      exact ⟨by rw [← hc]; rfl, hB⟩

/-! ### the contracts in the print's form -/
theorem glyph_Valid.calls (a0 : ByteArray) (r : Bool) (w : World) (h : glyph_Valid.f a0 = some r) (hT : Tabs w) :
    Calls Tryd.prog 23 #[.string a0] w fun e w' => e = .returned (.bool r) ∧ Below w.heap.size w w' := by
  cases h
  exact Valid_walk a0 w hT
end Go.Proofs.YtbbogjecpdebbaaDoor.Ext
