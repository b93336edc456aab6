/- A text's signs (scan), glyph.Count, the decoder, and strings.Count, strings.IndexByte, in the print's contract form. -/
import Derived.Test.YtpajakfmahfpkaaDoorProg
import Derived.WalkKit
import Derived.WalkMore
import Derived.Below
import Derived.KernelRfl
import Derived.LoopTactic
import Derived.Laws.RangeString
import Derived.Laws.RangeAny
import Derived.Laws.Rows
import Derived.Lib.OthersKept
import Derived.Shelf.Unicode.DecodeAny
import Derived.Shelf.Small.Strs
import Derived.Shelf.Strings.Count
import Derived.Test.YtpajakfmahfpkaaDoorShelf
import Derived.Test.YtpajakfmahfpkaaDoorWWords
set_option linter.unusedVariables false
set_option linter.unusedSimpArgs false
namespace Go.Proofs.YtpajakfmahfpkaaDoor.Ext
open Go.RowKit Go.Lib Go.Proofs.YtpajakfmahfpkaaDoorW.PrintWords

/-- The signs of a text from a byte on: where, rune, width. -/
def scan (s : ByteArray) : Nat → Nat → List (Nat × Nat × Nat)
  | 0, _ => []
  | n + 1, i => if i < s.size then (i, (Utf8.decode s i).1, (Utf8.decode s i).2) :: scan s n (i + (Utf8.decode s i).2) else []
theorem scan_end (s : ByteArray) (n i : Nat) (h : ¬ i < s.size) : scan s n i = [] := by
  cases n with
  | zero => rfl
  | succ n => simp [scan, h]
theorem width_pos (s : ByteArray) (pos : Nat) (h : pos < s.size) : 1 ≤ (Utf8.decode s pos).2 := by
  by_cases ha : (s[pos]'h).toNat < 128
  · rw [decode_ascii s pos h ha]
    exact Nat.le_refl _
  · exact (decode_high s pos h (by omega)).2
theorem scan_len (s : ByteArray) : ∀ n i, (scan s n i).length ≤ n := by
  intro n
  induction n with
  | zero => intro i; exact Nat.le_refl _
  | succ n ih =>
    intro i
    unfold scan
    split
    · have := ih (i + (Utf8.decode s i).2); simp only [List.length_cons]; omega
    · simp
def glyph_Count.f (a0 : ByteArray) : Option Int := if a0.size ≤ 1000000 then some ((scan a0 a0.size 0).length : Int) else none

set_option maxRecDepth 1000000 in
theorem Count_walk (s : ByteArray) (w : World) (hs : s.size ≤ 1000000) :
    Calls Tryd.prog 58 #[.string s] w fun e w' => e = .returned (.int .i64 ((scan s s.size 0).length : Int)) ∧ Below w.heap.size w w' := by
  go_enter Tryd.func58, Tryd.ntmps58
  go_wp2
  go_loopw [3] (fun n w' => ∃ (pos b acc : Nat), w' = w.iter s pos ∧ n = .int .i64 (acc : Int) ∧ acc + (scan s b pos).length = (scan s s.size 0).length ∧ s.size ≤ pos + b ∧ acc ≤ 1000000) (fun _ w' => s.size - w'.iterPos w.heap.size)
  case atStart => exact ⟨0, s.size, 0, rfl, rfl, by omega, by omega, by omega⟩
  case round =>
    obtain ⟨pos, b, acc, rfl, rfl, hc, hb, ha⟩ := hrel
    by_cases hp : pos < s.size
    · have hnx : ∀ ty, (Instr.next (.pointer (some ⟨w.heap.size, 0, none⟩)) true ty).run Tryd.prog (w.iter s pos) = _ := fun ty => run_next_any w s pos ty hp
      have hwd := width_pos s pos hp
      have hl := scan_len s s.size 0
      cases b with
      | zero => omega
      | succ b =>
        have hcons : (scan s (b + 1) pos).length = (scan s b (pos + (Utf8.decode s pos).2)).length + 1 := by
          rw [scan, if_pos hp]
          rfl
        have hw64 : wrap64 ((acc : Int) + 1) = ((acc + 1 : Nat) : Int) := by
          unfold wrap64
          omega
        go_wp2
        go_roundw
        case rel => exact ⟨pos + (Utf8.decode s pos).2, b, acc + 1, rfl, by first | rfl | (rw [hw64]), by omega, by omega, by omega⟩
        case measure =>
          simp
          omega
    · have hnx : ∀ ty, (Instr.next (.pointer (some ⟨w.heap.size, 0, none⟩)) true ty).run Tryd.prog (w.iter s pos) = _ := fun ty => run_next_end w s pos ty hp
      rw [scan_end s b pos hp] at hc
      go_wp2
      go_ret
      simp only [List.length_nil, Nat.add_zero] at hc
      subst hc
      exact ⟨rfl, (Below.refl w.heap.size w).alloc (Nat.le_refl _) _⟩

/-! ### the two tables, and the decoder -/
abbrev Tabs (w : World) : Prop := Lib.Utf8Tabs 0 1 w
theorem Tabs.below {w w' : World} {B : Nat} (h : Tabs w) (hb : Below B w w') (hB : w.heap.size ≤ B) : Tabs w' :=
  ⟨fun c hc => (hb.cell (Nat.lt_of_lt_of_le (World.block_lt_of_cell? w _ (h.1 c hc)) hB)).trans (h.1 c hc),
   fun i hi => ⟨(hb.cell (Nat.lt_of_lt_of_le (World.block_lt_of_cell? w _ (h.2 i hi).1) hB)).trans (h.2 i hi).1, (hb.cell (Nat.lt_of_lt_of_le (World.block_lt_of_cell? w _ (h.2 i hi).2) hB)).trans (h.2 i hi).2⟩⟩
def utf8_DecodeRuneInString.f (a0 : ByteArray) : Option (Int × Int) := some (((Lib.decodeGo a0).1 : Int), ((Lib.decodeGo a0).2 : Int))
theorem utf8_DecodeRuneInString.calls (a0 : ByteArray) (r1 r2 : Int) (w : World) (h : utf8_DecodeRuneInString.f a0 = some (r1, r2)) (hT : Tabs w) :
    Calls Tryd.prog 65 #[.string a0] w fun e w' => e = .returned (.tuple #[.int .i32 r1, .int .i64 r2]) ∧ Below w.heap.size w w' := by
  simp only [utf8_DecodeRuneInString.f, Option.some.injEq, Prod.mk.injEq] at h
  obtain ⟨rfl, rfl⟩ := h
  exact Tryd.utf8_DecodeRuneInString a0 w hT

/-! ### what is left of a text, from a place on -/
theorem get_suffix (s : ByteArray) (i k : Nat) : (s.extract i s.size).get! k = s.get! (i + k) := by
  show (s.extract i s.size).data[k]! = s.data[i + k]!
  have hs : s.size = s.data.size := rfl
  rw [ByteArray.data_extract, getElem!_def, getElem!_def, Array.getElem?_extract, hs]
  by_cases h : k < s.size - i
  · simp [h]
  · have h2 : s.data[i + k]? = none := Array.getElem?_eq_none (by omega)
    simp [h, h2]
theorem size_suffix (s : ByteArray) (i : Nat) : (s.extract i s.size).size = s.size - i := by
  rw [ByteArray.size_extract]
  omega
theorem suffix_decode (s : ByteArray) (i : Nat) (h : i < s.size) : Lib.decodeGo (s.extract i s.size) = Utf8.decode s i := by
  unfold Lib.decodeGo
  rw [if_neg (by rw [size_suffix]; omega), Lib.decode_at, Lib.decode_at s i, size_suffix, get_suffix, get_suffix, get_suffix, get_suffix]
  rfl
/-! ### the contracts in the print's form -/
theorem glyph_Count.calls (a0 : ByteArray) (r : Int) (w : World) (h : glyph_Count.f a0 = some r) (hT : Tabs w) :
    Calls Tryd.prog 58 #[.string a0] w fun e w' => e = .returned (.int .i64 r) ∧ Below w.heap.size w w' := by
  unfold glyph_Count.f at h
  split at h
  · rename_i hs
    cases h
    exact Count_walk a0 w hs
  · cases h

/-! ### strings.Count at one byte, strings.IndexByte -/
def strings_Count.f (a0 a1 : ByteArray) : Option Int := match a1.data.toList with
  | [c] => some (Lib.countByte a0.data.toList c : Int)
  | _ => none
theorem strings_Count.calls (a0 a1 : ByteArray) (r : Int) (w : World) (h : strings_Count.f a0 a1 = some r) (hT : Tabs w) :
    Calls Tryd.prog 66 #[.string a0, .string a1] w fun e w' => e = .returned (.int .i64 r) ∧ Below w.heap.size w w' := by
  unfold strings_Count.f at h
  split at h
  · rename_i c hc
    obtain ⟨⟨l⟩⟩ := a1
    simp only at hc
    subst hc
    cases h
    refine (Tryd.strings_Count_one a0 c w).mono fun e w' ⟨he, hw⟩ => ⟨he, ?_⟩
    subst hw
    exact Below.refl _ _
  · cases h
def strings_IndexByte.f (a0 : ByteArray) (a1 : Int) : Option Int := some (Lib.indexByte a0.data.toList a1.toNat.toUInt8)
theorem strings_IndexByte.calls (a0 : ByteArray) (a1 : Int) (r : Int) (w : World) (h : strings_IndexByte.f a0 a1 = some r) (hT : Tabs w) :
    Calls Tryd.prog 67 #[.string a0, .int .u8 a1] w fun e w' => e = .returned (.int .i64 r) ∧ Below w.heap.size w w' := by
  cases h
  refine (Tryd.strings_IndexByte a0 a1 w).mono fun e w' ⟨he, hw⟩ => ⟨he, ?_⟩
  subst hw
  exact Below.refl _ _
end Go.Proofs.YtpajakfmahfpkaaDoor.Ext
