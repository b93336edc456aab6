/- How keys are written, and read, in plain Lean. -/
import Derived.Test.YtbbogjecpdebbaaDoorExt10C
import Derived.Test.YtbbogjecpdebbaaDoorLay10
import Derived.Test.YtbbogjecpdebbaaDoorWMore
import Derived.WalkKit
import Derived.WalkMore
import Derived.Below
import Derived.KernelRfl
import Derived.LoopTactic
import Derived.Laws.RangeString
import Derived.Laws.RangeAny
import Derived.Laws.Rows
import Derived.Laws.Runes
import Derived.Lib.OthersKept
import Derived.OpenShut
set_option linter.unusedVariables false
set_option linter.unusedSimpArgs false
namespace Go.Proofs.YtbbogjecpdebbaaDoor.Ext
open Go.RowKit Go.Lib Go.Proofs.YtbbogjecpdebbaaDoorW.PrintWords Go.Proofs.YtbbogjecpdebbaaDoorW.PrintMore

/-! ### the keys, in plain words -/
def validZ (r : Int) : Bool := decide ((0 ≤ r ∧ r < 55296) ∨ (57344 ≤ r ∧ r ≤ 1114111))
def mayZ (r : Int) : Bool := decide (1 ≤ r ∧ r ≤ 27) || (decide (32 ≤ r) && (r != 127 && validZ r))
/-- The name of a key that has one. -/
def nameB (r : Int) : List UInt8 :=
  if r = 27 then [69, 115, 99] else if r = 13 then [67, 82] else if r = 8 then [66, 83] else if r = 9 then [84, 97, 98] else if r = 60 then [108, 116]
  else if r < 32 then [67, 45, UInt8.ofNat (96 + r).toNat] else []
/-- A key, as it is written. -/
def writB (r : Int) : List UInt8 := if nameB r = [] then (Utf8.encode r).data.toList else 60 :: nameB r ++ [62]
def printZ (l : List Int) : ByteArray × Int :=
  if l.length > 256 then (⟨#[]⟩, 3) else if l.all mayZ = true then (⟨(l.flatMap writB).toArray⟩, 0) else (⟨#[]⟩, 2)
/-- The first number, from one on, that has this name; 0: there is none among so many. -/
def keyL : Nat → Nat → List UInt8 → Int
  | 0, _, _ => 0
  | c + 1, i, n => if nameB (i : Int) = n then (i : Int) else keyL c (i + 1) n
/-- The key of a name; 0: there is none. -/
def keyZ (n : List UInt8) : Int := if n = [108, 116] then 60 else keyL 27 1 n
/-- What is left of a text's signs, read: a name is open from a place on, or none is. -/
def pz (s : ByteArray) : List (Nat × Nat × Nat) → Int → List Int → Option (List Int)
  | [], o, acc => if o ≥ 0 then none else some acc
  | (p, r, _) :: l, o, acc =>
    if o ≥ 0 then (if r = 62 then (if keyZ (s.extract (o + 1).toNat p).data.toList = 0 then none else pz s l (-1) (acc ++ [keyZ (s.extract (o + 1).toNat p).data.toList])) else pz s l o acc)
    else if r = 60 then pz s l (p : Int) acc
    else if r < 32 ∨ mayZ (r : Int) = false then none else pz s l (-1) (acc ++ [(r : Int)])
def parseZ (s : ByteArray) : List Int × Int :=
  if (scan s s.size 0).all whole = true then (match pz s (scan s s.size 0) (-1) [] with | none => ([], 5) | some l => if l.length > 256 then ([], 3) else (l, 0)) else ([], 5)

end Go.Proofs.YtbbogjecpdebbaaDoor.Ext
