/- A command's grammar as a plain machine: one step a key; the answer of Parse. -/
import Derived.Below
import Derived.Shelf.Small.Strs
namespace Go.Proofs.Ytfhlohmhacfngaa.Ext
open Go.RowKit

/-- Is a key one of some? -/
def inZ (k : Int) (s : ByteArray) : Bool := decide (0 < k) && (decide (k < 128) && decide (0 ≤ Go.Lib.indexByte s.data.toList k.toNat.toUInt8))
def tMot : ByteArray := ⟨#[104, 108, 106, 107, 48, 94, 119, 98, 101, 71, 123, 125, 103, 102, 70, 116, 84, 36]⟩
def tOp : ByteArray := ⟨#[100, 121, 99, 62, 60]⟩
def tFar : ByteArray := ⟨#[102, 70, 116, 84]⟩
def tIa : ByteArray := ⟨#[105, 97]⟩
def tVis : ByteArray := ⟨#[100, 121, 99, 62, 60, 120, 74, 126, 111, 118, 86, 58]⟩
def tQat : ByteArray := ⟨#[113, 64]⟩
def tRest : ByteArray := ⟨#[105, 97, 73, 65, 111, 79, 120, 88, 112, 80, 117, 46, 74, 118, 86, 58, 126]⟩
def tObj : ByteArray := ⟨#[119, 98, 40, 41, 91, 93, 123, 125, 66, 34, 39]⟩
def tName : ByteArray := ⟨#[34, 45, 95]⟩
def motZ (k : Int) : Bool := inZ k tMot
def opZ (k : Int) : Bool := inZ k tOp
def nameZ (k : Int) : Bool := (decide (97 ≤ k) && decide (k ≤ 122)) || ((decide (65 ≤ k) && decide (k ≤ 90)) || ((decide (48 ≤ k) && decide (k ≤ 57)) || inZ k tName))
def signZ (k : Int) : Bool := decide (32 ≤ k)
def objZ (k : Int) : Bool := inZ k tObj
def macZ (k : Int) : Bool := decide (97 ≤ k) && decide (k ≤ 122)

/-- What a key that is awaited has to be. -/
inductive Rt | sign | object | mac | isG
def rtZ : Rt → Int → Bool
  | .sign, k => signZ k
  | .object, k => objZ k
  | .mac, k => macZ k
  | .isG, k => k == 103
/-- What is done with the next key. -/
inductive Nx | first | verb | name | far | aw (toArg : Bool) (rt : Rt)

structure St where
  reg : Int := 0
  cnt : Int := 0
  verb : Int := 0
  move : Int := 0
  arg : Int := 0
  n : Int := 0
  told : Bool := false
  state : Int := 0
  nx : Nx := .first

def endsS (s : St) (ok : Bool) : St := { s with state := if ok then 1 else 3 }
/-- Is it a digit of a count? -/
def digZ (told : Bool) (k : Int) : Bool := decide (48 ≤ k) && (decide (k ≤ 57) && (!(k == 48) || told))
def digS (s : St) (k : Int) : St := { s with told := true, n := min (s.n * 10 + (k - 48)) 999 }
def ctdS (s : St) : St := { s with cnt := if s.told then (if s.cnt = 0 then s.n else min (s.cnt * s.n) 999) else s.cnt, n := 0, told := false }
def motS (s : St) (k : Int) : St := if k = 103 then { s with nx := .aw false .isG } else if inZ k tFar = true then { s with nx := .aw true .sign } else endsS s true
def verbT (v : Bool) (s : St) (k : Int) : St :=
  if motZ k = true then motS s k
  else if v = true then (if inZ k tIa = true then { s with nx := .aw true .object } else endsS s (k == 27 || inZ k tVis))
  else if opZ k = true then { s with nx := .far }
  else if k = 114 then { s with nx := .aw true .sign }
  else if inZ k tQat = true then { s with nx := .aw true .mac }
  else endsS s (k == 18 || (k == 27 || inZ k tRest))
def verbS (v : Bool) (s : St) (k : Int) : St := if digZ s.told k = true then digS s k else verbT v { ctdS s with verb := k } k
def farT (s : St) (k : Int) : St :=
  if k = s.verb then endsS s true
  else if motZ k = true then motS s k
  else if inZ k tIa = true then { s with nx := .aw true .object }
  else endsS s false
def farS (s : St) (k : Int) : St := if digZ s.told k = true then digS s k else farT { ctdS s with move := k } k
def step (v : Bool) (s : St) (k : Int) : St := match s.nx with
  | .first => if k = 34 then { s with nx := .name } else verbS v { s with nx := .verb } k
  | .name => if nameZ k = true then { s with reg := k, nx := .verb } else endsS s false
  | .verb => verbS v s k
  | .far => farS s k
  | .aw toArg rt => endsS { s with arg := if toArg then k else s.arg } (rtZ rt k)

abbrev Ans := Int × Int × Int × Int × Int × Int × Int
def parseL (v : Bool) : List Int → Nat → St → Ans
  | [], _, _ => (0, 0, 0, 0, 0, 0, 2)
  | k :: l, i, s => if (step v s k).state = 1 then ((step v s k).reg, (step v s k).cnt, (step v s k).verb, (step v s k).move, (step v s k).arg, ((i + 1 : Nat) : Int), 1)
    else if (step v s k).state = 3 then (0, 0, 0, 0, 0, ((i + 1 : Nat) : Int), 3) else parseL v l (i + 1) (step v s k)
def parseZ (l : List Int) (v : Bool) : Ans := parseL v l 0 {}

/-- Counts are from 0 to 999. -/
def Bd (s : St) : Prop := 0 ≤ s.n ∧ s.n ≤ 999 ∧ 0 ≤ s.cnt ∧ s.cnt ≤ 999
theorem bd0 : Bd {} := by simp [Bd]
theorem bd_ends {s : St} (h : Bd s) (ok : Bool) : Bd (endsS s ok) := h
theorem bd_dig {s : St} (h : Bd s) {k : Int} (h1 : 48 ≤ k) (h2 : k ≤ 57) : Bd (digS s k) := by
  obtain ⟨a, b, c, d⟩ := h
  simp only [Bd, digS]; omega
theorem bd_ctd {s : St} (h : Bd s) : Bd (ctdS s) := by
  obtain ⟨a, b, c, d⟩ := h
  simp only [Bd, ctdS]
  refine ⟨by omega, by omega, ?_, ?_⟩
  · split
    · split
      · omega
      · have := Int.mul_nonneg c a; omega
    · omega
  · split
    · split
      · omega
      · omega
    · omega
theorem bd_motS {s : St} (h : Bd s) (k : Int) : Bd (motS s k) := by
  unfold motS; split
  · exact h
  · split <;> exact h
theorem bd_verbS (v : Bool) {s : St} (h : Bd s) (k : Int) : Bd (verbS v s k) := by
  unfold verbS
  split
  · rename_i hd
    simp only [digZ, Bool.and_eq_true, decide_eq_true_eq] at hd
    exact bd_dig h hd.1 hd.2.1
  · have h' : Bd { ctdS s with verb := k } := bd_ctd h
    unfold verbT
    repeat' split
    all_goals first | exact bd_motS h' _ | exact h'
theorem bd_farS {s : St} (h : Bd s) (k : Int) : Bd (farS s k) := by
  unfold farS
  split
  · rename_i hd
    simp only [digZ, Bool.and_eq_true, decide_eq_true_eq] at hd
    exact bd_dig h hd.1 hd.2.1
  · have h' : Bd { ctdS s with move := k } := bd_ctd h
    unfold farT
    repeat' split
    all_goals first | exact bd_motS h' _ | exact h'
theorem bd_step (v : Bool) {s : St} (h : Bd s) (k : Int) : Bd (step v s k) := by
  unfold step
  split
  · split
    · exact h
    · exact bd_verbS v (s := { s with nx := .verb }) h k
  · split <;> exact h
  · exact bd_verbS v h k
  · exact bd_farS h k
  · exact h
end Go.Proofs.Ytfhlohmhacfngaa.Ext
