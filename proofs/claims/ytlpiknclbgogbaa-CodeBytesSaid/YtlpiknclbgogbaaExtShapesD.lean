/- The shape of an instruction as a plain function: what it takes, lays down, its argument's bounds, whether it has one, whether there is such an instruction. -/
import Derived.Below
namespace Go.Proofs.Ytlpiknclbgogbaa.Ext
open Go.RowKit

def callTakes (a : Int) : Int := if a = 0 then 3 else if a = 1 then 3 else if a = 2 then 3 else if a = 3 then 2 else if a = 4 then 4 else if a = 5 then 0 else if a = 6 then 1 else if a = 7 then 2 else 0
def code_shapes.f (op : Int) (a : Int) : Option (Int × Int × Int × Int × Bool × Bool) :=
  some (if op = 0 then (0, 0, 0, 0, false, true) else if op = 1 then (0, 1, -32768, 32767, true, true) else if op = 2 then (1, 0, 0, 0, false, true) else if op = 3 then (1, 2, 0, 0, false, true)
    else if op = 4 then (2, 2, 0, 0, false, true) else if op = 5 then (2, 1, 0, 0, false, true) else if op = 6 then (2, 1, 0, 0, false, true) else if op = 7 then (2, 1, 0, 0, false, true)
    else if op = 8 then (2, 1, 0, 0, false, true) else if op = 9 then (2, 1, 0, 0, false, true) else if op = 10 then (2, 1, 0, 0, false, true) else if op = 11 then (1, 1, 0, 0, false, true)
    else if op = 12 then (0, 1, 0, 7, true, true) else if op = 13 then (1, 0, 0, 7, true, true) else if op = 14 then (0, 0, 0, 255, true, true) else if op = 15 then (1, 0, 0, 255, true, true)
    else if op = 16 then (callTakes a, 1, 0, 7, true, true) else (0, 0, 0, 0, false, false))

end Go.Proofs.Ytlpiknclbgogbaa.Ext
