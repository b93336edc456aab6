-- Written by this session's program (wip/xprint.py) with the kit's print, for this claim.
import Derived.Test.YtodlhgpmenhnoaaDoorProg
import Derived.Below
import Derived.Deep.Draws
import Derived.Deep.AppendLies
import Derived.Maps.AppendAt
import Derived.OwnWalk
import Derived.Laws.BytesArg
import Derived.Laws.MakeOwn
import Derived.Laws.OwnMore
import Derived.Deep.OwnRows
import Derived.Tactics
import Derived.Lib.ConvBytes
import Derived.Laws.Slices
import Derived.WalkKit
import Derived.KernelRfl
import Derived.RowKit3
import Derived.Deep.LoopGhost
import Derived.Deep.QuietTactic
import Derived.BigQuiet
import Derived.WideLaws
import Derived.Deep.DeepCutAuto
import Derived.Deep.CutBlock
import Derived.Deep.RegionHeld3
import Derived.Laws.Rows
import Derived.Lib.AppendStr
import Derived.ArgAppend
import Derived.Laws.IdiomCopy
import Derived.OrdersHeld
import Derived.Laws.BitsLemmas
import Derived.RowKit
import Derived.Test.YtodlhgpmenhnoaaDoorExt02S
import Derived.Test.YtodlhgpmenhnoaaDoorWWords
import Derived.Test.YtodlhgpmenhnoaaDoorWLast
import Derived.Test.YtodlhgpmenhnoaaDoorWTab
import Derived.Test.YtodlhgpmenhnoaaDoorWFour
import Derived.Test.YtodlhgpmenhnoaaDoorWQPut
import Derived.Test.YtodlhgpmenhnoaaDoorWApart
import Derived.Test.YtodlhgpmenhnoaaDoorWArr
import Derived.Test.YtodlhgpmenhnoaaDoorWZeros
import Derived.Test.YtodlhgpmenhnoaaDoorWFoot
import Derived.Test.YtodlhgpmenhnoaaDoorWKept
import Derived.Test.YtodlhgpmenhnoaaDoorWShare
import Derived.Test.YtodlhgpmenhnoaaDoorWN
import Derived.Test.YtodlhgpmenhnoaaDoorWFootNe
import Derived.Test.YtodlhgpmenhnoaaDoorWAt
import Derived.Test.YtodlhgpmenhnoaaDoorWEqStruct
import Derived.Test.YtodlhgpmenhnoaaDoorWRepsOne
import Derived.Test.YtodlhgpmenhnoaaDoorWInv
import Derived.Test.YtodlhgpmenhnoaaDoorWInvWords
import Derived.Test.YtodlhgpmenhnoaaDoorWGuard
import Derived.Test.YtodlhgpmenhnoaaDoorWNEv
import Derived.Test.YtodlhgpmenhnoaaDoorWMore
namespace Go.Proofs.YtodlhgpmenhnoaaDoor.XGlyphJoins
open Go.RowKit Go.Proofs.YtodlhgpmenhnoaaDoorW.PrintWords Go.Proofs.YtodlhgpmenhnoaaDoorW.PrintLast Go.Proofs.YtodlhgpmenhnoaaDoorW.PrintMore Go.Proofs.YtodlhgpmenhnoaaDoor.Ext
attribute [local go_sem] max2_int min2_int max_two min_two max_three min_three max_four min_four   -- for this text's walks alone
set_option linter.unusedVariables false
set_option linter.unusedSimpArgs false



def errW : Option Int → Value
  | none => .nilIface
  | some c => .iface 0 (.int .i64 c)
theorem errW_none : errW none = .nilIface := rfl
theorem errW_some (c : Int) : errW (some c) = .iface 0 (.int .i64 c) := rfl

-- the values' own types

end Go.Proofs.YtodlhgpmenhnoaaDoor.XGlyphJoins
