-- Written by this session's program (wip/xprint.py) with the kit's print, for this claim.
import Derived.Test.YtfhlohmhacfngaaProg
import Derived.Below
import Derived.Deep.Draws
import Derived.Deep.AppendLies
import Derived.Maps.AppendAt
import Derived.OwnWalk
import Derived.Laws.BytesArg
import Derived.Laws.MakeOwn
import Derived.Laws.OwnMore
import Derived.Deep.OwnRows
import Derived.Tactics
import Derived.Lib.ConvBytes
import Derived.Laws.Slices
import Derived.WalkKit
import Derived.KernelRfl
import Derived.RowKit3
import Derived.Deep.LoopGhost
import Derived.Deep.QuietTactic
import Derived.BigQuiet
import Derived.WideLaws
import Derived.Deep.DeepCutAuto
import Derived.Deep.CutBlock
import Derived.Deep.RegionHeld3
import Derived.Laws.Rows
import Derived.Lib.AppendStr
import Derived.ArgAppend
import Derived.Laws.IdiomCopy
import Derived.OrdersHeld
import Derived.Laws.BitsLemmas
import Derived.RowKit
import Derived.Test.YtfhlohmhacfngaaExt11
import Derived.Test.YtfhlohmhacfngaaWWords
import Derived.Test.YtfhlohmhacfngaaWLast
import Derived.Test.YtfhlohmhacfngaaWTab
import Derived.Test.YtfhlohmhacfngaaWFour
import Derived.Test.YtfhlohmhacfngaaWQPut
import Derived.Test.YtfhlohmhacfngaaWApart
import Derived.Test.YtfhlohmhacfngaaWArr
import Derived.Test.YtfhlohmhacfngaaWZeros
import Derived.Test.YtfhlohmhacfngaaWFoot
import Derived.Test.YtfhlohmhacfngaaWKept
import Derived.Test.YtfhlohmhacfngaaWShare
import Derived.Test.YtfhlohmhacfngaaWN
import Derived.Test.YtfhlohmhacfngaaWFootNe
import Derived.Test.YtfhlohmhacfngaaWAt
import Derived.Test.YtfhlohmhacfngaaWEqStruct
import Derived.Test.YtfhlohmhacfngaaWRepsOne
import Derived.Test.YtfhlohmhacfngaaWInv
import Derived.Test.YtfhlohmhacfngaaWInvWords
import Derived.Test.YtfhlohmhacfngaaWGuard
import Derived.Test.YtfhlohmhacfngaaWNEv
import Derived.Test.YtfhlohmhacfngaaWMore
namespace Go.Proofs.Ytfhlohmhacfngaa.XGramOneWay
open Go.RowKit Go.Proofs.YtfhlohmhacfngaaW.PrintWords Go.Proofs.YtfhlohmhacfngaaW.PrintLast Go.Proofs.YtfhlohmhacfngaaW.PrintMore Go.Proofs.Ytfhlohmhacfngaa.Ext
attribute [local go_sem] max2_int min2_int max_two min_two max_three min_three max_four min_four   -- for this text's walks alone
set_option linter.unusedVariables false
set_option linter.unusedSimpArgs false



def errW : Option Int → Value
  | none => .nilIface
  | some c => .iface 0 (.int .i64 c)
theorem errW_none : errW none = .nilIface := rfl
theorem errW_some (c : Int) : errW (some c) = .iface 0 (.int .i64 c) := rfl

theorem info21 : (Try.prog.info? 21).map (fun i => (i.zero, i.size, i.bytes)) = some (some (.int .i32 0), 1, 4) := by kernel_rfl
-- the values' own types

end Go.Proofs.Ytfhlohmhacfngaa.XGramOneWay
