-- Written by this session's program (wip/xprint.py) with the kit's print, for this claim.
import Derived.Test.YtngfmhbhdpeedaaProg
import Derived.Below
import Derived.Deep.Draws
import Derived.Deep.AppendLies
import Derived.Maps.AppendAt
import Derived.OwnWalk
import Derived.Laws.BytesArg
import Derived.Laws.MakeOwn
import Derived.Laws.OwnMore
import Derived.Deep.OwnRows
import Derived.Tactics
import Derived.Lib.ConvBytes
import Derived.Laws.Slices
import Derived.WalkKit
import Derived.KernelRfl
import Derived.RowKit3
import Derived.Deep.LoopGhost
import Derived.Deep.QuietTactic
import Derived.BigQuiet
import Derived.WideLaws
import Derived.Deep.DeepCutAuto
import Derived.Deep.CutBlock
import Derived.Deep.RegionHeld3
import Derived.Laws.Rows
import Derived.Lib.AppendStr
import Derived.ArgAppend
import Derived.Laws.IdiomCopy
import Derived.OrdersHeld
import Derived.Laws.BitsLemmas
import Derived.RowKit
import Derived.Test.YtngfmhbhdpeedaaExt01
import Derived.Test.YtngfmhbhdpeedaaWWords
import Derived.Test.YtngfmhbhdpeedaaWLast
import Derived.Test.YtngfmhbhdpeedaaWTab
import Derived.Test.YtngfmhbhdpeedaaWFour
import Derived.Test.YtngfmhbhdpeedaaWQPut
import Derived.Test.YtngfmhbhdpeedaaWApart
import Derived.Test.YtngfmhbhdpeedaaWArr
import Derived.Test.YtngfmhbhdpeedaaWZeros
import Derived.Test.YtngfmhbhdpeedaaWFoot
import Derived.Test.YtngfmhbhdpeedaaWKept
import Derived.Test.YtngfmhbhdpeedaaWShare
import Derived.Test.YtngfmhbhdpeedaaWN
import Derived.Test.YtngfmhbhdpeedaaWFootNe
import Derived.Test.YtngfmhbhdpeedaaWAt
import Derived.Test.YtngfmhbhdpeedaaWEqStruct
import Derived.Test.YtngfmhbhdpeedaaWRepsOne
import Derived.Test.YtngfmhbhdpeedaaWInv
import Derived.Test.YtngfmhbhdpeedaaWInvWords
import Derived.Test.YtngfmhbhdpeedaaWGuard
import Derived.Test.YtngfmhbhdpeedaaWNEv
import Derived.Test.YtngfmhbhdpeedaaWMore
namespace Go.Proofs.Ytngfmhbhdpeedaa.XGateLower
open Go.RowKit Go.Proofs.YtngfmhbhdpeedaaW.PrintWords Go.Proofs.YtngfmhbhdpeedaaW.PrintLast Go.Proofs.YtngfmhbhdpeedaaW.PrintMore Go.Proofs.Ytngfmhbhdpeedaa.Ext
attribute [local go_sem] max2_int min2_int max_two min_two max_three min_three max_four min_four   -- for this text's walks alone
set_option linter.unusedVariables false
set_option linter.unusedSimpArgs false



def errW : Option Int → Value
  | none => .nilIface
  | some c => .iface 0 (.int .i64 c)
theorem errW_none : errW none = .nilIface := rfl
theorem errW_some (c : Int) : errW (some c) = .iface 0 (.int .i64 c) := rfl

theorem info23 : (Try.prog.info? 23).map (fun i => (i.zero, i.size, i.bytes)) = some (some (.int .u64 0), 1, 8) := by kernel_rfl
-- the values' own types

end Go.Proofs.Ytngfmhbhdpeedaa.XGateLower
