-- Written by this session's program (wip/xprint.py) with the kit's print, for this claim.
import Derived.Test.YtecbdhampjmlaaaProg
import Derived.Below
import Derived.Deep.Draws
import Derived.Deep.AppendLies
import Derived.Maps.AppendAt
import Derived.OwnWalk
import Derived.Laws.BytesArg
import Derived.Laws.MakeOwn
import Derived.Laws.OwnMore
import Derived.Deep.OwnRows
import Derived.Tactics
import Derived.Lib.ConvBytes
import Derived.Laws.Slices
import Derived.WalkKit
import Derived.KernelRfl
import Derived.RowKit3
import Derived.Deep.LoopGhost
import Derived.Deep.QuietTactic
import Derived.BigQuiet
import Derived.WideLaws
import Derived.Deep.DeepCutAuto
import Derived.Deep.CutBlock
import Derived.Deep.RegionHeld3
import Derived.Laws.Rows
import Derived.Lib.AppendStr
import Derived.ArgAppend
import Derived.Laws.IdiomCopy
import Derived.OrdersHeld
import Derived.Laws.BitsLemmas
import Derived.RowKit
import Derived.Test.YtecbdhampjmlaaaExt17K
import Derived.Test.YtecbdhampjmlaaaWWords
import Derived.Test.YtecbdhampjmlaaaWLast
import Derived.Test.YtecbdhampjmlaaaWTab
import Derived.Test.YtecbdhampjmlaaaWFour
import Derived.Test.YtecbdhampjmlaaaWQPut
import Derived.Test.YtecbdhampjmlaaaWApart
import Derived.Test.YtecbdhampjmlaaaWArr
import Derived.Test.YtecbdhampjmlaaaWZeros
import Derived.Test.YtecbdhampjmlaaaWFoot
import Derived.Test.YtecbdhampjmlaaaWKept
import Derived.Test.YtecbdhampjmlaaaWShare
import Derived.Test.YtecbdhampjmlaaaWN
import Derived.Test.YtecbdhampjmlaaaWFootNe
import Derived.Test.YtecbdhampjmlaaaWAt
import Derived.Test.YtecbdhampjmlaaaWEqStruct
import Derived.Test.YtecbdhampjmlaaaWRepsOne
import Derived.Test.YtecbdhampjmlaaaWInv
import Derived.Test.YtecbdhampjmlaaaWInvWords
import Derived.Test.YtecbdhampjmlaaaWGuard
import Derived.Test.YtecbdhampjmlaaaWNEv
import Derived.Test.YtecbdhampjmlaaaWMore
namespace Go.Proofs.Ytecbdhampjmlaaa.XCapsRetired
open Go.RowKit Go.Proofs.YtecbdhampjmlaaaW.PrintWords Go.Proofs.YtecbdhampjmlaaaW.PrintLast Go.Proofs.YtecbdhampjmlaaaW.PrintMore Go.Proofs.Ytecbdhampjmlaaa.Ext
attribute [local go_sem] max2_int min2_int max_two min_two max_three min_three max_four min_four   -- for this text's walks alone
set_option linter.unusedVariables false
set_option linter.unusedSimpArgs false



def errW : Option Int → Value
  | none => .nilIface
  | some c => .iface 0 (.int .i64 c)
theorem errW_none : errW none = .nilIface := rfl
theorem errW_some (c : Int) : errW (some c) = .iface 0 (.int .i64 c) := rfl

-- the values' own types

end Go.Proofs.Ytecbdhampjmlaaa.XCapsRetired
