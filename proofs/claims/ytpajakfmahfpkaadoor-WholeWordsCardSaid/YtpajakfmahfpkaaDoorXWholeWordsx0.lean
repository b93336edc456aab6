-- Written by this session's program (wip/xprint.py) with the kit's print, for this claim.
import Derived.Test.YtpajakfmahfpkaaDoorProg
import Derived.Below
import Derived.Deep.Draws
import Derived.Deep.AppendLies
import Derived.Maps.AppendAt
import Derived.OwnWalk
import Derived.Laws.BytesArg
import Derived.Laws.MakeOwn
import Derived.Laws.OwnMore
import Derived.Deep.OwnRows
import Derived.Tactics
import Derived.Lib.ConvBytes
import Derived.Laws.Slices
import Derived.WalkKit
import Derived.KernelRfl
import Derived.RowKit3
import Derived.Deep.LoopGhost
import Derived.Deep.QuietTactic
import Derived.BigQuiet
import Derived.WideLaws
import Derived.Deep.DeepCutAuto
import Derived.Deep.CutBlock
import Derived.Deep.RegionHeld3
import Derived.Laws.Rows
import Derived.Lib.AppendStr
import Derived.ArgAppend
import Derived.Laws.IdiomCopy
import Derived.OrdersHeld
import Derived.Laws.BitsLemmas
import Derived.RowKit
import Derived.Test.YtpajakfmahfpkaaDoorExt12S
import Derived.Test.YtpajakfmahfpkaaDoorWWords
import Derived.Test.YtpajakfmahfpkaaDoorWLast
import Derived.Test.YtpajakfmahfpkaaDoorWTab
import Derived.Test.YtpajakfmahfpkaaDoorWFour
import Derived.Test.YtpajakfmahfpkaaDoorWQPut
import Derived.Test.YtpajakfmahfpkaaDoorWApart
import Derived.Test.YtpajakfmahfpkaaDoorWArr
import Derived.Test.YtpajakfmahfpkaaDoorWZeros
import Derived.Test.YtpajakfmahfpkaaDoorWFoot
import Derived.Test.YtpajakfmahfpkaaDoorWKept
import Derived.Test.YtpajakfmahfpkaaDoorWShare
import Derived.Test.YtpajakfmahfpkaaDoorWN
import Derived.Test.YtpajakfmahfpkaaDoorWFootNe
import Derived.Test.YtpajakfmahfpkaaDoorWAt
import Derived.Test.YtpajakfmahfpkaaDoorWEqStruct
import Derived.Test.YtpajakfmahfpkaaDoorWRepsOne
import Derived.Test.YtpajakfmahfpkaaDoorWInv
import Derived.Test.YtpajakfmahfpkaaDoorWInvWords
import Derived.Test.YtpajakfmahfpkaaDoorWGuard
import Derived.Test.YtpajakfmahfpkaaDoorWNEv
import Derived.Test.YtpajakfmahfpkaaDoorWMore
namespace Go.Proofs.YtpajakfmahfpkaaDoor.XWholeWords
open Go.RowKit Go.Proofs.YtpajakfmahfpkaaDoorW.PrintWords Go.Proofs.YtpajakfmahfpkaaDoorW.PrintLast Go.Proofs.YtpajakfmahfpkaaDoorW.PrintMore Go.Proofs.YtpajakfmahfpkaaDoor.Ext
attribute [local go_sem] max2_int min2_int max_two min_two max_three min_three max_four min_four   -- for this text's walks alone
set_option linter.unusedVariables false
set_option linter.unusedSimpArgs false



def errW : Option Int → Value
  | none => .nilIface
  | some c => .iface 0 (.int .i64 c)
theorem errW_none : errW none = .nilIface := rfl
theorem errW_some (c : Int) : errW (some c) = .iface 0 (.int .i64 c) := rfl

theorem info3 : (Tryd.prog.info? 3).map (fun i => (i.zero, i.size, i.bytes)) = some (some (.int .i64 0), 1, 8) := by kernel_rfl
-- the values' own types

end Go.Proofs.YtpajakfmahfpkaaDoor.XWholeWords
