-- Written by this session's program (wip/xprint.py) with the kit's print, for this claim.
import Derived.Test.YtbbogjecpdebbaaDoorProg
import Derived.Below
import Derived.Deep.Draws
import Derived.Deep.AppendLies
import Derived.Maps.AppendAt
import Derived.OwnWalk
import Derived.Laws.BytesArg
import Derived.Laws.MakeOwn
import Derived.Laws.OwnMore
import Derived.Deep.OwnRows
import Derived.Tactics
import Derived.Lib.ConvBytes
import Derived.Laws.Slices
import Derived.WalkKit
import Derived.KernelRfl
import Derived.RowKit3
import Derived.Deep.LoopGhost
import Derived.Deep.QuietTactic
import Derived.BigQuiet
import Derived.WideLaws
import Derived.Deep.DeepCutAuto
import Derived.Deep.CutBlock
import Derived.Deep.RegionHeld3
import Derived.Laws.Rows
import Derived.Lib.AppendStr
import Derived.ArgAppend
import Derived.Laws.IdiomCopy
import Derived.OrdersHeld
import Derived.Laws.BitsLemmas
import Derived.RowKit
import Derived.Test.YtbbogjecpdebbaaDoorExt10K
import Derived.Test.YtbbogjecpdebbaaDoorWWords
import Derived.Test.YtbbogjecpdebbaaDoorWLast
import Derived.Test.YtbbogjecpdebbaaDoorWTab
import Derived.Test.YtbbogjecpdebbaaDoorWFour
import Derived.Test.YtbbogjecpdebbaaDoorWQPut
import Derived.Test.YtbbogjecpdebbaaDoorWApart
import Derived.Test.YtbbogjecpdebbaaDoorWArr
import Derived.Test.YtbbogjecpdebbaaDoorWZeros
import Derived.Test.YtbbogjecpdebbaaDoorWFoot
import Derived.Test.YtbbogjecpdebbaaDoorWKept
import Derived.Test.YtbbogjecpdebbaaDoorWShare
import Derived.Test.YtbbogjecpdebbaaDoorWN
import Derived.Test.YtbbogjecpdebbaaDoorWFootNe
import Derived.Test.YtbbogjecpdebbaaDoorWAt
import Derived.Test.YtbbogjecpdebbaaDoorWEqStruct
import Derived.Test.YtbbogjecpdebbaaDoorWRepsOne
import Derived.Test.YtbbogjecpdebbaaDoorWInv
import Derived.Test.YtbbogjecpdebbaaDoorWInvWords
import Derived.Test.YtbbogjecpdebbaaDoorWGuard
import Derived.Test.YtbbogjecpdebbaaDoorWNEv
import Derived.Test.YtbbogjecpdebbaaDoorWMore
namespace Go.Proofs.YtbbogjecpdebbaaDoor.XKeysJoins
open Go.RowKit Go.Proofs.YtbbogjecpdebbaaDoorW.PrintWords Go.Proofs.YtbbogjecpdebbaaDoorW.PrintLast Go.Proofs.YtbbogjecpdebbaaDoorW.PrintMore Go.Proofs.YtbbogjecpdebbaaDoor.Ext
attribute [local go_sem] max2_int min2_int max_two min_two max_three min_three max_four min_four   -- for this text's walks alone
set_option linter.unusedVariables false
set_option linter.unusedSimpArgs false



def errW : Option Int → Value
  | none => .nilIface
  | some c => .iface 0 (.int .i64 c)
theorem errW_none : errW none = .nilIface := rfl
theorem errW_some (c : Int) : errW (some c) = .iface 0 (.int .i64 c) := rfl

theorem info21 : (Tryd.prog.info? 21).map (fun i => (i.zero, i.size, i.bytes)) = some (some (.int .i32 0), 1, 4) := by kernel_rfl
-- the values' own types

end Go.Proofs.YtbbogjecpdebbaaDoor.XKeysJoins
