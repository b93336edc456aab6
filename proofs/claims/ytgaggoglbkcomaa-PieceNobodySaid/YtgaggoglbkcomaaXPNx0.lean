-- Written by this session's program (wip/xprint.py) with the kit's print, for this claim.
import Derived.Test.YtgaggoglbkcomaaProg
import Derived.Below
import Derived.Deep.Draws
import Derived.Deep.AppendLies
import Derived.Maps.AppendAt
import Derived.OwnWalk
import Derived.Laws.BytesArg
import Derived.Laws.MakeOwn
import Derived.Laws.OwnMore
import Derived.Deep.OwnRows
import Derived.Tactics
import Derived.Lib.ConvBytes
import Derived.Laws.Slices
import Derived.WalkKit
import Derived.KernelRfl
import Derived.RowKit3
import Derived.Deep.LoopGhost
import Derived.Deep.QuietTactic
import Derived.BigQuiet
import Derived.WideLaws
import Derived.Deep.DeepCutAuto
import Derived.Deep.CutBlock
import Derived.Deep.RegionHeld3
import Derived.Laws.Rows
import Derived.Lib.AppendStr
import Derived.ArgAppend
import Derived.Laws.IdiomCopy
import Derived.OrdersHeld
import Derived.Laws.BitsLemmas
import Derived.RowKit
import Derived.Test.YtgaggoglbkcomaaExt05JL
import Derived.Test.YtgaggoglbkcomaaXRRx0
import Derived.Test.YtgaggoglbkcomaaWWords
import Derived.Test.YtgaggoglbkcomaaWLast
import Derived.Test.YtgaggoglbkcomaaWTab
import Derived.Test.YtgaggoglbkcomaaWFour
import Derived.Test.YtgaggoglbkcomaaWQPut
import Derived.Test.YtgaggoglbkcomaaWApart
import Derived.Test.YtgaggoglbkcomaaWArr
import Derived.Test.YtgaggoglbkcomaaWZeros
import Derived.Test.YtgaggoglbkcomaaWFoot
import Derived.Test.YtgaggoglbkcomaaWKept
import Derived.Test.YtgaggoglbkcomaaWShare
import Derived.Test.YtgaggoglbkcomaaWN
import Derived.Test.YtgaggoglbkcomaaWFootNe
import Derived.Test.YtgaggoglbkcomaaWAt
import Derived.Test.YtgaggoglbkcomaaWEqStruct
import Derived.Test.YtgaggoglbkcomaaWRepsOne
import Derived.Test.YtgaggoglbkcomaaWInv
import Derived.Test.YtgaggoglbkcomaaWInvWords
import Derived.Test.YtgaggoglbkcomaaWGuard
import Derived.Test.YtgaggoglbkcomaaWNEv
import Derived.Test.YtgaggoglbkcomaaWMore
namespace Go.Proofs.Ytgaggoglbkcomaa.XPN
open Go.RowKit Go.Proofs.YtgaggoglbkcomaaW.PrintWords Go.Proofs.YtgaggoglbkcomaaW.PrintLast Go.Proofs.YtgaggoglbkcomaaW.PrintMore Go.Proofs.Ytgaggoglbkcomaa.Ext Go.Proofs.Ytgaggoglbkcomaa.XRR
attribute [local go_sem] max2_int min2_int max_two min_two max_three min_three max_four min_four   -- for this text's walks alone
set_option linter.unusedVariables false
set_option linter.unusedSimpArgs false



-- the values' own types
/-! #### struct type 29 -/
end Go.Proofs.Ytgaggoglbkcomaa.XPN
