-- written by wip/xprint.py: the kit's print with functions walked by hand
import Derived.Test.YtpedfpeokedelaaDoorProg
import Derived.Below
import Derived.Deep.Draws
import Derived.Deep.AppendLies
import Derived.Maps.AppendAt
import Derived.OwnWalk
import Derived.Laws.BytesArg
import Derived.Laws.MakeOwn
import Derived.Laws.OwnMore
import Derived.Deep.OwnRows
import Derived.Tactics
import Derived.Lib.ConvBytes
import Derived.Laws.Slices
import Derived.WalkKit
import Derived.KernelRfl
import Derived.RowKit3
import Derived.Deep.LoopGhost
import Derived.Deep.QuietTactic
import Derived.BigQuiet
import Derived.WideLaws
import Derived.Deep.DeepCutAuto
import Derived.Deep.CutBlock
import Derived.Deep.RegionHeld3
import Derived.Laws.Rows
import Derived.Lib.AppendStr
import Derived.ArgAppend
import Derived.Laws.IdiomCopy
import Derived.OrdersHeld
import Derived.Laws.BitsLemmas
import Derived.RowKit
import Derived.Test.YtpedfpeokedelaaDoorCo
import Derived.Test.YtpedfpeokedelaaDoorWWords
import Derived.Test.YtpedfpeokedelaaDoorWLast
import Derived.Test.YtpedfpeokedelaaDoorWTab
import Derived.Test.YtpedfpeokedelaaDoorWFour
import Derived.Test.YtpedfpeokedelaaDoorWQPut
import Derived.Test.YtpedfpeokedelaaDoorWApart
import Derived.Test.YtpedfpeokedelaaDoorWArr
import Derived.Test.YtpedfpeokedelaaDoorWZeros
import Derived.Test.YtpedfpeokedelaaDoorWFoot
import Derived.Test.YtpedfpeokedelaaDoorWKept
import Derived.Test.YtpedfpeokedelaaDoorWShare
import Derived.Test.YtpedfpeokedelaaDoorWN
import Derived.Test.YtpedfpeokedelaaDoorWFootNe
import Derived.Test.YtpedfpeokedelaaDoorWAt
import Derived.Test.YtpedfpeokedelaaDoorWEqStruct
import Derived.Test.YtpedfpeokedelaaDoorWRepsOne
import Derived.Test.YtpedfpeokedelaaDoorWInv
import Derived.Test.YtpedfpeokedelaaDoorWInvWords
import Derived.Test.YtpedfpeokedelaaDoorWGuard
import Derived.Test.YtpedfpeokedelaaDoorWNEv
import Derived.Test.YtpedfpeokedelaaDoorWMore
namespace Go.Proofs.YtpedfpeokedelaaDoor.XTokenChecks
open Go.RowKit Go.Proofs.YtpedfpeokedelaaDoorW.PrintWords Go.Proofs.YtpedfpeokedelaaDoorW.PrintLast Go.Proofs.YtpedfpeokedelaaDoorW.PrintMore
attribute [local go_sem] max2_int min2_int max_two min_two max_three min_three max_four min_four   -- for this text's walks alone
set_option linter.unusedVariables false
set_option linter.unusedSimpArgs false



def errW : Option Int → Value
  | none => .nilIface
  | some c => .iface 0 (.int .i64 c)
theorem errW_none : errW none = .nilIface := rfl
theorem errW_some (c : Int) : errW (some c) = .iface 0 (.int .i64 c) := rfl

-- the values' own types

end Go.Proofs.YtpedfpeokedelaaDoor.XTokenChecks
