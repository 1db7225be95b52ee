-- written by wip/xprint.py: the kit's print with functions walked by hand
import Derived.Test.YtjhcbggpbfejgaaProg
import Derived.Below
import Derived.Deep.Draws
import Derived.Deep.AppendLies
import Derived.Maps.AppendAt
import Derived.OwnWalk
import Derived.Laws.BytesArg
import Derived.Laws.MakeOwn
import Derived.Laws.OwnMore
import Derived.Deep.OwnRows
import Derived.Tactics
import Derived.Lib.ConvBytes
import Derived.Laws.Slices
import Derived.WalkKit
import Derived.KernelRfl
import Derived.RowKit3
import Derived.Deep.LoopGhost
import Derived.Deep.QuietTactic
import Derived.BigQuiet
import Derived.WideLaws
import Derived.Deep.DeepCutAuto
import Derived.Deep.CutBlock
import Derived.Deep.RegionHeld3
import Derived.Laws.Rows
import Derived.Lib.AppendStr
import Derived.ArgAppend
import Derived.Laws.IdiomCopy
import Derived.OrdersHeld
import Derived.Laws.BitsLemmas
import Derived.RowKit
import Derived.Test.YtjhcbggpbfejgaaCk
import Derived.Test.YtjhcbggpbfejgaaCl
import Derived.Test.YtjhcbggpbfejgaaCg
import Derived.Test.YtjhcbggpbfejgaaCf
import Derived.Test.YtjhcbggpbfejgaaWWords
import Derived.Test.YtjhcbggpbfejgaaWLast
import Derived.Test.YtjhcbggpbfejgaaWTab
import Derived.Test.YtjhcbggpbfejgaaWFour
import Derived.Test.YtjhcbggpbfejgaaWQPut
import Derived.Test.YtjhcbggpbfejgaaWApart
import Derived.Test.YtjhcbggpbfejgaaWArr
import Derived.Test.YtjhcbggpbfejgaaWZeros
import Derived.Test.YtjhcbggpbfejgaaWFoot
import Derived.Test.YtjhcbggpbfejgaaWKept
import Derived.Test.YtjhcbggpbfejgaaWShare
import Derived.Test.YtjhcbggpbfejgaaWN
import Derived.Test.YtjhcbggpbfejgaaWFootNe
import Derived.Test.YtjhcbggpbfejgaaWAt
import Derived.Test.YtjhcbggpbfejgaaWEqStruct
import Derived.Test.YtjhcbggpbfejgaaWRepsOne
import Derived.Test.YtjhcbggpbfejgaaWInv
import Derived.Test.YtjhcbggpbfejgaaWInvWords
import Derived.Test.YtjhcbggpbfejgaaWGuard
import Derived.Test.YtjhcbggpbfejgaaWNEv
import Derived.Test.YtjhcbggpbfejgaaWMore
namespace Go.Proofs.Ytjhcbggpbfejgaa.XCodecApart
open Go.RowKit Go.Proofs.YtjhcbggpbfejgaaW.PrintWords Go.Proofs.YtjhcbggpbfejgaaW.PrintLast Go.Proofs.YtjhcbggpbfejgaaW.PrintMore
attribute [local go_sem] max2_int min2_int max_two min_two max_three min_three max_four min_four   -- for this text's walks alone
set_option linter.unusedVariables false
set_option linter.unusedSimpArgs false



def errW : Option Int → Value
  | none => .nilIface
  | some c => .iface 0 (.int .i64 c)
theorem errW_none : errW none = .nilIface := rfl
theorem errW_some (c : Int) : errW (some c) = .iface 0 (.int .i64 c) := rfl

theorem info9 : (Try.prog.info? 9).map (fun i => (i.zero, i.size, i.bytes)) = some (some (.string ⟨#[]⟩), 1, 16) := by kernel_rfl
-- the values' own types

end Go.Proofs.Ytjhcbggpbfejgaa.XCodecApart
