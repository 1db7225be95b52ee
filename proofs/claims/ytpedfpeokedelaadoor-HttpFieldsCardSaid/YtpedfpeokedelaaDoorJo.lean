/- What every row of this seat asks of the program alone. -/
import Derived.Test.YtpedfpeokedelaaDoorRows
import Derived.JoinedCond
import Derived.KernelRfl
namespace Go.Proofs.YtpedfpeokedelaaDoor.Jo
theorem laid : laidOutB Tryd.pinned.checked.prog = true := by kernel_rfl
theorem maps : mapsRowed Tryd.pinned.checked.prog = true := by kernel_rfl
theorem heard : Tryd.pinned.checked.prog.stopsHeard = true := by kernel_rfl
theorem enter : Tryd.pinned.checked.prog.mayEnter = true := by kernel_rfl
end Go.Proofs.YtpedfpeokedelaaDoor.Jo
