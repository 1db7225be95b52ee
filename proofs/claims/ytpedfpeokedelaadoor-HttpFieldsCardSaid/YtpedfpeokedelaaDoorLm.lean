/- LaidM of the rows' list and of the world's shape. -/
import Derived.Test.YtpedfpeokedelaaDoorLd
import Derived.Test.YtpedfpeokedelaaDoorHb
import Derived.Test.YtpedfpeokedelaaDoorSpd
namespace Go.Proofs.YtpedfpeokedelaaDoor
open Go.RowKit Go.Shelf Go.Lib Go.Joins
theorem laidM_of {W : World} (h : laidMet Tryd.prog Rows.charOrderRow.laid W) (hs : W.ShapedOpen Tryd.prog) : LaidM W := ⟨tabs_of h, Tryd.laysM143.s1_3 W hs⟩
end Go.Proofs.YtpedfpeokedelaaDoor
