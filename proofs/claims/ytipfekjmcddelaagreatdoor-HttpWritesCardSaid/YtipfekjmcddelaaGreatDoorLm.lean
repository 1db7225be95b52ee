/- LaidM of the rows' list and of the world's shape. -/
import Derived.Test.YtipfekjmcddelaaGreatDoorLd
import Derived.Test.YtipfekjmcddelaaGreatDoorHb
import Derived.Test.YtipfekjmcddelaaGreatDoorSpd
namespace Go.Proofs.YtipfekjmcddelaaGreatDoor
open Go.RowKit Go.Shelf Go.Lib Go.Joins
theorem laidM_of {W : World} (h : laidMet Tryz.prog Rows.httpReadsRow.laid W) (hs : W.ShapedOpen Tryz.prog) : LaidM W := ⟨tabs_of h, Tryz.laysM143.s1_3 W hs⟩
end Go.Proofs.YtipfekjmcddelaaGreatDoor
