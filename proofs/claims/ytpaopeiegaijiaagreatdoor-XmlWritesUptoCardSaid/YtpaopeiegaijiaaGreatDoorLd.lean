/- What the rows' list gives (LaidM). -/
import Derived.Test.YtpaopeiegaijiaaGreatDoorTx
import Derived.Test.YtpaopeiegaijiaaGreatDoorSz
import Derived.Test.YtpaopeiegaijiaaGreatDoorCards
import Derived.Test.YtpaopeiegaijiaaGreatDoorTie
import Derived.Lib.LaidU8T
import Derived.Lib.LaidTab
import Derived.Stop.LaidErr
import Derived.Lay
import Derived.Deep.DeepHandedRow
import Derived.LaidSub
import GoSem.PinnedTables
namespace Go.Proofs.YtpaopeiegaijiaaGreatDoor
open Go.RowKit Go.Shelf Go.Lib Go.Joins
set_option maxRecDepth 100000
theorem first_eq : Rows.laid_unicode_utf8_first = Lib.firstData := by kernel_rfl
theorem accept_eq : (Rows.laid_unicode_utf8_acceptRanges : DataW Unit) = Lib.acceptData := by kernel_rfl
theorem laidM_of {W : World} (h : laidMet Tryz.prog Rows.xmlDeepRow.laid W) (hs : W.ShapedOpen Tryz.prog) : LaidM W := by
  have h' : laidMet Tryz.prog [("math/bits.deBruijn32tab", Rows.laid_math_bits_deBruijn32tab), ("math/bits.deBruijn64tab", Rows.laid_math_bits_deBruijn64tab), ("internal/strconv.uint64pow10", Rows.laid_internal_strconv_uint64pow10), ("unicode/utf8.acceptRanges", Rows.laid_unicode_utf8_acceptRanges), ("strconv.ErrRange", Rows.laid_strconv_ErrRange), ("strconv.ErrSyntax", Rows.laid_strconv_ErrSyntax), ("unicode/utf8.first", Rows.laid_unicode_utf8_first)] W := h
  refine ⟨?_, Tryz.laysMCut.s1_3 W hs⟩
  exact utf8Tabs_of_readsT (U8Types.of196 Tryz.laysValid) ⟨by kernel_rfl, by kernel_rfl, by kernel_rfl, by kernel_rfl, by kernel_rfl, by kernel_rfl, by kernel_rfl⟩
    (first_eq ▸ Lib.laidMet.reads h' (by simp)) (accept_eq ▸ Lib.laidMet.reads h' (by simp))
end Go.Proofs.YtpaopeiegaijiaaGreatDoor
