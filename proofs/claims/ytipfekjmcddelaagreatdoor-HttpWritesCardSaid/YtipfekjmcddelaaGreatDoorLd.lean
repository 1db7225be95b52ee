/- What the rows' list gives (Laid), and the world of the witness. -/
import Derived.Test.YtipfekjmcddelaaGreatDoorTb
import Derived.Test.YtipfekjmcddelaaGreatDoorCards
import Derived.Test.YtipfekjmcddelaaGreatDoorTie
import Derived.Lib.LaidU8T
import Derived.Lib.LaidTab
import Derived.Stop.LaidErr
import Derived.Lay
import Derived.Deep.DeepHandedRow
import Derived.LaidSub
import GoSem.PinnedTables
namespace Go.Proofs.YtipfekjmcddelaaGreatDoor
open Go.RowKit Go.Shelf Go.Lib Go.Joins
set_option maxRecDepth 100000
theorem pow10_eq : (Rows.laid_internal_strconv_uint64pow10 : DataW Unit) = Lib.tabData .u64 Lib.pow10Tab := by kernel_rfl
theorem star : "*" ++ "errors.errorString" = "*errors.errorString" := by decide
theorem row156 (u : TypeId) (h : Tryz.prog.typeName? 3 u = some "*errors.errorString") : u = 139 :=
  typeName_ptr_named (nm := "errors.errorString") (by rw [star]; kernel_rfl) (by kernel_rfl) (by decide) u (by rw [star]; exact h)
theorem tabs_of {W : World} (h : laidMet Tryz.prog Rows.httpReadsRow.laid W) : Laid W := by
  have h' : laidMet Tryz.prog [("math/bits.deBruijn32tab", Rows.laid_math_bits_deBruijn32tab), ("math/bits.deBruijn64tab", Rows.laid_math_bits_deBruijn64tab), ("internal/strconv.uint64pow10", Rows.laid_internal_strconv_uint64pow10), ("unicode/utf8.acceptRanges", Rows.laid_unicode_utf8_acceptRanges), ("strconv.ErrRange", Rows.laid_strconv_ErrRange), ("strconv.ErrSyntax", Rows.laid_strconv_ErrSyntax), ("unicode/utf8.first", Rows.laid_unicode_utf8_first)] W := h
  refine ⟨?_, ?_, ?_⟩
  · have h2 := h'.tail.tail
    rw [pow10_eq] at h2
    exact Lib.tabIs_of_head (g := 3) (by kernel_rfl) (by kernel_rfl) Tryz.underlying130 Tryz.underlying46 (by kernel_rfl) (by kernel_rfl) h2
  · obtain ⟨a, t, hv, _⟩ := laid_sentinel (g := 1) h'.tail.tail.tail.tail.tail (by kernel_rfl) (by kernel_rfl) Tryz.underlying77 row156 Tryz.underlying139 Tryz.underlying141 rfl rfl Tryz.underlying9 (by kernel_rfl) (by kernel_rfl)
    exact ⟨_, _, hv⟩
  · obtain ⟨a, t, hv, _⟩ := laid_sentinel (g := 2) h'.tail.tail.tail.tail (by kernel_rfl) (by kernel_rfl) Tryz.underlying77 row156 Tryz.underlying139 Tryz.underlying141 rfl rfl Tryz.underlying9 (by kernel_rfl) (by kernel_rfl)
    exact ⟨_, _, hv⟩
end Go.Proofs.YtipfekjmcddelaaGreatDoor
