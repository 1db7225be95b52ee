/- What the rows' list gives (LaidM). -/
import Derived.Test.YtpaopeiegaijiaaGreatDoorTx
import Derived.Test.YtpaopeiegaijiaaGreatDoorSz
import Derived.Test.YtpaopeiegaijiaaGreatDoorSw
import Derived.Test.YtpaopeiegaijiaaGreatDoorCards
import Derived.Test.YtpaopeiegaijiaaGreatDoorTie
import Derived.Lib.LaidU8T
import Derived.Lib.LaidTab
import Derived.Stop.LaidErr
import Derived.Lay
import Derived.Deep.DeepHandedRow
import Derived.LaidSub
import GoSem.PinnedTables
namespace Go.Proofs.YtpaopeiegaijiaaGreatDoor
open Go.RowKit Go.Shelf Go.Lib Go.Joins
set_option maxRecDepth 100000
theorem first_eq : Rows.laid_unicode_utf8_first = Lib.firstData := by kernel_rfl
theorem accept_eq : (Rows.laid_unicode_utf8_acceptRanges : DataW Unit) = Lib.acceptData := by kernel_rfl
theorem star : "*" ++ "errors.errorString" = "*errors.errorString" := by decide
theorem rowErr (u : TypeId) (h : Tryz.prog.typeName? 3 u = some "*errors.errorString") : u = 253 :=
  typeName_ptr_named (nm := "errors.errorString") (by rw [star]; kernel_rfl) (by kernel_rfl) (by decide) u (by rw [star]; exact h)
theorem laidM_of {W : World} (h : laidMet Tryz.prog Rows.xmlDeepRow.laid W) (hs : W.ShapedOpen Tryz.prog) : LaidM W := by
  have h' : laidMet Tryz.prog [("math/bits.deBruijn32tab", Rows.laid_math_bits_deBruijn32tab), ("math/bits.deBruijn64tab", Rows.laid_math_bits_deBruijn64tab), ("internal/strconv.uint64pow10", Rows.laid_internal_strconv_uint64pow10), ("unicode/utf8.acceptRanges", Rows.laid_unicode_utf8_acceptRanges), ("strconv.ErrRange", Rows.laid_strconv_ErrRange), ("strconv.ErrSyntax", Rows.laid_strconv_ErrSyntax), ("unicode/utf8.first", Rows.laid_unicode_utf8_first)] W := h
  obtain ⟨a, t, hv, _⟩ := laid_sentinel (g := 3) h'.tail.tail.tail.tail.tail (by kernel_rfl) (by kernel_rfl) Tryz.underlying98 rowErr Tryz.underlying253 Tryz.underlying255 rfl rfl Tryz.underlying9 (by kernel_rfl) (by kernel_rfl)
  obtain ⟨a2, t2, hv2, _⟩ := laid_sentinel (g := 4) h'.tail.tail.tail.tail (by kernel_rfl) (by kernel_rfl) Tryz.underlying98 rowErr Tryz.underlying253 Tryz.underlying255 rfl rfl Tryz.underlying9 (by kernel_rfl) (by kernel_rfl)
  refine ⟨?_, Tryz.laysMCut.s1_3 W hs, ⟨_, _, (World.var?_cell Tryz.laysPu14.m0 hv 0).trans rfl⟩, ⟨_, _, (World.var?_cell Tryz.laysPu14.m1 hv2 0).trans rfl⟩⟩
  exact utf8Tabs_of_readsT (U8Types.of196 Tryz.laysValid) ⟨by kernel_rfl, by kernel_rfl, by kernel_rfl, by kernel_rfl, by kernel_rfl, by kernel_rfl, by kernel_rfl⟩
    (first_eq ▸ Lib.laidMet.reads h' (by simp)) (accept_eq ▸ Lib.laidMet.reads h' (by simp))
end Go.Proofs.YtpaopeiegaijiaaGreatDoor
