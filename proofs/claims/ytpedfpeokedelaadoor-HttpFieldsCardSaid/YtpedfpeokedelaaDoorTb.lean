import Derived.Test.YtpedfpeokedelaaDoorSp
import Derived.Test.YtpedfpeokedelaaDoorVw
import Derived.Lib.SmallJoins
import Derived.WalkKit
import Derived.WalkMore
import Derived.Below
import Derived.BigQuiet
import Derived.Deep.QuietTactic
import Derived.OwnWalk
import Derived.KernelRfl
/- The library's tables, as they lie when the call begins, and what keeps them. -/
namespace Go.Proofs.YtpedfpeokedelaaDoor
open Go.RowKit Go.Shelf Go.Lib Go.Joins
/-- The library's tables and variables that the calls read. -/
structure Laid (w : World) : Prop where
  utf : Lib.Utf8Tabs (Tryd.laysValid_ren.g 3) (Tryd.laysValid_ren.g 4) w
  tab : Lib.TabIs Tryd.prog w "internal/strconv.uint64pow10" .u64 Lib.pow10Tab
  syn : ∃ tp p, w.var? Tryd.prog "strconv.ErrSyntax" = some #[.iface tp p]
  ran : ∃ tp p, w.var? Tryd.prog "strconv.ErrRange" = some #[.iface tp p]
theorem named_of {n : String} (h : (Tryd.prog.globalNamed n).isSome = true) : ∃ g, Tryd.prog.globalNamed n = some g := Option.isSome_iff_exists.1 h
theorem gTab : ∃ g, Tryd.prog.globalNamed "internal/strconv.uint64pow10" = some g := named_of (by kernel_rfl)
theorem gSyn : ∃ g, Tryd.prog.globalNamed "strconv.ErrSyntax" = some g := named_of (by kernel_rfl)
theorem gRan : ∃ g, Tryd.prog.globalNamed "strconv.ErrRange" = some g := named_of (by kernel_rfl)
theorem Laid.below {w W : World} (h : Laid w) (hb : Below w.heap.size w W) : Laid W := by
  have key : ∀ {p : Addr} {v : Value}, w.cell? p = some v → W.cell? p = some v := fun hc => (hb.cell (World.block_lt_of_cell? _ _ hc)).trans hc
  obtain ⟨_, g1⟩ := gTab
  obtain ⟨_, g2⟩ := gSyn
  obtain ⟨_, g3⟩ := gRan
  refine ⟨⟨fun c hc => key (h.utf.1 c hc), fun i hi => ⟨key (h.utf.2 i hi).1, key (h.utf.2 i hi).2⟩⟩, tab_stays g1 h.tab hb (Nat.le_refl _), ?_, ?_⟩
  · obtain ⟨tp, p, hv⟩ := h.syn
    exact ⟨tp, p, var_stays g2 hv hb (Nat.le_refl _)⟩
  · obtain ⟨tp, p, hv⟩ := h.ran
    exact ⟨tp, p, var_stays g3 hv hb (Nat.le_refl _)⟩
/-- A control character? -/
def ctl (r : Nat) : Bool := decide (r < 32) && r != 9 && r != 10 && r != 13 || r == 127
def validB (s : ByteArray) : Bool := Lib.validD s.data.toList && decide (Lib.idxFunc ctl true s < 0)
end Go.Proofs.YtpedfpeokedelaaDoor
