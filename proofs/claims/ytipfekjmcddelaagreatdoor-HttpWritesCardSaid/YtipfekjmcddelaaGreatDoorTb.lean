import Derived.Test.YtipfekjmcddelaaGreatDoorSp
import Derived.Test.YtipfekjmcddelaaGreatDoorVw
import Derived.Lib.SmallJoins
import Derived.WalkKit
import Derived.WalkMore
import Derived.Below
import Derived.BigQuiet
import Derived.Deep.QuietTactic
import Derived.OwnWalk
import Derived.KernelRfl
namespace Go.Proofs.YtipfekjmcddelaaGreatDoor
open Go.RowKit Go.Shelf Go.Lib Go.Joins
/-- The library's tables and variables that the calls read. -/
structure Laid (w : World) : Prop where
  tab : Lib.TabIs Tryz.prog w "internal/strconv.uint64pow10" .u64 Lib.pow10Tab
  syn : ∃ tp p, w.var? Tryz.prog "strconv.ErrSyntax" = some #[.iface tp p]
  ran : ∃ tp p, w.var? Tryz.prog "strconv.ErrRange" = some #[.iface tp p]
theorem zft {n : String} (h : (Tryz.prog.globalNamed n).isSome = true) : ∃ g, Tryz.prog.globalNamed n = some g := Option.isSome_iff_exists.1 h
theorem gTab : ∃ g, Tryz.prog.globalNamed "internal/strconv.uint64pow10" = some g := zft (by kernel_rfl)
theorem gSyn : ∃ g, Tryz.prog.globalNamed "strconv.ErrSyntax" = some g := zft (by kernel_rfl)
theorem gRan : ∃ g, Tryz.prog.globalNamed "strconv.ErrRange" = some g := zft (by kernel_rfl)
theorem Laid.below {w W : World} (h : Laid w) (hb : Below w.heap.size w W) : Laid W := by
  have key : ∀ {p : Addr} {v : Value}, w.cell? p = some v → W.cell? p = some v := fun hc => (hb.cell (World.block_lt_of_cell? _ _ hc)).trans hc
  obtain ⟨_, g1⟩ := gTab
  obtain ⟨_, g2⟩ := gSyn
  obtain ⟨_, g3⟩ := gRan
  refine ⟨tab_stays g1 h.tab hb (Nat.le_refl _), ?_, ?_⟩
  · obtain ⟨tp, p, hv⟩ := h.syn
    exact ⟨tp, p, var_stays g2 hv hb (Nat.le_refl _)⟩
  · obtain ⟨tp, p, hv⟩ := h.ran
    exact ⟨tp, p, var_stays g3 hv hb (Nat.le_refl _)⟩
end Go.Proofs.YtipfekjmcddelaaGreatDoor
