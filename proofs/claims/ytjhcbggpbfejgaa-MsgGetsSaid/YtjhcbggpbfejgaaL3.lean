/- The walks of codec's reader: lists and commands. -/
import Derived.Test.YtjhcbggpbfejgaaCf
import Derived.Test.YtjhcbggpbfejgaaCq
import Derived.Deep.QuietTactic
import Derived.Deep.RegionWith
import Derived.Deep.RegionLaw
namespace Go.Proofs.Ytjhcbggpbfejgaa.Cr
open Go.Proofs.Ytjhcbggpbfejgaa.Cw
open Go.RowKit Go.Proofs.zjt.zjq Go.Proofs.zjt.zjr Go.Proofs.zjt.zjs
open Go.Proofs.Ytjhcbggpbfejgaa.Cp
set_option linter.unusedVariables false
set_option linter.unusedSimpArgs false
theorem emptyRow {w0 w : World} {base : Nat} (hB : Below base w0 w) (hs : base ≤ w.heap.size) (o : Obj) : Kd.R (Kd.int .u8) 5 ((w.alloc o).alloc (.cells #[] 5)) base (fun _ => True) (.slice (some ⟨w.heap.size + 1, 0, none⟩) 0 0) [] := by
  have h := World.ownsRow_made (base := base) (e := 5) (size := 1) (w.alloc o) #[] 0 (by simp; omega) (by simp [maxLen]) rfl
  have e : (w.alloc o).heap.size = w.heap.size + 1 := by simp
  rw [e] at h
  exact Kd.zey (h1 := fun _ => rfl) h (fun _ _ => trivial)
end Go.Proofs.Ytjhcbggpbfejgaa.Cr
