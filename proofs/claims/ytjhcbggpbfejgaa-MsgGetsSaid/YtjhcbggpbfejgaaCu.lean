import Derived.Test.YtjhcbggpbfejgaaCk
import Derived.Test.YtjhcbggpbfejgaaCl
namespace Go.Proofs.Ytjhcbggpbfejgaa.Cr
open Go.RowKit Go.Proofs.zjt.zjq Go.Proofs.zjt.zjr Go.Proofs.zjt.zjs
open Go.Proofs.Ytjhcbggpbfejgaa.Cp Go.Proofs.Ytjhcbggpbfejgaa.Cw
set_option linter.unusedVariables false
set_option linter.unusedSimpArgs false
section
variable {P : Program} {ops : Array Oper} {Q : Exit → Act → World → Prop}
end
theorem RSt.drew {w0 W : World} {g : Nat} {s : St} (h : RSt w0 W g s) : RSt w0 W.drew g s := by
  obtain ⟨A, c, hb, hg, hc, hl, hB⟩ := h
  exact ⟨A, c, zai hb, hg, hc, hl, zae hB⟩
theorem KeepBut.drew (W : World) (g : Nat) : KeepBut W W.drew g none := KeepBut.of_below (zae (Below.refl _ _)) g none
theorem KeepBut.alloc (W : World) (o : Obj) (g : Nat) : KeepBut W (W.alloc o) g none := KeepBut.of_below (zad (Below.refl _ _) o) g none
end Go.Proofs.Ytjhcbggpbfejgaa.Cr
