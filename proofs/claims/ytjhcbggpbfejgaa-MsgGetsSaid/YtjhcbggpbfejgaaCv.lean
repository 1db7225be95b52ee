import Derived.Test.YtjhcbggpbfejgaaCu
namespace Go.Proofs.Ytjhcbggpbfejgaa.Cr
open Go.RowKit Go.Proofs.zjt.zjq Go.Proofs.zjt.zjr Go.Proofs.zjt.zjs
open Go.Proofs.Ytjhcbggpbfejgaa.Cp Go.Proofs.Ytjhcbggpbfejgaa.Cw
set_option linter.unusedVariables false
set_option linter.unusedSimpArgs false
theorem zgt (s : St) : (txtR s).2.1.length ≤ s.1.length := Nat.le_trans (zel _ _) (zfe s)
end Go.Proofs.Ytjhcbggpbfejgaa.Cr
