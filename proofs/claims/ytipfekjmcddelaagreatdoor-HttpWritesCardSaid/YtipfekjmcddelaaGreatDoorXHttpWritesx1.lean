-- written by wip/xprint.py: the kit's print with functions walked by hand
import Derived.Test.YtipfekjmcddelaaGreatDoorXHttpWritesx0
namespace Go.Proofs.YtipfekjmcddelaaGreatDoor.XHttpWrites
open Go.RowKit Go.Proofs.YtipfekjmcddelaaGreatDoorW.zgo Go.Proofs.YtipfekjmcddelaaGreatDoorW.zgp Go.Proofs.YtipfekjmcddelaaGreatDoorW.zgq
attribute [local go_sem] zdk zdi zdx zdw zdc zdb zdj zdh   -- for this text's walks alone
set_option linter.unusedVariables false
set_option linter.unusedSimpArgs false
theorem eqA62 (d : Nat) (w : World) (x0 y0 : ByteArray) (x1 y1 : ByteArray) :
    (Op.equalIn (d + 2) 62 (.agg #[.string x0, .string x1]) (.agg #[.string y0, .string y1])).run Tryz.prog w = .ok (x0.toList == y0.toList && (x1.toList == y1.toList)) w := by
  refine eqA_of Tryz.underlying62 (by kernel_rfl) ?_
  refine eqf_cons (by rfl) (by go_simp; rfl) (by go_simp; rfl) (by go_simp) ?_
  exact eqf_last (by rfl) (by go_simp; rfl) (by go_simp; rfl) (by go_simp)
end Go.Proofs.YtipfekjmcddelaaGreatDoor.XHttpWrites
