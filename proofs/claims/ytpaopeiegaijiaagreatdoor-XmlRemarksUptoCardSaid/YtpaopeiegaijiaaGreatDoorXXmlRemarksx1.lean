-- written by wip/xprint.py: the kit's print with functions walked by hand
import Derived.Test.YtpaopeiegaijiaaGreatDoorXXmlRemarksx0
namespace Go.Proofs.YtpaopeiegaijiaaGreatDoor.XXmlRemarks
open Go.RowKit Go.Proofs.YtpaopeiegaijiaaGreatDoorW.PrintWords Go.Proofs.YtpaopeiegaijiaaGreatDoorW.PrintLast Go.Proofs.YtpaopeiegaijiaaGreatDoorW.PrintMore
attribute [local go_sem] max2_int min2_int max_two min_two max_three min_three max_four min_four   -- for this text's walks alone
set_option linter.unusedVariables false
set_option linter.unusedSimpArgs false

theorem eqA60 (d : Nat) (w : World) (x0 y0 : Int) (x1 y1 : Int) (x2 y2 : ByteArray) (x3 y3 : ByteArray) :
    (Op.equalIn (d + 2) 60 (.agg #[.int .i64 x0, .int .i64 x1, .string x2, .string x3]) (.agg #[.int .i64 y0, .int .i64 y1, .string y2, .string y3])).run Tryz.prog w = .ok (x0 == y0 && (x1 == y1 && (x2.toList == y2.toList && (x3.toList == y3.toList)))) w := by
  refine eqA_of Tryz.underlying60 (by kernel_rfl) ?_
  refine eqf_cons (by rfl) (by go_simp; rfl) (by go_simp; rfl) (by go_simp) ?_
  refine eqf_cons (by rfl) (by go_simp; rfl) (by go_simp; rfl) (by go_simp) ?_
  refine eqf_cons (by rfl) (by go_simp; rfl) (by go_simp; rfl) (by go_simp) ?_
  exact eqf_last (by rfl) (by go_simp; rfl) (by go_simp; rfl) (by go_simp)
end Go.Proofs.YtpaopeiegaijiaaGreatDoor.XXmlRemarks
