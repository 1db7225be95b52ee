-- written by wip/xprint.py: the kit's print with functions walked by hand
import Derived.Test.YtjhcbggpbfejgaaXCodecPutsx0
namespace Go.Proofs.Ytjhcbggpbfejgaa.XCodecPuts
open Go.RowKit Go.Proofs.YtjhcbggpbfejgaaW.PrintWords Go.Proofs.YtjhcbggpbfejgaaW.PrintLast Go.Proofs.YtjhcbggpbfejgaaW.PrintMore
attribute [local go_sem] max2_int min2_int max_two min_two max_three min_three max_four min_four   -- for this text's walks alone
set_option linter.unusedVariables false
set_option linter.unusedSimpArgs false

/-! ### codec_PutReply: function 25 -/
def codec_PutReply.f (a0_0 a0_1 : Int) (a0_2 : ByteArray) (l0_3 : List (S93)) (a0_4 : ByteArray) : Option (List Int) := if (Cw.encQ (fun x : S93 => (x.f0, x.f1, x.f2, x.f3)) a0_0 a0_1 a0_2 l0_3 a0_4).length < 1099511627776 then some (Cw.encQ (fun x : S93 => (x.f0, x.f1, x.f2, x.f3)) a0_0 a0_1 a0_2 l0_3 a0_4) else none
theorem codec_PutReply.calls (a0_0 : Int) (a0_1 : Int) (a0_2 : ByteArray) (A0_3 : Option Addr) (c0_3 : Nat) (l0_3 : List (S93)) (a0_4 : ByteArray) (r : List Int) (w : World) (hr0_3 : Kd.C k93 w A0_3 l0_3.length l0_3) (hc0_3 : l0_3.length ≤ c0_3) (h : codec_PutReply.f a0_0 a0_1 a0_2 l0_3 a0_4 = some r) :
    Calls Try.prog 25 #[.agg #[.int .i64 a0_0, .int .i64 a0_1, .string a0_2, .slice A0_3 l0_3.length c0_3, .string a0_4]] w fun e w' => ∃ v0_ : Value, e = .returned (v0_) ∧ Kd.R (Kd.int .u8) 5 w' w.heap.size (fun _ => True) v0_ r ∧ Below w.heap.size w w' := by
  unfold codec_PutReply.f at h
  split at h
  · injection h with h
    subst h
    exact Cw.PutReply_any (fun x : S93 => (x.f0, x.f1, x.f2, x.f3)) z93 a0_0 a0_1 a0_2 l0_3 a0_4 A0_3 c0_3 w hr0_3 (by omega)
  · cases h

end Go.Proofs.Ytjhcbggpbfejgaa.XCodecPuts
