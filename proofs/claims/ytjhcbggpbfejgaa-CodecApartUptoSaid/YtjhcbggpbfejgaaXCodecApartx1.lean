-- written by wip/xprint.py: the kit's print with functions walked by hand
import Derived.Test.YtjhcbggpbfejgaaXCodecApartx0
namespace Go.Proofs.Ytjhcbggpbfejgaa.XCodecApart
open Go.RowKit Go.Proofs.YtjhcbggpbfejgaaW.PrintWords Go.Proofs.YtjhcbggpbfejgaaW.PrintLast Go.Proofs.YtjhcbggpbfejgaaW.PrintMore
attribute [local go_sem] max2_int min2_int max_two min_two max_three min_three max_four min_four   -- for this text's walks alone
set_option linter.unusedVariables false
set_option linter.unusedSimpArgs false

/-! ### calepinlaw15_first: function 11 -/
def calepinlaw15_first.f : Option (Bool) := some true
theorem calepinlaw15_first.calls (r : Bool) (w : World) (h : calepinlaw15_first.f = some r) :
    Calls Try.prog 11 #[] w fun e w' => e = .returned (.bool r) ∧ Below w.heap.size w w' := by
  unfold calepinlaw15_first.f at h
  injection h with h
  subst h
  exact Cr.first_any w

/-! ### codec_PutCommand: function 12 -/
def codec_PutCommand.f (a0_0 : Int) (a0_1 a0_2 a0_3 a0_4 a0_5 a0_6 : ByteArray) (l0_7 : List ByteArray) (a0_8 a0_9 a0_10 : Int) : Option (List Int) := if (Cp.enc ⟨a0_0, a0_1, a0_2, a0_3, a0_4, a0_5, a0_6, l0_7, a0_8, a0_9, a0_10⟩).length < 1099511627776 then some (Cp.enc ⟨a0_0, a0_1, a0_2, a0_3, a0_4, a0_5, a0_6, l0_7, a0_8, a0_9, a0_10⟩) else none
theorem codec_PutCommand.calls (a0_0 : Int) (a0_1 : ByteArray) (a0_2 : ByteArray) (a0_3 : ByteArray) (a0_4 : ByteArray) (a0_5 : ByteArray) (a0_6 : ByteArray) (A0_7 : Option Addr) (c0_7 : Nat) (l0_7 : List ByteArray) (a0_8 : Int) (a0_9 : Int) (a0_10 : Int) (r : List Int) (w : World) (hr0_7 : Kd.C Kd.string w A0_7 l0_7.length l0_7) (hc0_7 : l0_7.length ≤ c0_7) (h : codec_PutCommand.f a0_0 a0_1 a0_2 a0_3 a0_4 a0_5 a0_6 l0_7 a0_8 a0_9 a0_10 = some r) :
    Calls Try.prog 12 #[.agg #[.int .i64 a0_0, .string a0_1, .string a0_2, .string a0_3, .string a0_4, .string a0_5, .string a0_6, .slice A0_7 l0_7.length c0_7, .int .i64 a0_8, .int .i64 a0_9, .int .i64 a0_10]] w fun e w' => ∃ v0_ : Value, e = .returned (v0_) ∧ Kd.R (Kd.int .u8) 5 w' w.heap.size (fun _ => True) v0_ r ∧ Below w.heap.size w w' := by
  unfold codec_PutCommand.f at h
  split at h
  · injection h with h
    subst h
    exact Cw.PutCommand_any ⟨a0_0, a0_1, a0_2, a0_3, a0_4, a0_5, a0_6, l0_7, a0_8, a0_9, a0_10⟩ A0_7 c0_7 w hr0_7 (by omega)
  · cases h

/-! ### codec_GetCommand: function 13 -/
def codec_GetCommand.f (l0 : List Int) : Option (Int × ByteArray × ByteArray × ByteArray × ByteArray × ByteArray × ByteArray × List ByteArray × Int × Int × Int × Int) := if (l0.all fun x => decide (0 ≤ x) && decide (x < 256)) = true ∧ l0.length ≤ 1099511627776 then some ((Cp.getCommand l0).1.op, (Cp.getCommand l0).1.book, (Cp.getCommand l0).1.name, (Cp.getCommand l0).1.data, (Cp.getCommand l0).1.mat, (Cp.getCommand l0).1.non, (Cp.getCommand l0).1.token, (Cp.getCommand l0).1.names, (Cp.getCommand l0).1.at_, (Cp.getCommand l0).1.session, (Cp.getCommand l0).1.seq, (Cp.getCommand l0).2) else none
theorem codec_GetCommand.calls (A0 : Option Addr) (c0 : Nat) (l0 : List Int) (r1 : Int) (r2 : ByteArray) (r3 : ByteArray) (r4 : ByteArray) (r5 : ByteArray) (r6 : ByteArray) (r7 : ByteArray) (r8 : (List ByteArray)) (r9 : Int) (r10 : Int) (r11 : Int) (r12 : Int) (w : World) (hr0 : Kd.C (Kd.int .u8) w A0 l0.length l0) (hc0 : l0.length ≤ c0) (h : codec_GetCommand.f l0 = some (r1, r2, r3, r4, r5, r6, r7, r8, r9, r10, r11, r12)) :
    Calls Try.prog 13 #[.slice A0 l0.length c0] w fun e w' => ∃ v7_ : Value, e = .returned (.tuple #[.agg #[.int .i64 r1, .string r2, .string r3, .string r4, .string r5, .string r6, .string r7, v7_, .int .i64 r9, .int .i64 r10, .int .i64 r11], .int .i64 r12]) ∧ Kd.R Kd.string 9 w' w.heap.size (fun _ => True) v7_ r8 ∧ Below w.heap.size w w' := by
  unfold codec_GetCommand.f at h
  split at h
  · rename_i hc
    simp only [Option.some.injEq, Prod.mk.injEq] at h
    obtain ⟨rfl, rfl, rfl, rfl, rfl, rfl, rfl, rfl, rfl, rfl, rfl, rfl⟩ := h
    have hbs : Cp.Bs l0 := fun x hx => by simpa using List.all_eq_true.1 hc.1 x hx
    exact (Cr.GetCommand_any l0 A0 c0 w hr0 hc0 hbs hc.2).mono fun e w' ⟨A, cap, he, ho, hb⟩ => ⟨_, he, ho, hb⟩
  · cases h

end Go.Proofs.Ytjhcbggpbfejgaa.XCodecApart
