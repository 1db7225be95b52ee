/- CharOrder, the plain law. -/
import Derived.Test.YtpedfpeokedelaaDoorXCharOrderx1
import Derived.Test.YtpedfpeokedelaaDoorNm
namespace Go.Proofs.YtpedfpeokedelaaDoor.Pure
open Go.RowKit Go.Lib Go.Proofs.YtpedfpeokedelaaDoor.XCharOrder Go.Proofs.YtpedfpeokedelaaDoorW.PrintWords Go.Proofs.YtpedfpeokedelaaDoorW.PrintLast
set_option maxRecDepth 100000 in
theorem first_o : calepinlaw01_first.f = some true := by decide +kernel
theorem CharOrder : calepinlaw01_CharOrder.Pure := by
  intro a b ha hb
  have ha' : 0 ≤ a ∧ a < 18446744073709551616 := by
    simp [Lit.wf, IntKind.min, IntKind.max, IntKind.signed, IntKind.bits] at ha; omega
  have hb' : 0 ≤ b ∧ b < 18446744073709551616 := by
    simp [Lit.wf, IntKind.min, IntKind.max, IntKind.signed, IntKind.bits] at hb; omega
  obtain ⟨n, rfl⟩ : ∃ n : Nat, a = n := ⟨a.toNat, by omega⟩
  obtain ⟨m, rfl⟩ : ∃ m : Nat, b = m := ⟨b.toNat, by omega⟩
  unfold calepinlaw01_CharOrder.f
  rw [first_o]
  simp only [Option.bind_some, if_true, char_Decimal.f, if_pos ha', if_pos hb', Int.toNat_natCast, char_Number.f]
  have hsz : ∀ u, (⟨(decDigits u).toArray⟩ : ByteArray).size = (decDigits u).length := fun u => by simp [ByteArray.size]
  have hlist : ∀ u, (⟨(decDigits u).toArray⟩ : ByteArray).toList = decDigits u := fun u => by rw [toList_data]
  have hle : ∀ u, u < 18446744073709551616 → (decDigits u).length ≤ 281474976710656 := fun u hu => by
    have := dec_len u hu
    omega
  rw [if_pos ⟨by rw [hsz]; exact hle n (by omega), hb'⟩]
  simp only [Option.bind_some, numV_dec n m (by omega), hsz, hlist]
  have hok : (if n ≤ m then (n, true) else (0, false)).2 = decide ((n : Int) ≤ (m : Int)) := by
    by_cases h : n ≤ m
    · rw [if_pos h]; exact (decide_eq_true (by omega)).symm
    · rw [if_neg h]; exact (decide_eq_false (by omega)).symm
  have heq : (decDigits n == decDigits m) = ((n : Int) == (m : Int)) := by
    by_cases h : n = m
    · subst h; simp
    · have h1 : decDigits n ≠ decDigits m := fun h2 => h (dec_inj h2)
      have h2 : (n : Int) ≠ m := by omega
      rw [beq_eq_false_iff_ne.2 h1, beq_eq_false_iff_ne.2 h2]
  rw [hok, heq]
  simp only [beq_self_eq_true, if_true]
  by_cases h1 : (decDigits n).length < (decDigits m).length
  · have := dec_len_lt h1
    rw [if_pos (by omega), decide_eq_true (show (n : Int) < m by omega)]
    simp
  · rw [if_neg (by omega)]
    by_cases h2 : (decDigits n).length = (decDigits m).length
    · rw [if_pos (by omega), less_val 0 _ _ h2 (dec_dig n) (dec_dig m), dec_val, dec_val, show decide (n < m) = decide ((n : Int) < (m : Int)) from decide_eq_decide.2 (by omega)]
      simp
    · have h3 : m < n := dec_len_lt (by omega)
      rw [if_neg (by omega), decide_eq_false (show ¬ (n : Int) < m by omega)]
      simp
end Go.Proofs.YtpedfpeokedelaaDoor.Pure
