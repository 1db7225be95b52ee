/- Plain laws of texts: character by character. -/
import Derived.Test.YtpaopeiegaijiaaGreatDoorTx
import Derived.Lib.ValidLaws
import Derived.Lib.TrimUEq
namespace Go.Proofs.YtpaopeiegaijiaaGreatDoor
open Go.Lib
def bad (l : List UInt8) : Prop := (decodeL l).1 = 65533 ∧ (decodeL l).2 = 1
instance (l : List UInt8) : Decidable (bad l) := inferInstanceAs (Decidable (_ ∧ _))
def okF : Nat → List UInt8 → Bool
  | 0, _ => true
  | n + 1, l => if l = [] then true else if bad l ∨ ctl (decodeL l).1 = true then false else okF n (l.drop (decodeL l).2)
/-- A text. -/
def okL (l : List UInt8) : Bool := okF l.length l
theorem okF_fuel : ∀ (n m : Nat) (l : List UInt8), l.length ≤ n → l.length ≤ m → okF n l = okF m l
  | 0, m, l, hn, _ => by
    obtain rfl : l = [] := List.length_eq_zero_iff.1 (by omega)
    cases m <;> simp [okF]
  | n + 1, 0, l, _, hm => by
    obtain rfl : l = [] := List.length_eq_zero_iff.1 (by omega)
    simp [okF]
  | n + 1, m + 1, l, hn, hm => by
    unfold okF
    by_cases hne : l = []
    · simp [hne]
    · have hw := decodeL_width l
      have hl : 0 < l.length := List.length_pos_iff.2 hne
      rw [if_neg hne, if_neg hne, okF_fuel n m (l.drop (decodeL l).2) (by rw [List.length_drop]; omega) (by rw [List.length_drop]; omega)]
theorem okL_nil : okL [] = true := rfl
theorem okL_step (l : List UInt8) (hne : l ≠ []) : okL l = if bad l ∨ ctl (decodeL l).1 = true then false else okL (l.drop (decodeL l).2) := by
  have hl : 0 < l.length := List.length_pos_iff.2 hne
  have hw := decodeL_width l
  obtain ⟨n, hn⟩ : ∃ n, l.length = n + 1 := ⟨l.length - 1, by omega⟩
  unfold okL
  rw [hn]
  show (if l = [] then true else _) = _
  rw [if_neg hne, okF_fuel n (l.drop (decodeL l).2).length _ (by rw [List.length_drop]; omega) (Nat.le_refl _)]
theorem valid_from (s : ByteArray) : ∀ (f pos : Nat), s.size ≤ pos + f → (validD (s.data.toList.drop pos) && decide (idxFuncFrom ctl true s f pos < 0)) = okL (s.data.toList.drop pos) := by
  have hsz := size_eq s
  intro f
  induction f with
  | zero =>
    intro pos h
    rw [List.drop_of_length_le (by omega), idxFuncFrom, okL_nil, validD_nil]
    rfl
  | succ f ih =>
    intro pos h
    unfold idxFuncFrom
    by_cases hp : pos < s.size
    · have hne : s.data.toList.drop pos ≠ [] := by
        intro he
        have := congrArg List.length he
        rw [List.length_drop] at this
        simp only [List.length_nil] at this
        omega
      have hw := decodeL_width (s.data.toList.drop pos)
      rw [if_pos hp, validD_step _ hne, okL_step _ hne]
      rw [← decodeL_drop]
      by_cases hb : bad (s.data.toList.drop pos)
      · rw [if_pos (show (decodeL (s.data.toList.drop pos)).1 = 65533 ∧ (decodeL (s.data.toList.drop pos)).2 = 1 from hb), Bool.false_and, if_pos (Or.inl hb)]
      · rw [if_neg (show ¬ ((decodeL (s.data.toList.drop pos)).1 = 65533 ∧ (decodeL (s.data.toList.drop pos)).2 = 1) from hb)]
        by_cases hc : ctl (decodeL (s.data.toList.drop pos)).1 = true
        · rw [if_pos hc, if_pos (.inr hc), decide_eq_false (by omega), Bool.and_false]
        · rw [if_neg hc, if_neg (by rintro (h1 | h1); exact hb h1; exact hc h1), List.drop_drop]
          exact ih _ (by omega)
    · rw [if_neg hp, List.drop_of_length_le (by omega), okL_nil, validD_nil]
      rfl
theorem validB_eq (s : ByteArray) : validB s = okL s.data.toList := by
  have := valid_from s s.size 0 (by omega)
  rw [List.drop_zero] at this
  rw [← this, validB, idxFunc]
theorem ext_drop (s : ByteArray) (k : Nat) : (s.extract k s.size).data.toList = s.data.toList.drop k := by
  have h : (s.extract k s.size).data.toList = (s.data.toList.drop k).take (s.size - k) := by simp
  rw [h, List.take_of_length_le (by rw [List.length_drop, size_eq]; omega)]
end Go.Proofs.YtpaopeiegaijiaaGreatDoor
