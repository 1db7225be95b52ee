/- Plain laws of texts: put together and cut. -/
import Derived.Test.YtpaopeiegaijiaaGreatDoorVd
import Derived.Lib.MapLaws
namespace Go.Proofs.YtpaopeiegaijiaaGreatDoor
open Go.Lib
theorem decodeN_more (n n' b0 b1 b2 b3 c1 c2 c3 : Nat) (h : n ≤ n') (h1 : 1 < n → c1 = b1) (h2 : 2 < n → c2 = b2) (h3 : 3 < n → c3 = b3) (hb : ¬ ((decodeN n b0 b1 b2 b3).1 = 65533 ∧ (decodeN n b0 b1 b2 b3).2 = 1)) :
    decodeN n' b0 c1 c2 c3 = decodeN n b0 b1 b2 b3 := by
  unfold decodeN at hb ⊢
  by_cases d0 : b0 < 128
  · rw [if_pos d0, if_pos d0]
  · rw [if_neg d0] at hb ⊢
    rw [if_neg d0]
    by_cases d1 : b0 / 32 = 6 ∧ (1 < n ∧ b1 / 64 = 2)
    · have e1 := h1 d1.2.1
      subst e1
      rw [if_pos d1] at hb ⊢
      rw [if_pos ⟨d1.1, by omega, d1.2.2⟩]
    · rw [if_neg d1] at hb ⊢
      by_cases d2 : b0 / 16 = 14 ∧ (1 < n ∧ b1 / 64 = 2) ∧ (2 < n ∧ b2 / 64 = 2)
      · have e1 := h1 d2.2.1.1
        have e2 := h2 d2.2.2.1
        subst e1 e2
        rw [if_pos d2] at hb ⊢
        rw [if_neg (by omega), if_pos ⟨d2.1, ⟨by omega, d2.2.1.2⟩, by omega, d2.2.2.2⟩]
      · rw [if_neg d2] at hb ⊢
        by_cases d3 : b0 / 8 = 30 ∧ (1 < n ∧ b1 / 64 = 2) ∧ (2 < n ∧ b2 / 64 = 2) ∧ (3 < n ∧ b3 / 64 = 2)
        · have e1 := h1 d3.2.1.1
          have e2 := h2 d3.2.2.1.1
          have e3 := h3 d3.2.2.2.1
          subst e1 e2 e3
          rw [if_pos d3] at hb ⊢
          rw [if_neg (by omega), if_neg (by omega), if_pos ⟨d3.1, ⟨by omega, d3.2.1.2⟩, ⟨by omega, d3.2.2.1.2⟩, by omega, d3.2.2.2.2⟩]
        · rw [if_neg d3] at hb
          exact absurd ⟨rfl, rfl⟩ hb
/-- What is behind a whole character changes nothing of it. -/
theorem decodeL_append (l m : List UInt8) (hne : l ≠ []) (hb : ¬ bad l) : decodeL (l ++ m) = decodeL l := by
  have hl : 0 < l.length := List.length_pos_iff.2 hne
  unfold bad at hb
  rw [decodeL_N] at hb
  rw [decodeL_N, decodeL_N l]
  have hg : ∀ i, i < l.length → (l ++ m).getD i 0 = l.getD i 0 := fun i hi => by
    rw [List.getD_eq_getElem?_getD, List.getD_eq_getElem?_getD, List.getElem?_append_left hi]
  rw [hg 0 hl]
  exact decodeN_more _ _ _ _ _ _ _ _ _ (by simp) (fun h => by rw [hg 1 h]) (fun h => by rw [hg 2 h]) (fun h => by rw [hg 3 h]) hb
/-- Where the first is a text, both together are one just if the second is. -/
theorem okL_append : ∀ (n : Nat) (l m : List UInt8), l.length ≤ n → okL l = true → okL (l ++ m) = okL m
  | 0, l, m, hn, _ => by
    obtain rfl : l = [] := List.length_eq_zero_iff.1 (by omega)
    rfl
  | n + 1, l, m, hn, h => by
    by_cases hne : l = []
    · subst hne; rfl
    · have hw := decodeL_width l
      have hle := decodeL_le l hne
      rw [okL_step l hne] at h
      by_cases hb : bad l ∨ ctl (decodeL l).1 = true
      · rw [if_pos hb] at h; cases h
      · rw [if_neg hb] at h
        have hd := decodeL_append l m hne (fun h => hb (.inl h))
        have hb' : ¬ (bad (l ++ m) ∨ ctl (decodeL (l ++ m)).1 = true) := by
          unfold bad
          rw [hd]
          exact hb
        rw [okL_step (l ++ m) (by simp [hne]), if_neg hb', hd, List.drop_append_of_le_length hle]
        exact okL_append n _ m (by rw [List.length_drop]; omega) h
end Go.Proofs.YtpaopeiegaijiaaGreatDoor
