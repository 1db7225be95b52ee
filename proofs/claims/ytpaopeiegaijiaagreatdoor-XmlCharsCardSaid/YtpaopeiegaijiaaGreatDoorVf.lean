/- Plain laws of texts: cut anywhere. -/
import Derived.Test.YtpaopeiegaijiaaGreatDoorVe
namespace Go.Proofs.YtpaopeiegaijiaaGreatDoor
open Go.Lib
set_option linter.unusedVariables false
/-- A character begins here, or it is the end. -/
def startAt (l : List UInt8) (k : Nat) : Bool := decide (k = l.length) || decide ((l.getD k 0).toNat < 128) || decide (192 ≤ (l.getD k 0).toNat)
/-- What decodeN says of a whole character: its first byte, and those behind it. -/
theorem whole (n b0 b1 b2 b3 : Nat) (h0 : b0 < 256) (h1 : b1 < 256) (h2 : b2 < 256) (h3 : b3 < 256) (hn : 0 < n) (hb : ¬ ((decodeN n b0 b1 b2 b3).1 = 65533 ∧ (decodeN n b0 b1 b2 b3).2 = 1)) :
    (b0 < 128 ∨ 192 ≤ b0) ∧ (decodeN n b0 b1 b2 b3).2 ≤ n ∧ (1 < (decodeN n b0 b1 b2 b3).2 → b1 / 64 = 2) ∧ (2 < (decodeN n b0 b1 b2 b3).2 → b2 / 64 = 2) ∧ (3 < (decodeN n b0 b1 b2 b3).2 → b3 / 64 = 2) ∧ (decodeN n b0 b1 b2 b3).2 ≤ 4 ∧
    ∀ m, 0 < m → m < (decodeN n b0 b1 b2 b3).2 → ∀ c1 c2 c3, (decodeN m b0 c1 c2 c3).1 = 65533 ∧ (decodeN m b0 c1 c2 c3).2 = 1 := by
  unfold decodeN at hb ⊢
  by_cases d0 : b0 < 128
  · rw [if_pos d0]
    exact ⟨.inl d0, by simp only; omega, by simp only; omega, by simp only; omega, by simp only; omega, by simp only; omega, fun m hm h => by simp only at h; omega⟩
  · rw [if_neg d0] at hb ⊢
    by_cases d1 : b0 / 32 = 6 ∧ (1 < n ∧ b1 / 64 = 2)
    · rw [if_pos d1] at hb ⊢
      split at hb
      · rename_i e
        rw [if_pos e]
        refine ⟨.inr (by omega), by simp only; omega, fun _ => d1.2.2, by simp only; omega, by simp only; omega, by simp only; omega, fun m hm h c1 c2 c3 => ?_⟩
        simp only at h
        rw [if_neg d0, if_neg (by omega), if_neg (by omega), if_neg (by omega)]
        exact ⟨rfl, rfl⟩
      · exact absurd ⟨rfl, rfl⟩ hb
    · rw [if_neg d1] at hb ⊢
      by_cases d2 : b0 / 16 = 14 ∧ (1 < n ∧ b1 / 64 = 2) ∧ (2 < n ∧ b2 / 64 = 2)
      · rw [if_pos d2] at hb ⊢
        split at hb
        · rename_i e
          rw [if_pos e]
          refine ⟨.inr (by omega), by simp only; omega, fun _ => d2.2.1.2, fun _ => d2.2.2.2, by simp only; omega, by simp only; omega, fun m hm h c1 c2 c3 => ?_⟩
          simp only at h
          rw [if_neg d0, if_neg (by omega), if_neg (by omega), if_neg (by omega)]
          exact ⟨rfl, rfl⟩
        · exact absurd ⟨rfl, rfl⟩ hb
      · rw [if_neg d2] at hb ⊢
        by_cases d3 : b0 / 8 = 30 ∧ (1 < n ∧ b1 / 64 = 2) ∧ (2 < n ∧ b2 / 64 = 2) ∧ (3 < n ∧ b3 / 64 = 2)
        · rw [if_pos d3] at hb ⊢
          split at hb
          · rename_i e
            rw [if_pos e]
            refine ⟨.inr (by omega), by simp only; omega, fun _ => d3.2.1.2, fun _ => d3.2.2.1.2, fun _ => d3.2.2.2.2, by simp only; omega, fun m hm h c1 c2 c3 => ?_⟩
            simp only at h
            rw [if_neg d0, if_neg (by omega), if_neg (by omega), if_neg (by omega)]
            exact ⟨rfl, rfl⟩
          · exact absurd ⟨rfl, rfl⟩ hb
        · rw [if_neg d3] at hb
          exact absurd ⟨rfl, rfl⟩ hb
/-- A part that holds the whole first character decodes it alike. -/
theorem decodeN_cut (n m b0 b1 b2 b3 c1 c2 c3 : Nat) (h1 : 1 < m → c1 = b1) (h2 : 2 < m → c2 = b2) (h3 : 3 < m → c3 = b3) (hb : ¬ ((decodeN n b0 b1 b2 b3).1 = 65533 ∧ (decodeN n b0 b1 b2 b3).2 = 1)) (hm : (decodeN n b0 b1 b2 b3).2 ≤ m) :
    decodeN m b0 c1 c2 c3 = decodeN n b0 b1 b2 b3 := by
  unfold decodeN at hb hm ⊢
  by_cases d0 : b0 < 128
  · rw [if_pos d0, if_pos d0]
  · rw [if_neg d0] at hb hm
    rw [if_neg d0, if_neg d0]
    by_cases d1 : b0 / 32 = 6 ∧ (1 < n ∧ b1 / 64 = 2)
    · rw [if_pos d1] at hb hm ⊢
      split at hb
      · rename_i e
        rw [if_pos e] at hm
        simp only at hm
        have e1 := h1 (by omega)
        subst e1
        rw [if_pos ⟨d1.1, by omega, d1.2.2⟩]
      · exact absurd ⟨rfl, rfl⟩ hb
    · rw [if_neg d1] at hb hm ⊢
      by_cases d2 : b0 / 16 = 14 ∧ (1 < n ∧ b1 / 64 = 2) ∧ (2 < n ∧ b2 / 64 = 2)
      · rw [if_pos d2] at hb hm ⊢
        split at hb
        · rename_i e
          rw [if_pos e] at hm
          simp only at hm
          have e1 := h1 (by omega)
          have e2 := h2 (by omega)
          subst e1 e2
          rw [if_neg (by omega), if_pos ⟨d2.1, ⟨by omega, d2.2.1.2⟩, by omega, d2.2.2.2⟩]
        · exact absurd ⟨rfl, rfl⟩ hb
      · rw [if_neg d2] at hb hm ⊢
        by_cases d3 : b0 / 8 = 30 ∧ (1 < n ∧ b1 / 64 = 2) ∧ (2 < n ∧ b2 / 64 = 2) ∧ (3 < n ∧ b3 / 64 = 2)
        · rw [if_pos d3] at hb hm ⊢
          split at hb
          · rename_i e
            rw [if_pos e] at hm
            simp only at hm
            have e1 := h1 (by omega)
            have e2 := h2 (by omega)
            have e3 := h3 (by omega)
            subst e1 e2 e3
            rw [if_neg (by omega), if_neg (by omega), if_pos ⟨d3.1, ⟨by omega, d3.2.1.2⟩, ⟨by omega, d3.2.2.1.2⟩, by omega, d3.2.2.2.2⟩]
          · exact absurd ⟨rfl, rfl⟩ hb
        · rw [if_neg d3] at hb
          exact absurd ⟨rfl, rfl⟩ hb
theorem byte_lt (l : List UInt8) (i : Nat) : (l.getD i 0).toNat < 256 := (l.getD i 0).toNat_lt
theorem getD_take (l : List UInt8) (k i : Nat) (h : i < k) : (l.take k).getD i 0 = l.getD i 0 := by
  rw [List.getD_eq_getElem?_getD, List.getD_eq_getElem?_getD, List.getElem?_take, if_pos h]
theorem getD_drop (l : List UInt8) (k i : Nat) : (l.drop k).getD i 0 = l.getD (k + i) 0 := by
  rw [List.getD_eq_getElem?_getD, List.getD_eq_getElem?_getD, List.getElem?_drop]
/-- A text cut anywhere: both parts are texts just where a character begins. -/
theorem okL_cut : ∀ (n : Nat) (l : List UInt8) (k : Nat), l.length ≤ n → k ≤ l.length → okL l = true → okL (l.take k) = startAt l k ∧ okL (l.drop k) = startAt l k
  | 0, l, k, hn, hk, h => by
    obtain rfl : l = [] := List.length_eq_zero_iff.1 (by omega)
    obtain rfl : k = 0 := by simpa using hk
    exact ⟨rfl, rfl⟩
  | n + 1, l, k, hn, hk, h => by
    by_cases hne : l = []
    · subst hne
      obtain rfl : k = 0 := by simpa using hk
      exact ⟨rfl, rfl⟩
    · have hl : 0 < l.length := List.length_pos_iff.2 hne
      have hw := decodeL_width l
      have hle := decodeL_le l hne
      have hst := okL_step l hne
      rw [hst] at h
      by_cases hb : bad l ∨ ctl (decodeL l).1 = true
      · rw [if_pos hb] at h; cases h
      · rw [if_neg hb] at h
        have hnb : ¬ bad l := fun h => hb (.inl h)
        have hW := whole l.length _ _ _ _ (byte_lt l 0) (byte_lt l 1) (byte_lt l 2) (byte_lt l 3) hl (by unfold bad at hnb; rw [decodeL_N] at hnb; exact hnb)
        rw [← decodeL_N] at hW
        obtain ⟨w0, w1, w2, w3, w4, w5, w6⟩ := hW
        by_cases k0 : k = 0
        · subst k0
          have hs : startAt l 0 = true := by
            unfold startAt
            rcases w0 with w0 | w0
            · rw [decide_eq_true w0]; simp
            · rw [decide_eq_true w0]; simp
          rw [hs, List.take_zero, List.drop_zero, hst, if_neg hb]
          exact ⟨rfl, h⟩
        · by_cases kw : k < (decodeL l).2
          · -- inside a character
            have hc : (l.getD k 0).toNat / 64 = 2 := by
              have : k = 1 ∨ k = 2 ∨ k = 3 := by omega
              rcases this with rfl | rfl | rfl
              · exact w2 kw
              · exact w3 kw
              · exact w4 kw
            have hs : startAt l k = false := by
              unfold startAt
              rw [decide_eq_false (by omega), decide_eq_false (by omega), decide_eq_false (by omega)]
              rfl
            rw [hs]
            constructor
            · have hne' : l.take k ≠ [] := fun he => by
                have := congrArg List.length he
                rw [List.length_take] at this
                simp only [List.length_nil] at this
                omega
              rw [okL_step _ hne', if_pos (Or.inl ?_)]
              unfold bad
              rw [decodeL_N, List.length_take, Nat.min_eq_left hk, getD_take l k 0 (by omega)]
              exact w6 k (by omega) kw _ _ _
            · have hne' : l.drop k ≠ [] := fun he => by
                have := congrArg List.length he
                rw [List.length_drop] at this
                simp only [List.length_nil] at this
                omega
              rw [okL_step _ hne', if_pos (Or.inl ?_)]
              unfold bad
              rw [decodeL_N, getD_drop, Nat.add_zero]
              generalize (l.getD k 0).toNat = b at hc
              unfold decodeN
              rw [if_neg (by omega), if_neg (by omega), if_neg (by omega), if_neg (by omega)]
              exact ⟨rfl, rfl⟩
          · -- behind it
            have ih := okL_cut n (l.drop (decodeL l).2) (k - (decodeL l).2) (by rw [List.length_drop]; omega) (by rw [List.length_drop]; omega) h
            have hs : startAt (l.drop (decodeL l).2) (k - (decodeL l).2) = startAt l k := by
              unfold startAt
              rw [getD_drop, List.length_drop, show (decodeL l).2 + (k - (decodeL l).2) = k by omega, decide_eq_decide.2 (show k - (decodeL l).2 = l.length - (decodeL l).2 ↔ k = l.length by omega)]
            rw [hs, List.drop_drop, show (decodeL l).2 + (k - (decodeL l).2) = k by omega] at ih
            refine ⟨?_, ih.2⟩
            have htk : l.take k = l.take (decodeL l).2 ++ (l.drop (decodeL l).2).take (k - (decodeL l).2) := by
              conv => lhs; rw [show k = (decodeL l).2 + (k - (decodeL l).2) by omega, List.take_add]
            have hne' : l.take k ≠ [] := fun he => by
              have := congrArg List.length he
              rw [List.length_take] at this
              simp only [List.length_nil] at this
              omega
            -- the first character of the part is that of the whole
            have hd : decodeL (l.take k) = decodeL l := by
              by_cases hbt : bad (l.take k)
              · exfalso
                unfold bad at hbt
                rw [decodeL_N, List.length_take, Nat.min_eq_left hk, getD_take l k 0 (by omega)] at hbt
                have hx := hnb
                unfold bad at hx
                rw [decodeL_N] at hx kw
                -- the bytes that the whole reads lie in the part
                have := decodeN_cut l.length k (l.getD 0 0).toNat (l.getD 1 0).toNat (l.getD 2 0).toNat (l.getD 3 0).toNat ((l.take k).getD 1 0).toNat ((l.take k).getD 2 0).toNat ((l.take k).getD 3 0).toNat (fun h => by rw [getD_take l k 1 h]) (fun h => by rw [getD_take l k 2 h]) (fun h => by rw [getD_take l k 3 h]) hx (by omega)
                rw [this] at hbt
                exact hx hbt
              · have := decodeL_append (l.take k) (l.drop k) hne' hbt
                rw [List.take_append_drop] at this
                exact this.symm
            rw [okL_step _ hne', hd, if_neg (by unfold bad; rw [hd]; exact hb)]
            rw [show (l.take k).drop (decodeL l).2 = (l.drop (decodeL l).2).take (k - (decodeL l).2) from List.drop_take ..]
            exact ih.1
end Go.Proofs.YtpaopeiegaijiaaGreatDoor
