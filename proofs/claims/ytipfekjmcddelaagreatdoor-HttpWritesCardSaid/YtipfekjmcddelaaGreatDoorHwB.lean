/- HttpWrites, the plain law, part B. -/
import Derived.Test.YtipfekjmcddelaaGreatDoorHwA
namespace Go.Proofs.YtipfekjmcddelaaGreatDoor.PureHttpWrites
open Go.RowKit Go.Lib Go.Proofs.YtipfekjmcddelaaGreatDoor.XHttpWrites Go.Proofs.YtipfekjmcddelaaGreatDoorW.zgo Go.Proofs.YtipfekjmcddelaaGreatDoorW.zgp Go.Proofs.YtipfekjmcddelaaGreatDoorW.zgq
set_option maxRecDepth 100000
set_option linter.unusedSimpArgs false
theorem zei (c : UInt8) : blank.contains c = true ↔ (c.toNat : Int) = 32 ∨ (c.toNat : Int) = 9 := by
  rw [blank_yes]
  constructor
  · rintro (rfl | rfl)
    · exact .inl rfl
    · exact .inr rfl
  · rintro (h | h)
    · exact .inl (UInt8.toNat_inj.1 (by show c.toNat = 32; omega))
    · exact .inr (UInt8.toNat_inj.1 (by show c.toNat = 9; omega))
theorem reftrim_l1 : ∀ (n : Nat) (l : List UInt8) (k : Nat), l.length = n → n ≤ 281474976710656 → n + 1 ≤ k → (∀ c, l.head? = some c → blank.contains c = false) →
    zax.l1 k ⟨l.toArray⟩ = some ⟨(trimS l blank).toArray⟩ := by
  intro n
  induction n with
  | zero =>
    intro l k hl _ hk _
    obtain ⟨k, rfl⟩ : ∃ k', k = k' + 1 := ⟨k - 1, by omega⟩
    obtain rfl : l = [] := List.length_eq_zero_iff.1 hl
    rfl
  | succ n ih =>
    intro l k hl hn hk hh
    obtain ⟨k, rfl⟩ : ∃ k', k = k' + 1 := ⟨k - 1, by omega⟩
    have hz : (⟨l.toArray⟩ : ByteArray).size = n + 1 := by rw [size_eq, mk_l, hl]
    have hw : wrap64 (((n + 1 : Nat) : Int) - 1) = ((n : Nat) : Int) := by unfold wrap64; omega
    have hlt : n < (⟨l.toArray⟩ : ByteArray).data.toList.length := by rw [mk_l]; omega
    have hb := zfz ⟨l.toArray⟩ n hlt
    have hlast : l = l.take n ++ [(⟨l.toArray⟩ : ByteArray).data.toList[n]] := by
      have := List.take_succ_eq_append_getElem (l := l) (i := n) (by omega)
      rw [List.take_of_length_le (by omega)] at this
      exact this
    generalize (⟨l.toArray⟩ : ByteArray).data.toList[n] = c at hb hlast
    rw [zax.l1, hz, if_pos (by omega), hw, if_pos (by omega), if_pos (by omega), hb]
    by_cases h : blank.contains c = true
    · have hx : (⟨l.toArray⟩ : ByteArray).extract 0 n = ⟨(l.take n).toArray⟩ := by rw [zet, List.drop_zero, Nat.sub_zero]
      have hnext := ih (l.take n) k (by rw [List.length_take]; omega) (by omega) (by omega) (by
        intro d hd
        refine hh d ?_
        rw [hlast, List.head?_append, hd]
        rfl)
      have e : trimS l blank = trimS (l.take n) blank := by
        conv => lhs; rw [hlast]
        exact trim_snoc h _
      rcases (zei _).1 h with h1 | h1
      · rw [if_pos h1, if_pos (by omega), Int.toNat_natCast, hx, hnext, e]
      · rw [if_neg (by omega), if_pos h1, if_pos (by omega), Int.toNat_natCast, hx, hnext, e]
    · have hn1 : ¬ (c.toNat : Int) = 32 := fun h1 => h ((zei _).2 (.inl h1))
      have hn2 : ¬ (c.toNat : Int) = 9 := fun h1 => h ((zei _).2 (.inr h1))
      rw [if_neg hn1, if_neg hn2, trim_id hh]
      intro d hd
      rw [hlast, List.getLast?_concat] at hd
      rw [← Option.some.inj hd]
      exact Bool.eq_false_iff.2 h
theorem reftrim : ∀ (l : List UInt8) (k : Nat), l.length ≤ 281474976710656 → 2 * l.length + 4 ≤ k → zax.f k ⟨l.toArray⟩ = some ⟨(trimS l blank).toArray⟩
  | [], k, _, hk => by
    obtain ⟨k, rfl⟩ : ∃ k', k = k' + 3 := ⟨k - 3, by simp at hk; omega⟩
    rfl
  | c :: l, k, hl, hk => by
    simp only [List.length_cons] at hl hk
    obtain ⟨k, rfl⟩ : ∃ k', k = k' + 2 := ⟨k - 2, by omega⟩
    have hz : (⟨(c :: l).toArray⟩ : ByteArray).size = l.length + 1 := by rw [size_eq, mk_l]; rfl
    have hb : bt ⟨(c :: l).toArray⟩ 0 = (c.toNat : Int) := zfz ⟨(c :: l).toArray⟩ 0 (by rw [mk_l]; simp)
    have ih := reftrim l (k + 1) (by omega) (by omega)
    unfold zax.f at ih ⊢
    have hx : (⟨(c :: l).toArray⟩ : ByteArray).extract 1 (l.length + 1) = ⟨l.toArray⟩ := by
      rw [zet, mk_l, List.drop_one, List.tail_cons, List.take_of_length_le (by omega)]
    rw [zax.l0, hz, if_pos (by omega), if_pos (by omega), hb]
    by_cases h : blank.contains c = true
    · rw [zfc h]
      rcases (zei _).1 h with h1 | h1
      · rw [if_pos h1, if_pos (by omega), hx, ih]
      · rw [if_neg (by omega), if_pos h1, if_pos (by omega), hx, ih]
    · have hn1 : ¬ (c.toNat : Int) = 32 := fun h1 => h ((zei _).2 (.inl h1))
      have hn2 : ¬ (c.toNat : Int) = 9 := fun h1 => h ((zei _).2 (.inr h1))
      rw [if_neg hn1, if_neg hn2, zax.j1]
      exact reftrim_l1 (l.length + 1) (c :: l) k rfl hl (by omega) (by intro d hd; cases hd; exact Bool.eq_false_iff.2 h)
theorem refrange_l (s : ByteArray) (a b : Nat) (tab : Bool) (hs : s.size ≤ 281474976710656) : ∀ (j k i : Nat), i + j = s.data.toList.length → j + 1 ≤ k →
    zaw.l0 k s (a : Int) (b : Int) tab (i : Int) = some ((s.data.toList.drop i).all fun c => (tab && c == 9) || (decide (a ≤ c.toNat) && decide (c.toNat ≤ b))) := by
  have hsz := size_eq s
  intro j
  induction j with
  | zero =>
    intro k i hi hk
    obtain ⟨k, rfl⟩ : ∃ k', k = k' + 1 := ⟨k - 1, by omega⟩
    rw [zaw.l0, if_neg (by omega), List.drop_of_length_le (by omega)]
    rfl
  | succ j ih =>
    intro k i hi hk
    obtain ⟨k, rfl⟩ : ∃ k', k = k' + 1 := ⟨k - 1, by omega⟩
    have hlt : i < s.data.toList.length := by omega
    have hb := zfz s i hlt
    have hd := List.drop_eq_getElem_cons hlt
    have hwi : wrap64 ((i : Int) + 1) = ((i + 1 : Nat) : Int) := by unfold wrap64; omega
    have h9 : ((s.data.toList[i] == 9) = true) ↔ ((s.data.toList[i]).toNat : Int) = 9 := by
      rw [beq_iff_eq]
      constructor
      · intro h; rw [h]; rfl
      · intro h; exact UInt8.toNat_inj.1 (by show _ = 9; omega)
    rw [zaw.l0, if_pos (by omega), if_pos (by omega), hb, hd, List.all_cons, hwi, ih k (i + 1) (by omega) (by omega)]
    generalize (s.data.toList.drop (i + 1)).all (fun c => (tab && c == 9) || (decide (a ≤ c.toNat) && decide (c.toNat ≤ b))) = X
    generalize s.data.toList[i] = c at h9 ⊢
    by_cases h1 : a ≤ c.toNat
    · rw [if_neg (by omega)]
      by_cases h2 : c.toNat ≤ b
      · rw [if_neg (by omega), decide_eq_true h1, decide_eq_true h2]
        simp
      · rw [if_pos (by omega), decide_eq_false h2]
        cases tab with
        | true =>
          rw [if_pos rfl]
          by_cases h3 : (c.toNat : Int) = 9
          · rw [if_pos h3, h9.2 h3]; simp
          · rw [if_neg h3, Bool.eq_false_iff.2 (fun h => h3 (h9.1 h))]; simp
        | false => rw [if_neg (by simp)]; simp
    · rw [if_pos (by omega), decide_eq_false h1]
      cases tab with
      | true =>
        rw [if_pos rfl]
        by_cases h3 : (c.toNat : Int) = 9
        · rw [if_pos h3, h9.2 h3]; simp
        · rw [if_neg h3, Bool.eq_false_iff.2 (fun h => h3 (h9.1 h))]; simp
      | false => rw [if_neg (by simp)]; simp
theorem refrange (l : List UInt8) (a b : Nat) (tab : Bool) (hs : l.length ≤ 281474976710656) (k : Nat) (hk : l.length + 1 ≤ k) (a' b' : Int) (ha : a' = a) (hb : b' = b) :
    zaw.f k ⟨l.toArray⟩ a' b' tab = some (l.all fun c => (tab && c == 9) || (decide (a ≤ c.toNat) && decide (c.toNat ≤ b))) := by
  subst ha hb
  exact refrange_l ⟨l.toArray⟩ a b tab (by rw [size_eq, mk_l]; exact hs) l.length k 0 (by rw [mk_l]; omega) hk
theorem nameC_num (c : UInt8) : nameC c = true ↔ (97 ≤ c.toNat ∧ c.toNat ≤ 122) ∨ (65 ≤ c.toNat ∧ c.toNat ≤ 90) ∨ (48 ≤ c.toNat ∧ c.toNat ≤ 57) ∨ c.toNat = 45 := by
  unfold nameC noName
  simp only [Bool.not_not, Bool.or_eq_true, Bool.and_eq_true, decide_eq_true_eq, beq_iff_eq]
  omega
theorem refname_l (s : ByteArray) (hs : s.size ≤ 281474976710656) : ∀ (j k i : Nat), i + j = s.data.toList.length → j + 1 ≤ k →
    zay.l0 k s (i : Int) = some ((s.data.toList.drop i).all nameC && (decide (0 < s.size) && decide (s.size < 65))) := by
  have hsz := size_eq s
  intro j
  induction j with
  | zero =>
    intro k i hi hk
    obtain ⟨k, rfl⟩ : ∃ k', k = k' + 1 := ⟨k - 1, by omega⟩
    rw [zay.l0, if_neg (by omega), List.drop_of_length_le (by omega)]
    by_cases h : 0 < s.size
    · rw [if_pos (by omega), decide_eq_true h, show decide ((s.size : Int) < 65) = decide (s.size < 65) from decide_eq_decide.2 (by omega)]
      simp
    · rw [if_neg (by omega), decide_eq_false h]
      simp
  | succ j ih =>
    intro k i hi hk
    obtain ⟨k, rfl⟩ : ∃ k', k = k' + 1 := ⟨k - 1, by omega⟩
    have hlt : i < s.data.toList.length := by omega
    have hb := zfz s i hlt
    have hd := List.drop_eq_getElem_cons hlt
    have hwi : wrap64 ((i : Int) + 1) = ((i + 1 : Nat) : Int) := by unfold wrap64; omega
    have hN := nameC_num s.data.toList[i]
    rw [zay.l0, if_pos (by omega), if_pos (by omega), hb, hd, List.all_cons, hwi, ih k (i + 1) (by omega) (by omega), Bool.and_assoc]
    generalize ((s.data.toList.drop (i + 1)).all nameC && (decide (0 < s.size) && decide (s.size < 65))) = X
    generalize s.data.toList[i] = c at hN ⊢
    by_cases h : nameC c = true
    · rw [h, Bool.true_and]
      have h' := hN.1 h
      repeat' split
      all_goals first | rfl | (exfalso; omega)
    · rw [Bool.eq_false_iff.2 h, Bool.false_and]
      have h' := fun z => h (hN.2 z)
      repeat' split
      all_goals first | rfl | (exfalso; exact h' (by omega))
theorem refname (l : List UInt8) (hs : l.length ≤ 281474976710656) (k : Nat) (hk : l.length + 1 ≤ k) : zay.f k ⟨l.toArray⟩ = some (nameV ⟨l.toArray⟩) := by
  have hz : (⟨l.toArray⟩ : ByteArray).size = l.length := by rw [size_eq, mk_l]
  have h := refname_l ⟨l.toArray⟩ (by rw [hz]; exact hs) l.length k 0 (by rw [mk_l]; omega) hk
  unfold zay.f
  rw [show (0 : Int) = ((0 : Nat) : Int) from rfl, h, mk_l, hz, List.drop_zero]
  congr 1
  rw [Bool.eq_iff_iff, zfe, mk_l]
  simp only [Bool.and_eq_true, List.all_eq_true, decide_eq_true_eq]
  constructor
  · rintro ⟨h1, h2, h3⟩
    exact ⟨List.length_pos_iff.1 h2, by omega, h1⟩
  · rintro ⟨h1, h2, h3⟩
    exact ⟨h3, List.length_pos_iff.2 h1, by omega⟩
end Go.Proofs.YtipfekjmcddelaaGreatDoor.PureHttpWrites
