/- TokenChecks, the plain law. -/
import Derived.Test.YtpedfpeokedelaaDoorXTokenChecksx2
import Derived.Test.YtpedfpeokedelaaDoorTp
namespace Go.Proofs.YtpedfpeokedelaaDoor.PureTokenChecks
open Go.RowKit Go.Lib Go.Proofs.YtpedfpeokedelaaDoor.XTokenChecks Go.Proofs.YtpedfpeokedelaaDoorW.PrintWords Go.Proofs.YtpedfpeokedelaaDoorW.PrintLast Go.Proofs.YtpedfpeokedelaaDoorW.PrintMore
set_option maxRecDepth 100000
set_option linter.unusedSimpArgs false
theorem dec_f (n : Nat) (h : n < 18446744073709551616) : char_Decimal.f (n : Int) = some ⟨(decDigits n).toArray⟩ := by
  unfold char_Decimal.f
  rw [if_pos ⟨by omega, by omega⟩, Int.toNat_natCast]
theorem right_f (b a : Int) : token_right.f b a = some (decide (1 ≤ b ∧ b ≤ a ∧ a ≤ 4611686018427387904)) := by
  unfold token_right.f
  by_cases h1 : b ≥ 1
  · rw [if_pos h1]
    by_cases h2 : a ≥ b
    · rw [if_pos h2]
      exact congrArg some (decide_eq_decide.2 ⟨fun h => ⟨h1, h2, h⟩, fun h => h.2.2⟩)
    · rw [if_neg h2, decide_eq_false (fun h => h2 h.2.1)]
  · rw [if_neg h1, decide_eq_false (fun h => h1 h.1)]
theorem print_ok (b a : Nat) (h : Right b a) : token_Print.f (b : Int) (a : Int) = some ⟨(tokS b a).toArray⟩ := by
  have h' := h
  unfold Right most at h'
  have e1 : IntKind.u64.wrap (b : Int) = (b : Int) := by rw [IntKind.wrap_u64]; omega
  have e2 : IntKind.u64.wrap (a : Int) = (a : Int) := by rw [IntKind.wrap_u64]; omega
  have l1 := dec_len b (by omega)
  have l2 := dec_len a (by omega)
  unfold token_Print.f
  rw [right_f, decide_eq_true (by omega), e1, e2, dec_f b (by omega), dec_f a (by omega)]
  simp only [Option.bind_some, if_true]
  rw [if_pos (by simp [ByteArray.size]; omega), if_pos (by simp [ByteArray.size]; omega), if_pos (by simp [ByteArray.size]; omega)]
  congr 1
  apply ByteArray.ext
  apply Array.toList_inj.1
  simp [tokS, scheme]
theorem print_no (b a : Int) (h : ¬ (1 ≤ b ∧ b ≤ a ∧ a ≤ 4611686018427387904)) : token_Print.f b a = some ⟨#[]⟩ := by
  unfold token_Print.f
  rw [right_f, decide_eq_false h]
  rfl
theorem num_f (s : ByteArray) (h : s.size ≤ 281474976710656) : char_Number.f s 4611686018427387904 = some (((numV s most).1 : Int), (numV s most).2) := by
  unfold char_Number.f
  rw [if_pos ⟨h, by omega, by omega⟩]
  rfl
theorem tok_cut (b a : Nat) : cut (decDigits b ++ 46 :: decDigits a) [46] = (decDigits b, decDigits a, true) := cut_dot _ _ (dec_dig b)
theorem parse_f (s : ByteArray) (hs : s.size ≤ 281474976710656) :
    (∃ b a : Nat, Right b a ∧ s.data.toList = tokS b a ∧ token_Parse.f s = some ((b : Int), (a : Int), 0)) ∨ ((∀ b a, Right b a → s.data.toList ≠ tokS b a) ∧ token_Parse.f s = some (0, 0, 110)) := by
  have hsz := size_eq s
  obtain ⟨l, hl⟩ : ∃ l, s.data.toList = l := ⟨_, rfl⟩
  rw [hl] at hsz ⊢
  obtain ⟨R, hR⟩ : ∃ R, trimPrefix l scheme = R := ⟨_, rfl⟩
  have hRl : R.length ≤ l.length := by
    rw [← hR, trimPrefix]
    split
    · rw [List.length_drop]; omega
    · omega
  have hcp : strings_CutPrefix.f s (⟨#[117, 114, 110, 58, 99, 97, 108, 101, 112, 105, 110, 58]⟩ : ByteArray) = some (⟨R.toArray⟩, hasPrefix l scheme) := by
    unfold strings_CutPrefix.f
    rw [hl, ← hR]
    rfl
  have hct : strings_Cut.f ⟨R.toArray⟩ (⟨#[46]⟩ : ByteArray) = some (⟨(cut R [46]).1.toArray⟩, ⟨(cut R [46]).2.1.toArray⟩, (cut R [46]).2.2) := by
    unfold strings_Cut.f
    rw [if_pos ⟨by simp [ByteArray.size]; omega, rfl⟩]
  unfold token_Parse.f
  rw [hcp]
  simp only [Option.bind_some]
  rw [hct]
  simp only [Option.bind_some]
  have hlen : (cut R [46]).1.length ≤ R.length ∧ (cut R [46]).2.1.length ≤ R.length := by
    rcases cut_split R with ⟨x, y, e1, _, e2⟩ | ⟨_, e2⟩
    · rw [e2, e1]; simp; omega
    · rw [e2]; simp
  rw [num_f _ (by simp [ByteArray.size]; omega)]
  simp only [Option.bind_some]
  rw [num_f _ (by simp [ByteArray.size]; omega)]
  simp only [Option.bind_some]
  by_cases hp : hasPrefix l scheme = true
  · rw [if_pos hp]
    have hlR : l = scheme ++ R := by
      rw [← hR, trimPrefix, if_pos hp]
      obtain ⟨z, hz⟩ := List.isPrefixOf_iff_prefix.1 hp
      rw [← hz]
      simp
    have hne : ∀ b a, l = tokS b a → R = decDigits b ++ 46 :: decDigits a := fun b a h => by
      rw [hlR, tokS] at h
      exact List.append_cancel_left h
    rcases cut_split R with ⟨x, y, e1, _, e2⟩ | ⟨e1, e2⟩
    · rw [e2]
      simp only [if_true]
      have hxy : ∀ b a, l = tokS b a → x = decDigits b ∧ y = decDigits a := fun b a h => by
        have h2 := tok_cut b a
        rw [← hne b a h, e2] at h2
        simp only [Prod.mk.injEq] at h2
        exact ⟨h2.1, h2.2.1⟩
      rcases numV_o ⟨x.toArray⟩ most (by unfold most; omega) with ⟨n, hn, hx, hv⟩ | ⟨hx, hv⟩
      · rw [hv]
        simp only [if_true]
        rcases numV_o ⟨y.toArray⟩ most (by unfold most; omega) with ⟨m, hm, hy, hw⟩ | ⟨hy, hw⟩
        · rw [hw]
          simp only [if_true]
          simp only at hx hy
          unfold most at hn hm
          have w1 : wrap64 (n : Int) = (n : Int) := by unfold wrap64; omega
          have w2 : wrap64 (m : Int) = (m : Int) := by unfold wrap64; omega
          rw [w1, w2, right_f]
          simp only [Option.bind_some]
          by_cases hr : Right n m
          · left
            have hr' := hr
            unfold Right most at hr'
            rw [decide_eq_true (by omega)]
            refine ⟨n, m, hr, ?_, by simp⟩
            rw [hlR, e1, hx, hy, tokS]
          · right
            have hr' := hr
            unfold Right most at hr'
            rw [decide_eq_false (by omega)]
            refine ⟨fun b a h1 h2 => hr ?_, by simp⟩
            obtain ⟨q1, q2⟩ := hxy b a h2
            rw [dec_inj (hx.symm.trans q1), dec_inj (hy.symm.trans q2)]
            exact h1
        · right
          rw [hw]
          refine ⟨fun b a h1 h2 => ?_, by simp⟩
          have h1' := h1
          unfold Right at h1'
          exact hy a (by omega) (hxy b a h2).2
      · right
        rw [hv]
        refine ⟨fun b a h1 h2 => ?_, by simp⟩
        have h1' := h1
        unfold Right at h1'
        exact hx b (by omega) (hxy b a h2).1
    · right
      rw [e2]
      refine ⟨fun b a _ h2 => ?_, by simp⟩
      have := hne b a h2
      exact e1 46 (by rw [this]; simp) rfl
  · right
    rw [if_neg hp]
    refine ⟨fun b a _ h2 => hp ?_, rfl⟩
    rw [h2, tokS]
    exact List.isPrefixOf_iff_prefix.2 ⟨_, rfl⟩
theorem tok_inj {b a b' a' : Nat} (h : tokS b a = tokS b' a') : b = b' ∧ a = a' := by
  have h1 : decDigits b ++ 46 :: decDigits a = decDigits b' ++ 46 :: decDigits a' := List.append_cancel_left h
  have h2 := tok_cut b a
  rw [h1, tok_cut] at h2
  simp only [Prod.mk.injEq] at h2
  exact ⟨(dec_inj h2.1).symm, (dec_inj h2.2.1).symm⟩
theorem parse_tok (b a : Nat) (s : ByteArray) (hs : s.size ≤ 281474976710656) (hl : s.data.toList = tokS b a) : token_Parse.f s = if Right b a then some ((b : Int), (a : Int), 0) else some (0, 0, 110) := by
  rcases parse_f s hs with ⟨b', a', h1, h2, h3⟩ | ⟨h1, h2⟩
  · obtain ⟨rfl, rfl⟩ := tok_inj (hl.symm.trans h2)
    rw [if_pos h1, h3]
  · rw [if_neg (fun h => h1 b a h hl), h2]
theorem tok317 : tokS 3 17 = [117, 114, 110, 58, 99, 97, 108, 101, 112, 105, 110, 58, 51, 46, 49, 55] := by
  rw [tokS, decDigits_one (by omega), decDigits_two (by omega) (by omega)]
  rfl
theorem tok32 : tokS 3 2 = [117, 114, 110, 58, 99, 97, 108, 101, 112, 105, 110, 58, 51, 46, 50] := by
  rw [tokS, decDigits_one (by omega), decDigits_one (by omega)]
  rfl
theorem first_k : calepinlaw11_first.f = some true := by
  unfold calepinlaw11_first.f
  rw [parse_tok 3 17 _ (by decide) tok317.symm, if_pos (by unfold Right most; omega)]
  simp only [Option.bind_some]
  rw [parse_tok 3 2 _ (by decide) tok32.symm, if_neg (by unfold Right; omega)]
  simp only [Option.bind_some]
  have hp := print_ok 3 17 (by unfold Right most; omega)
  simp only [Int.cast_ofNat_Int] at hp
  rw [if_pos (by rfl), if_pos trivial, if_pos trivial]
  rw [show (((3 : Nat) : Int)) = 3 from rfl, show (((17 : Nat) : Int)) = 17 from rfl, hp, tok317]
  simp only [Option.bind_some]
  rw [toList_data]
  rfl
theorem check_f (b a bk e0 e1 : Int) : token_Check.f b a bk e0 e1 = some (if b = bk ∧ e0 ≤ a ∧ a ≤ e1 then 0 else 110) := by
  unfold token_Check.f
  by_cases h1 : b = bk
  · rw [if_pos h1]
    by_cases h2 : a < e0
    · rw [if_pos h2, if_neg (by omega)]
    · rw [if_neg h2]
      by_cases h3 : a > e1
      · rw [if_pos h3, if_neg (by omega)]
      · rw [if_neg h3, if_pos ⟨h1, by omega, by omega⟩]
  · rw [if_neg h1, if_neg (fun h => h1 h.1)]
end Go.Proofs.YtpedfpeokedelaaDoor.PureTokenChecks
