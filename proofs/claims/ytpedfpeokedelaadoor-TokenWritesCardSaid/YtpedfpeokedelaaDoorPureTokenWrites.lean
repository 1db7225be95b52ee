/- TokenWrites, the plain law. -/
import Derived.Test.YtpedfpeokedelaaDoorXTokenWritesx3
import Derived.Test.YtpedfpeokedelaaDoorTp
namespace Go.Proofs.YtpedfpeokedelaaDoor.PureTokenWrites
open Go.RowKit Go.Lib Go.Proofs.YtpedfpeokedelaaDoor.XTokenWrites Go.Proofs.YtpedfpeokedelaaDoorW.PrintWords Go.Proofs.YtpedfpeokedelaaDoorW.PrintLast Go.Proofs.YtpedfpeokedelaaDoorW.PrintMore
set_option maxRecDepth 100000
set_option linter.unusedSimpArgs false
theorem dec_f (n : Nat) (h : n < 18446744073709551616) : char_Decimal.f (n : Int) = some ⟨(decDigits n).toArray⟩ := by
  unfold char_Decimal.f
  rw [if_pos ⟨by omega, by omega⟩, Int.toNat_natCast]
theorem right_f (b a : Int) : token_right.f b a = some (decide (1 ≤ b ∧ b ≤ a ∧ a ≤ 4611686018427387904)) := by
  unfold token_right.f
  by_cases h1 : b ≥ 1
  · rw [if_pos h1]
    by_cases h2 : a ≥ b
    · rw [if_pos h2]
      exact congrArg some (decide_eq_decide.2 ⟨fun h => ⟨h1, h2, h⟩, fun h => h.2.2⟩)
    · rw [if_neg h2, decide_eq_false (fun h => h2 h.2.1)]
  · rw [if_neg h1, decide_eq_false (fun h => h1 h.1)]
theorem print_ok (b a : Nat) (h : Right b a) : token_Print.f (b : Int) (a : Int) = some ⟨(tokS b a).toArray⟩ := by
  have h' := h
  unfold Right most at h'
  have e1 : IntKind.u64.wrap (b : Int) = (b : Int) := by rw [IntKind.wrap_u64]; omega
  have e2 : IntKind.u64.wrap (a : Int) = (a : Int) := by rw [IntKind.wrap_u64]; omega
  have l1 := dec_len b (by omega)
  have l2 := dec_len a (by omega)
  unfold token_Print.f
  rw [right_f, decide_eq_true (by omega), e1, e2, dec_f b (by omega), dec_f a (by omega)]
  simp only [Option.bind_some, if_true]
  rw [if_pos (by simp [ByteArray.size]; omega), if_pos (by simp [ByteArray.size]; omega), if_pos (by simp [ByteArray.size]; omega)]
  congr 1
  apply ByteArray.ext
  apply Array.toList_inj.1
  simp [tokS, scheme]
theorem print_no (b a : Int) (h : ¬ (1 ≤ b ∧ b ≤ a ∧ a ≤ 4611686018427387904)) : token_Print.f b a = some ⟨#[]⟩ := by
  unfold token_Print.f
  rw [right_f, decide_eq_false h]
  rfl
theorem num_f (s : ByteArray) (h : s.size ≤ 281474976710656) : char_Number.f s 4611686018427387904 = some (((numV s most).1 : Int), (numV s most).2) := by
  unfold char_Number.f
  rw [if_pos ⟨h, by omega, by omega⟩]
  rfl
theorem tok_cut (b a : Nat) : cut (decDigits b ++ 46 :: decDigits a) [46] = (decDigits b, decDigits a, true) := cut_dot _ _ (dec_dig b)
theorem parse_f (s : ByteArray) (hs : s.size ≤ 281474976710656) :
    (∃ b a : Nat, Right b a ∧ s.data.toList = tokS b a ∧ token_Parse.f s = some ((b : Int), (a : Int), 0)) ∨ ((∀ b a, Right b a → s.data.toList ≠ tokS b a) ∧ token_Parse.f s = some (0, 0, 110)) := by
  have hsz := size_eq s
  obtain ⟨l, hl⟩ : ∃ l, s.data.toList = l := ⟨_, rfl⟩
  rw [hl] at hsz ⊢
  obtain ⟨R, hR⟩ : ∃ R, trimPrefix l scheme = R := ⟨_, rfl⟩
  have hRl : R.length ≤ l.length := by
    rw [← hR, trimPrefix]
    split
    · rw [List.length_drop]; omega
    · omega
  have hcp : strings_CutPrefix.f s (⟨#[117, 114, 110, 58, 99, 97, 108, 101, 112, 105, 110, 58]⟩ : ByteArray) = some (⟨R.toArray⟩, hasPrefix l scheme) := by
    unfold strings_CutPrefix.f
    rw [hl, ← hR]
    rfl
  have hct : strings_Cut.f ⟨R.toArray⟩ (⟨#[46]⟩ : ByteArray) = some (⟨(cut R [46]).1.toArray⟩, ⟨(cut R [46]).2.1.toArray⟩, (cut R [46]).2.2) := by
    unfold strings_Cut.f
    rw [if_pos ⟨by simp [ByteArray.size]; omega, rfl⟩]
  unfold token_Parse.f
  rw [hcp]
  simp only [Option.bind_some]
  rw [hct]
  simp only [Option.bind_some]
  have hlen : (cut R [46]).1.length ≤ R.length ∧ (cut R [46]).2.1.length ≤ R.length := by
    rcases cut_split R with ⟨x, y, e1, _, e2⟩ | ⟨_, e2⟩
    · rw [e2, e1]; simp; omega
    · rw [e2]; simp
  rw [num_f _ (by simp [ByteArray.size]; omega)]
  simp only [Option.bind_some]
  rw [num_f _ (by simp [ByteArray.size]; omega)]
  simp only [Option.bind_some]
  by_cases hp : hasPrefix l scheme = true
  · rw [if_pos hp]
    have hlR : l = scheme ++ R := by
      rw [← hR, trimPrefix, if_pos hp]
      obtain ⟨z, hz⟩ := List.isPrefixOf_iff_prefix.1 hp
      rw [← hz]
      simp
    have hne : ∀ b a, l = tokS b a → R = decDigits b ++ 46 :: decDigits a := fun b a h => by
      rw [hlR, tokS] at h
      exact List.append_cancel_left h
    rcases cut_split R with ⟨x, y, e1, _, e2⟩ | ⟨e1, e2⟩
    · rw [e2]
      simp only [if_true]
      have hxy : ∀ b a, l = tokS b a → x = decDigits b ∧ y = decDigits a := fun b a h => by
        have h2 := tok_cut b a
        rw [← hne b a h, e2] at h2
        simp only [Prod.mk.injEq] at h2
        exact ⟨h2.1, h2.2.1⟩
      rcases numV_o ⟨x.toArray⟩ most (by unfold most; omega) with ⟨n, hn, hx, hv⟩ | ⟨hx, hv⟩
      · rw [hv]
        simp only [if_true]
        rcases numV_o ⟨y.toArray⟩ most (by unfold most; omega) with ⟨m, hm, hy, hw⟩ | ⟨hy, hw⟩
        · rw [hw]
          simp only [if_true]
          simp only at hx hy
          unfold most at hn hm
          have w1 : wrap64 (n : Int) = (n : Int) := by unfold wrap64; omega
          have w2 : wrap64 (m : Int) = (m : Int) := by unfold wrap64; omega
          rw [w1, w2, right_f]
          simp only [Option.bind_some]
          by_cases hr : Right n m
          · left
            have hr' := hr
            unfold Right most at hr'
            rw [decide_eq_true (by omega)]
            refine ⟨n, m, hr, ?_, by simp⟩
            rw [hlR, e1, hx, hy, tokS]
          · right
            have hr' := hr
            unfold Right most at hr'
            rw [decide_eq_false (by omega)]
            refine ⟨fun b a h1 h2 => hr ?_, by simp⟩
            obtain ⟨q1, q2⟩ := hxy b a h2
            rw [dec_inj (hx.symm.trans q1), dec_inj (hy.symm.trans q2)]
            exact h1
        · right
          rw [hw]
          refine ⟨fun b a h1 h2 => ?_, by simp⟩
          have h1' := h1
          unfold Right at h1'
          exact hy a (by omega) (hxy b a h2).2
      · right
        rw [hv]
        refine ⟨fun b a h1 h2 => ?_, by simp⟩
        have h1' := h1
        unfold Right at h1'
        exact hx b (by omega) (hxy b a h2).1
    · right
      rw [e2]
      refine ⟨fun b a _ h2 => ?_, by simp⟩
      have := hne b a h2
      exact e1 46 (by rw [this]; simp) rfl
  · right
    rw [if_neg hp]
    refine ⟨fun b a _ h2 => hp ?_, rfl⟩
    rw [h2, tokS]
    exact List.isPrefixOf_iff_prefix.2 ⟨_, rfl⟩
theorem tok_inj {b a b' a' : Nat} (h : tokS b a = tokS b' a') : b = b' ∧ a = a' := by
  have h1 : decDigits b ++ 46 :: decDigits a = decDigits b' ++ 46 :: decDigits a' := List.append_cancel_left h
  have h2 := tok_cut b a
  rw [h1, tok_cut] at h2
  simp only [Prod.mk.injEq] at h2
  exact ⟨(dec_inj h2.1).symm, (dec_inj h2.2.1).symm⟩
theorem parse_tok (b a : Nat) (s : ByteArray) (hs : s.size ≤ 281474976710656) (hl : s.data.toList = tokS b a) : token_Parse.f s = if Right b a then some ((b : Int), (a : Int), 0) else some (0, 0, 110) := by
  rcases parse_f s hs with ⟨b', a', h1, h2, h3⟩ | ⟨h1, h2⟩
  · obtain ⟨rfl, rfl⟩ := tok_inj (hl.symm.trans h2)
    rw [if_pos h1, h3]
  · rw [if_neg (fun h => h1 b a h hl), h2]
theorem tok317 : tokS 3 17 = [117, 114, 110, 58, 99, 97, 108, 101, 112, 105, 110, 58, 51, 46, 49, 55] := by
  rw [tokS, decDigits_one (by omega), decDigits_two (by omega) (by omega)]
  rfl
theorem tok32 : tokS 3 2 = [117, 114, 110, 58, 99, 97, 108, 101, 112, 105, 110, 58, 51, 46, 50] := by
  rw [tokS, decDigits_one (by omega), decDigits_one (by omega)]
  rfl
theorem first_k : calepinlaw11_first.f = some true := by
  unfold calepinlaw11_first.f
  rw [parse_tok 3 17 _ (by decide) tok317.symm, if_pos (by unfold Right most; omega)]
  simp only [Option.bind_some]
  rw [parse_tok 3 2 _ (by decide) tok32.symm, if_neg (by unfold Right; omega)]
  simp only [Option.bind_some]
  have hp := print_ok 3 17 (by unfold Right most; omega)
  simp only [Int.cast_ofNat_Int] at hp
  rw [if_pos (by rfl), if_pos trivial, if_pos trivial]
  rw [show (((3 : Nat) : Int)) = 3 from rfl, show (((17 : Nat) : Int)) = 17 from rfl, hp, tok317]
  simp only [Option.bind_some]
  rw [toList_data]
  rfl
theorem refDec (x : ByteArray) : ∀ (n k : Nat), n < 18446744073709551616 → nDigits n ≤ k → x.size + nDigits n ≤ 1000 →
    calepinref01_Decimal.l0 k (n : Int) x = some ⟨(decDigits n ++ x.data.toList).toArray⟩ := by
  intro n
  induction n using Nat.strongRecOn generalizing x with
  | _ n ih =>
    intro k hn hk hx
    have hnp := nDigits_pos n
    obtain ⟨k, rfl⟩ : ∃ k', k = k' + 1 := ⟨k - 1, by omega⟩
    have hmod : (IntKind.u64.wrap (48 + (Int.tmod (n : Int) 10))) % 256 = ((48 + n % 10 : Nat) : Int) := by
      rw [IntKind.wrap_u64, Int.tmod_eq_emod_of_nonneg (by omega)]; omega
    have hdiv : IntKind.u64.wrap (Int.tdiv (n : Int) 10) = ((n / 10 : Nat) : Int) := by
      rw [IntKind.wrap_u64, Int.tdiv_eq_ediv_of_nonneg (by omega)]; omega
    have hone : strOfNums [((48 + n % 10 : Nat) : Int)] ++ x = ⟨([UInt8.ofNat (48 + n % 10)] ++ x.data.toList).toArray⟩ := by
      apply ByteArray.ext
      apply Array.toList_inj.1
      simp only [ByteArray.data_append, Array.toList_append, strOfNums_data, List.map_cons, List.map_nil, Int.toNat_natCast]
    rw [calepinref01_Decimal.l0]
    simp only [Option.bind_some]
    rw [hmod, hdiv, hone, if_pos (by rw [strOfNums_size]; simp; omega)]
    by_cases h : n < 10
    · rw [if_pos (by omega), decDigits_one h, show n % 10 = n by omega]
    · rw [if_neg (by omega), ih (n / 10) (by omega) _ k (by omega) (by rw [nDigits_big h] at hk; omega) (by rw [nDigits_big h] at hx; rw [size_eq]; show ([_] ++ x.data.toList).length + _ ≤ _; rw [List.length_append, List.length_singleton, ← size_eq]; omega)]
      conv => rhs; rw [decDigits, dif_neg h]
      rw [List.append_assoc]
theorem dec_r (n : Nat) (h : n < 18446744073709551616) : calepinref01_Decimal.f 200 (n : Int) = some ⟨(decDigits n).toArray⟩ := by
  have hle := dec_len n h
  rw [decDigits_length] at hle
  have := refDec ⟨#[]⟩ n 200 h (by omega) (by show 0 + nDigits n ≤ 1000; omega)
  simpa [calepinref01_Decimal.f] using this
theorem rright_f (b a : Int) : calepinref11_Right.f b a = some (decide (1 ≤ b ∧ b ≤ a ∧ a ≤ 4611686018427387904)) := by
  unfold calepinref11_Right.f
  by_cases h1 : b > 0
  · rw [if_pos h1]
    by_cases h2 : b ≤ a
    · rw [if_pos h2]
      exact congrArg some (decide_eq_decide.2 ⟨fun h => ⟨h1, h2, h⟩, fun h => h.2.2⟩)
    · rw [if_neg h2, decide_eq_false (fun h => h2 h.2.1)]
  · rw [if_neg h1, decide_eq_false (fun h => h1 (by omega))]
theorem rprint_ok (b a : Nat) (h : Right b a) : calepinref11_Print.f 200 (b : Int) (a : Int) = some ⟨(tokS b a).toArray⟩ := by
  have h' := h
  unfold Right most at h'
  have e1 : IntKind.u64.wrap (b : Int) = (b : Int) := by rw [IntKind.wrap_u64]; omega
  have e2 : IntKind.u64.wrap (a : Int) = (a : Int) := by rw [IntKind.wrap_u64]; omega
  have l1 := dec_len b (by omega)
  have l2 := dec_len a (by omega)
  unfold calepinref11_Print.f
  rw [rright_f, decide_eq_true (by omega), e1, e2, dec_r b (by omega), dec_r a (by omega)]
  simp only [Option.bind_some, if_true]
  rw [if_pos (by simp [ByteArray.size]; omega), if_pos (by simp [ByteArray.size]; omega), if_pos (by simp [ByteArray.size]; omega)]
  congr 1
  apply ByteArray.ext
  apply Array.toList_inj.1
  simp [tokS, scheme]
theorem rprint_no (b a : Int) (h : ¬ (1 ≤ b ∧ b ≤ a ∧ a ≤ 4611686018427387904)) : calepinref11_Print.f 200 b a = some ⟨#[]⟩ := by
  unfold calepinref11_Print.f
  rw [rright_f, decide_eq_false h]
  rfl
theorem TokenWrites (b a : Int) : calepinlaw11_TokenWrites.f 200 b a = some true := by
  unfold calepinlaw11_TokenWrites.f
  rw [first_k]
  simp only [Option.bind_some, if_true]
  by_cases r1 : 1 ≤ b ∧ b ≤ a ∧ a ≤ 4611686018427387904
  · obtain ⟨n, rfl⟩ : ∃ n : Nat, b = n := ⟨b.toNat, by omega⟩
    obtain ⟨m, rfl⟩ : ∃ m : Nat, a = m := ⟨a.toNat, by omega⟩
    have R1 : Right n m := by unfold Right most; omega
    have l1 := dec_len n (by omega)
    have l2 := dec_len m (by omega)
    have hsz : (⟨(tokS n m).toArray⟩ : ByteArray).size ≤ 281474976710656 := by
      have hlen : (tokS n m).length ≤ 60 := by
        unfold tokS scheme
        simp only [List.length_append, List.length_cons, List.length_nil]
        omega
      rw [size_eq]
      show (tokS n m).length ≤ _
      omega
    have hne : tokS n m ≠ [] := fun h => by simp [tokS, scheme] at h
    rw [print_ok n m R1, rprint_ok n m R1]
    simp only [Option.bind_some]
    rw [if_pos trivial, parse_tok n m _ hsz rfl, if_pos R1]
    simp only [Option.bind_some]
    rw [toList_data, if_neg hne]
    simp
  · rw [print_no b a r1, rprint_no b a r1]
    simp only [Option.bind_some]
    have hp : token_Parse.f ⟨#[]⟩ = some (0, 0, 110) := by
      rcases parse_f ⟨#[]⟩ (by decide) with ⟨b', a', _, h2, _⟩ | ⟨_, h2⟩
      · exact absurd h2.symm (fun h => by simp [tokS, scheme] at h)
      · exact h2
    rw [if_pos trivial, hp]
    simp only [Option.bind_some]
    rw [toList_data]
    rfl
end Go.Proofs.YtpedfpeokedelaaDoor.PureTokenWrites
