/- TokenReads, the plain law. -/
import Derived.Test.YtpedfpeokedelaaDoorXTokenReadsx4
import Derived.Test.YtpedfpeokedelaaDoorTp
namespace Go.Proofs.YtpedfpeokedelaaDoor.PureTokenReads
open Go.RowKit Go.Lib Go.Proofs.YtpedfpeokedelaaDoor.XTokenReads Go.Proofs.YtpedfpeokedelaaDoorW.PrintWords Go.Proofs.YtpedfpeokedelaaDoorW.PrintLast Go.Proofs.YtpedfpeokedelaaDoorW.PrintMore
set_option maxRecDepth 100000
set_option linter.unusedSimpArgs false
theorem dec_f (n : Nat) (h : n < 18446744073709551616) : char_Decimal.f (n : Int) = some ⟨(decDigits n).toArray⟩ := by
  unfold char_Decimal.f
  rw [if_pos ⟨by omega, by omega⟩, Int.toNat_natCast]
theorem right_f (b a : Int) : token_right.f b a = some (decide (1 ≤ b ∧ b ≤ a ∧ a ≤ 4611686018427387904)) := by
  unfold token_right.f
  by_cases h1 : b ≥ 1
  · rw [if_pos h1]
    by_cases h2 : a ≥ b
    · rw [if_pos h2]
      exact congrArg some (decide_eq_decide.2 ⟨fun h => ⟨h1, h2, h⟩, fun h => h.2.2⟩)
    · rw [if_neg h2, decide_eq_false (fun h => h2 h.2.1)]
  · rw [if_neg h1, decide_eq_false (fun h => h1 h.1)]
theorem print_ok (b a : Nat) (h : Right b a) : token_Print.f (b : Int) (a : Int) = some ⟨(tokS b a).toArray⟩ := by
  have h' := h
  unfold Right most at h'
  have e1 : IntKind.u64.wrap (b : Int) = (b : Int) := by rw [IntKind.wrap_u64]; omega
  have e2 : IntKind.u64.wrap (a : Int) = (a : Int) := by rw [IntKind.wrap_u64]; omega
  have l1 := dec_len b (by omega)
  have l2 := dec_len a (by omega)
  unfold token_Print.f
  rw [right_f, decide_eq_true (by omega), e1, e2, dec_f b (by omega), dec_f a (by omega)]
  simp only [Option.bind_some, if_true]
  rw [if_pos (by simp [ByteArray.size]; omega), if_pos (by simp [ByteArray.size]; omega), if_pos (by simp [ByteArray.size]; omega)]
  congr 1
  apply ByteArray.ext
  apply Array.toList_inj.1
  simp [tokS, scheme]
theorem print_no (b a : Int) (h : ¬ (1 ≤ b ∧ b ≤ a ∧ a ≤ 4611686018427387904)) : token_Print.f b a = some ⟨#[]⟩ := by
  unfold token_Print.f
  rw [right_f, decide_eq_false h]
  rfl
theorem num_f (s : ByteArray) (h : s.size ≤ 281474976710656) : char_Number.f s 4611686018427387904 = some (((numV s most).1 : Int), (numV s most).2) := by
  unfold char_Number.f
  rw [if_pos ⟨h, by omega, by omega⟩]
  rfl
theorem tok_cut (b a : Nat) : cut (decDigits b ++ 46 :: decDigits a) [46] = (decDigits b, decDigits a, true) := cut_dot _ _ (dec_dig b)
theorem parse_f (s : ByteArray) (hs : s.size ≤ 281474976710656) :
    (∃ b a : Nat, Right b a ∧ s.data.toList = tokS b a ∧ token_Parse.f s = some ((b : Int), (a : Int), 0)) ∨ ((∀ b a, Right b a → s.data.toList ≠ tokS b a) ∧ token_Parse.f s = some (0, 0, 110)) := by
  have hsz := size_eq s
  obtain ⟨l, hl⟩ : ∃ l, s.data.toList = l := ⟨_, rfl⟩
  rw [hl] at hsz ⊢
  obtain ⟨R, hR⟩ : ∃ R, trimPrefix l scheme = R := ⟨_, rfl⟩
  have hRl : R.length ≤ l.length := by
    rw [← hR, trimPrefix]
    split
    · rw [List.length_drop]; omega
    · omega
  have hcp : strings_CutPrefix.f s (⟨#[117, 114, 110, 58, 99, 97, 108, 101, 112, 105, 110, 58]⟩ : ByteArray) = some (⟨R.toArray⟩, hasPrefix l scheme) := by
    unfold strings_CutPrefix.f
    rw [hl, ← hR]
    rfl
  have hct : strings_Cut.f ⟨R.toArray⟩ (⟨#[46]⟩ : ByteArray) = some (⟨(cut R [46]).1.toArray⟩, ⟨(cut R [46]).2.1.toArray⟩, (cut R [46]).2.2) := by
    unfold strings_Cut.f
    rw [if_pos ⟨by simp [ByteArray.size]; omega, rfl⟩]
  unfold token_Parse.f
  rw [hcp]
  simp only [Option.bind_some]
  rw [hct]
  simp only [Option.bind_some]
  have hlen : (cut R [46]).1.length ≤ R.length ∧ (cut R [46]).2.1.length ≤ R.length := by
    rcases cut_split R with ⟨x, y, e1, _, e2⟩ | ⟨_, e2⟩
    · rw [e2, e1]; simp; omega
    · rw [e2]; simp
  rw [num_f _ (by simp [ByteArray.size]; omega)]
  simp only [Option.bind_some]
  rw [num_f _ (by simp [ByteArray.size]; omega)]
  simp only [Option.bind_some]
  by_cases hp : hasPrefix l scheme = true
  · rw [if_pos hp]
    have hlR : l = scheme ++ R := by
      rw [← hR, trimPrefix, if_pos hp]
      obtain ⟨z, hz⟩ := List.isPrefixOf_iff_prefix.1 hp
      rw [← hz]
      simp
    have hne : ∀ b a, l = tokS b a → R = decDigits b ++ 46 :: decDigits a := fun b a h => by
      rw [hlR, tokS] at h
      exact List.append_cancel_left h
    rcases cut_split R with ⟨x, y, e1, _, e2⟩ | ⟨e1, e2⟩
    · rw [e2]
      simp only [if_true]
      have hxy : ∀ b a, l = tokS b a → x = decDigits b ∧ y = decDigits a := fun b a h => by
        have h2 := tok_cut b a
        rw [← hne b a h, e2] at h2
        simp only [Prod.mk.injEq] at h2
        exact ⟨h2.1, h2.2.1⟩
      rcases numV_o ⟨x.toArray⟩ most (by unfold most; omega) with ⟨n, hn, hx, hv⟩ | ⟨hx, hv⟩
      · rw [hv]
        simp only [if_true]
        rcases numV_o ⟨y.toArray⟩ most (by unfold most; omega) with ⟨m, hm, hy, hw⟩ | ⟨hy, hw⟩
        · rw [hw]
          simp only [if_true]
          simp only at hx hy
          unfold most at hn hm
          have w1 : wrap64 (n : Int) = (n : Int) := by unfold wrap64; omega
          have w2 : wrap64 (m : Int) = (m : Int) := by unfold wrap64; omega
          rw [w1, w2, right_f]
          simp only [Option.bind_some]
          by_cases hr : Right n m
          · left
            have hr' := hr
            unfold Right most at hr'
            rw [decide_eq_true (by omega)]
            refine ⟨n, m, hr, ?_, by simp⟩
            rw [hlR, e1, hx, hy, tokS]
          · right
            have hr' := hr
            unfold Right most at hr'
            rw [decide_eq_false (by omega)]
            refine ⟨fun b a h1 h2 => hr ?_, by simp⟩
            obtain ⟨q1, q2⟩ := hxy b a h2
            rw [dec_inj (hx.symm.trans q1), dec_inj (hy.symm.trans q2)]
            exact h1
        · right
          rw [hw]
          refine ⟨fun b a h1 h2 => ?_, by simp⟩
          have h1' := h1
          unfold Right at h1'
          exact hy a (by omega) (hxy b a h2).2
      · right
        rw [hv]
        refine ⟨fun b a h1 h2 => ?_, by simp⟩
        have h1' := h1
        unfold Right at h1'
        exact hx b (by omega) (hxy b a h2).1
    · right
      rw [e2]
      refine ⟨fun b a _ h2 => ?_, by simp⟩
      have := hne b a h2
      exact e1 46 (by rw [this]; simp) rfl
  · right
    rw [if_neg hp]
    refine ⟨fun b a _ h2 => hp ?_, rfl⟩
    rw [h2, tokS]
    exact List.isPrefixOf_iff_prefix.2 ⟨_, rfl⟩
theorem tok_inj {b a b' a' : Nat} (h : tokS b a = tokS b' a') : b = b' ∧ a = a' := by
  have h1 : decDigits b ++ 46 :: decDigits a = decDigits b' ++ 46 :: decDigits a' := List.append_cancel_left h
  have h2 := tok_cut b a
  rw [h1, tok_cut] at h2
  simp only [Prod.mk.injEq] at h2
  exact ⟨(dec_inj h2.1).symm, (dec_inj h2.2.1).symm⟩
theorem parse_tok (b a : Nat) (s : ByteArray) (hs : s.size ≤ 281474976710656) (hl : s.data.toList = tokS b a) : token_Parse.f s = if Right b a then some ((b : Int), (a : Int), 0) else some (0, 0, 110) := by
  rcases parse_f s hs with ⟨b', a', h1, h2, h3⟩ | ⟨h1, h2⟩
  · obtain ⟨rfl, rfl⟩ := tok_inj (hl.symm.trans h2)
    rw [if_pos h1, h3]
  · rw [if_neg (fun h => h1 b a h hl), h2]
theorem tok317 : tokS 3 17 = [117, 114, 110, 58, 99, 97, 108, 101, 112, 105, 110, 58, 51, 46, 49, 55] := by
  rw [tokS, decDigits_one (by omega), decDigits_two (by omega) (by omega)]
  rfl
theorem tok32 : tokS 3 2 = [117, 114, 110, 58, 99, 97, 108, 101, 112, 105, 110, 58, 51, 46, 50] := by
  rw [tokS, decDigits_one (by omega), decDigits_one (by omega)]
  rfl
theorem first_k : calepinlaw11_first.f = some true := by
  unfold calepinlaw11_first.f
  rw [parse_tok 3 17 _ (by decide) tok317.symm, if_pos (by unfold Right most; omega)]
  simp only [Option.bind_some]
  rw [parse_tok 3 2 _ (by decide) tok32.symm, if_neg (by unfold Right; omega)]
  simp only [Option.bind_some]
  have hp := print_ok 3 17 (by unfold Right most; omega)
  simp only [Int.cast_ofNat_Int] at hp
  rw [if_pos (by rfl), if_pos trivial, if_pos trivial]
  rw [show (((3 : Nat) : Int)) = 3 from rfl, show (((17 : Nat) : Int)) = 17 from rfl, hp, tok317]
  simp only [Option.bind_some]
  rw [toList_data]
  rfl
theorem bt_get (s : ByteArray) (i : Nat) (h : i < s.data.toList.length) : bt s (i : Int) = ((s.data.toList[i]'h).toNat : Int) := by
  have h2 : i < s.size := by rw [size_eq]; exact h
  unfold bt
  rw [dif_pos (by simpa using h2)]
  rfl
/-- What the reference's loop answers from place i on. -/
theorem refNum_l (s : ByteArray) (m : Nat) (hm : m < 18446744073709551616) (hs : s.size ≤ 281474976710656) : ∀ (j k i n : Nat), i + j = s.data.toList.length → n ≤ m → 2 * j + 1 ≤ k →
    calepinref01_Number.l0 k s (m : Int) (n : Int) (i : Int) = some (if (∀ c ∈ s.data.toList.drop i, isDig c) ∧ valD n (s.data.toList.drop i) ≤ m then ((valD n (s.data.toList.drop i) : Nat) : Int) else 0, decide ((∀ c ∈ s.data.toList.drop i, isDig c) ∧ valD n (s.data.toList.drop i) ≤ m)) := by
  have hsz := size_eq s
  intro j
  induction j with
  | zero =>
    intro k i n hi hn hk
    obtain ⟨k, rfl⟩ : ∃ k', k = k' + 1 := ⟨k - 1, by omega⟩
    rw [calepinref01_Number.l0, if_neg (by omega), List.drop_of_length_le (by omega), valD_nil, if_pos ⟨fun c hc => (by cases hc), hn⟩, decide_eq_true ⟨fun c hc => (by cases hc), hn⟩]
  | succ j ih =>
    intro k i n hi hn hk
    obtain ⟨k, rfl⟩ : ∃ k', k = k' + 2 := ⟨k - 2, by omega⟩
    have hlt : i < s.data.toList.length := by omega
    have hdrop := List.drop_eq_getElem_cons hlt
    obtain ⟨c, hc⟩ : ∃ c, s.data.toList[i] = c := ⟨_, rfl⟩
    have hb : bt s (i : Int) = (c.toNat : Int) := by rw [bt_get s i hlt, hc]
    rw [hc] at hdrop
    have hc256 := c.toNat_lt
    rw [calepinref01_Number.l0, if_pos (by omega), if_pos (by omega), hb, hdrop]
    have hbad : ¬ isDig c → ¬ ((∀ x ∈ c :: s.data.toList.drop (i + 1), isDig x) ∧ valD n (c :: s.data.toList.drop (i + 1)) ≤ m) := fun h1 h2 => h1 (h2.1 c List.mem_cons_self)
    by_cases h1 : (c.toNat : Int) < 48
    · have hb2 := hbad (fun h => by unfold isDig at h; omega)
      rw [if_pos h1, calepinref01_Number.j2, if_pos rfl, if_neg hb2, decide_eq_false hb2]
    · rw [if_neg h1]
      by_cases h2 : (c.toNat : Int) > 57
      · have hb2 := hbad (fun h => by unfold isDig at h; omega)
        rw [decide_eq_true h2, calepinref01_Number.j2, if_pos rfl, if_neg hb2, decide_eq_false hb2]
      · have hd : isDig c := by unfold isDig; omega
        have hv := valD_ge (n * 10 + (c.toNat - 48)) (s.data.toList.drop (i + 1))
        have hp : 0 < 10 ^ (s.data.toList.drop (i + 1)).length := Nat.pow_pos (by decide)
        have hv' : n * 10 + (c.toNat - 48) ≤ valD (n * 10 + (c.toNat - 48)) (s.data.toList.drop (i + 1)) := Nat.le_trans (Nat.le_mul_of_pos_right _ hp) hv
        have hdg : ((c.toNat : Int) - 48) % 256 = ((c.toNat - 48 : Nat) : Int) := by omega
        have hq : IntKind.u64.wrap (Int.tdiv (m : Int) 10) = ((m / 10 : Nat) : Int) := by
          rw [IntKind.wrap_u64, Int.tdiv_eq_ediv_of_nonneg (by omega)]; omega
        rw [decide_eq_false h2, calepinref01_Number.j2, if_neg (by simp), if_pos (by omega), if_pos (by omega), hb, hdg, hq]
        have hover : m < n * 10 + (c.toNat - 48) → ¬ ((∀ x ∈ c :: s.data.toList.drop (i + 1), isDig x) ∧ valD n (c :: s.data.toList.drop (i + 1)) ≤ m) := fun h1 h2 => by
          rw [valD_cons] at h2
          omega
        by_cases g1 : (n : Int) > ((m / 10 : Nat) : Int)
        · have ho := hover (by omega)
          rw [if_pos g1, if_neg ho, decide_eq_false ho]
        · rw [if_neg g1]
          have hw10 : IntKind.u64.wrap (10 * (n : Int)) = ((n * 10 : Nat) : Int) := by rw [IntKind.wrap_u64]; omega
          have hmn : mn (m : Int) ((c.toNat - 48 : Nat) : Int) = ((min m (c.toNat - 48) : Nat) : Int) := by
            unfold mn; split <;> omega
          have hws : IntKind.u64.wrap ((m : Int) - ((min m (c.toNat - 48) : Nat) : Int)) = ((m - min m (c.toNat - 48) : Nat) : Int) := by rw [IntKind.wrap_u64]; omega
          rw [hw10, hmn, hws]
          by_cases g2 : ((n * 10 : Nat) : Int) > ((m - min m (c.toNat - 48) : Nat) : Int)
          · have ho := hover (by omega)
            rw [if_pos g2, if_neg ho, decide_eq_false ho]
          · rw [if_neg g2]
            by_cases g3 : ((c.toNat - 48 : Nat) : Int) > (m : Int)
            · have ho := hover (by omega)
              rw [if_pos g3, if_neg ho, decide_eq_false ho]
            · have hwn : IntKind.u64.wrap (((n * 10 : Nat) : Int) + ((c.toNat - 48 : Nat) : Int)) = ((n * 10 + (c.toNat - 48) : Nat) : Int) := by rw [IntKind.wrap_u64]; omega
              have hwi : wrap64 ((i : Int) + 1) = ((i + 1 : Nat) : Int) := by unfold wrap64; omega
              rw [if_neg g3, hwn, hwi, ih k (i + 1) (n * 10 + (c.toNat - 48)) (by omega) (by omega) (by omega)]
              have hiff : ((∀ x ∈ s.data.toList.drop (i + 1), isDig x) ∧ valD (n * 10 + (c.toNat - 48)) (s.data.toList.drop (i + 1)) ≤ m) ↔ ((∀ x ∈ c :: s.data.toList.drop (i + 1), isDig x) ∧ valD n (c :: s.data.toList.drop (i + 1)) ≤ m) := by
                rw [valD_cons]
                simp [hd]
              by_cases g4 : (∀ x ∈ s.data.toList.drop (i + 1), isDig x) ∧ valD (n * 10 + (c.toNat - 48)) (s.data.toList.drop (i + 1)) ≤ m
              · rw [if_pos g4, decide_eq_true g4, if_pos (hiff.1 g4), decide_eq_true (hiff.1 g4), valD_cons]
              · rw [if_neg g4, decide_eq_false g4, if_neg (fun h => g4 (hiff.2 h)), decide_eq_false (fun h => g4 (hiff.2 h))]
theorem refNum (s : ByteArray) (m : Nat) (hm : m < 18446744073709551616) (hs : s.size ≤ 281474976710656) (k : Nat) (hk : 2 * s.size + 3 ≤ k) :
    calepinref01_Number.f k s (m : Int) = some (((numV s m).1 : Int), (numV s m).2) := by
  have hsz := size_eq s
  have hn := numV_eq s m hm
  obtain ⟨k, rfl⟩ : ∃ k', k = k' + 1 := ⟨k - 1, by omega⟩
  have hl := refNum_l s m hm hs s.data.toList.length k 0 0 (by omega) (Nat.zero_le _) (by omega)
  simp only [List.drop_zero, Int.natCast_zero] at hl
  unfold calepinref01_Number.f
  by_cases h0 : (s.size : Int) = 0
  · rw [if_pos h0, calepinref01_Number.j0, if_pos rfl]
    have he : s.data.toList = [] := List.length_eq_zero_iff.1 (by omega)
    rcases hn with ⟨hc, _⟩ | ⟨_, hn⟩
    · exact absurd he hc.1
    · rw [hn]; rfl
  · rw [if_neg h0]
    have hne : s.data.toList ≠ [] := fun he => h0 (by rw [he, List.length_nil] at hsz; omega)
    by_cases h1 : (s.size : Int) > 1
    · rw [if_pos h1, if_pos (by omega)]
      have hl0 : 0 < s.data.toList.length := by omega
      have hb := bt_get s 0 hl0
      simp only [Int.natCast_zero] at hb
      rw [hb]
      have hhead : s.data.toList.head? = some (s.data.toList[0]'hl0) := by rw [List.head?_eq_getElem?, List.getElem?_eq_getElem hl0]
      obtain ⟨c, hc⟩ : ∃ c, s.data.toList[0]'hl0 = c := ⟨_, rfl⟩
      rw [hc] at hhead ⊢
      by_cases h2 : c = 48
      · subst h2
        rw [show (((48 : UInt8).toNat : Int) == 48) = true from rfl, calepinref01_Number.j0, if_pos rfl]
        rcases hn with ⟨hcn, _⟩ | ⟨_, hn⟩
        · exact absurd ⟨hhead, by omega⟩ hcn.2.2
        · rw [hn]; rfl
      · have h3 : ((c.toNat : Int) == 48) = false := beq_eq_false_iff_ne.2 fun h => h2 (UInt8.toNat_inj.1 (by show c.toNat = 48; omega))
        have hcan : Canon s.data.toList ↔ ∀ x ∈ s.data.toList, isDig x := ⟨fun h => h.2.1, fun h => ⟨hne, h, fun h4 => h2 (by have := hhead.symm.trans h4.1; exact Option.some.inj this)⟩⟩
        rw [h3, calepinref01_Number.j0, if_neg (by simp), hl]
        rcases hn with ⟨hcn, hv, hn⟩ | ⟨hcn, hn⟩
        · rw [hn, if_pos ⟨hcan.1 hcn, hv⟩, decide_eq_true ⟨hcan.1 hcn, hv⟩]
        · have : ¬ ((∀ x ∈ s.data.toList, isDig x) ∧ valD 0 s.data.toList ≤ m) := fun h => hcn ⟨hcan.2 h.1, h.2⟩
          rw [hn, if_neg this, decide_eq_false this]; rfl
    · rw [if_neg h1, calepinref01_Number.j0, if_neg (by simp), hl]
      have hcan : Canon s.data.toList ↔ ∀ x ∈ s.data.toList, isDig x := ⟨fun h => h.2.1, fun h => ⟨hne, h, fun h4 => by omega⟩⟩
      rcases hn with ⟨hcn, hv, hn⟩ | ⟨hcn, hn⟩
      · rw [hn, if_pos ⟨hcan.1 hcn, hv⟩, decide_eq_true ⟨hcan.1 hcn, hv⟩]
      · have : ¬ ((∀ x ∈ s.data.toList, isDig x) ∧ valD 0 s.data.toList ≤ m) := fun h => hcn ⟨hcan.2 h.1, h.2⟩
        rw [hn, if_neg this, decide_eq_false this]; rfl
theorem rright_f (b a : Int) : calepinref11_Right.f b a = some (decide (1 ≤ b ∧ b ≤ a ∧ a ≤ 4611686018427387904)) := by
  unfold calepinref11_Right.f
  by_cases h1 : b > 0
  · rw [if_pos h1]
    by_cases h2 : b ≤ a
    · rw [if_pos h2]
      exact congrArg some (decide_eq_decide.2 ⟨fun h => ⟨h1, h2, h⟩, fun h => h.2.2⟩)
    · rw [if_neg h2, decide_eq_false (fun h => h2 h.2.1)]
  · rw [if_neg h1, decide_eq_false (fun h => h1 (by omega))]
/-- What the reference answers at the first point. -/
def atDot (s : ByteArray) (p : Nat) : Int × Int × Bool :=
  let n := numV (s.extract 12 p) most
  let m := numV (s.extract (p + 1) s.size) most
  if n.2 = true ∧ m.2 = true ∧ Right n.1 m.1 then ((n.1 : Int), (m.1 : Int), true) else (0, 0, false)
theorem numV_le (s : ByteArray) : (numV s most).1 ≤ most := by
  rcases numV_o s most (by unfold most; omega) with ⟨n, hn, _, hv⟩ | ⟨_, hv⟩
  · rw [hv]; exact hn
  · rw [hv]; exact Nat.zero_le _
theorem refLoop (s : ByteArray) (hs : s.size ≤ 281474976710656) : ∀ (j k i : Nat), i + j = s.data.toList.length → 12 ≤ i → j + 2 * s.size + 5 ≤ k →
    (∃ p, i ≤ p ∧ ∃ hp : p < s.data.toList.length, s.data.toList[p] = 46 ∧ (∀ c ∈ (s.data.toList.drop i).take (p - i), c ≠ 46) ∧ calepinref11_Parse.l0 k s (i : Int) = some (atDot s p)) ∨ ((∀ c ∈ s.data.toList.drop i, c ≠ 46) ∧ calepinref11_Parse.l0 k s (i : Int) = some (0, 0, false)) := by
  have hsz := size_eq s
  intro j
  induction j with
  | zero =>
    intro k i hi h12 hk
    obtain ⟨k, rfl⟩ : ∃ k', k = k' + 1 := ⟨k - 1, by omega⟩
    right
    rw [List.drop_of_length_le (by omega), calepinref11_Parse.l0, if_neg (by omega)]
    exact ⟨fun c hc => (by cases hc), rfl⟩
  | succ j ih =>
    intro k i hi h12 hk
    obtain ⟨k, rfl⟩ : ∃ k', k = k' + 1 := ⟨k - 1, by omega⟩
    have hlt : i < s.data.toList.length := by omega
    have hb := bt_get s i hlt
    have hwi : wrap64 ((i : Int) + 1) = ((i + 1 : Nat) : Int) := by unfold wrap64; omega
    obtain ⟨c, hc⟩ : ∃ c, s.data.toList[i] = c := ⟨_, rfl⟩
    rw [hc] at hb
    have hdrop := List.drop_eq_getElem_cons hlt
    rw [hc] at hdrop
    rw [calepinref11_Parse.l0, if_pos (by omega), if_pos (by omega), hb, hwi]
    by_cases h : c = 46
    · left
      subst h
      refine ⟨i, Nat.le_refl _, hlt, hc, by simp, ?_⟩
      have e1 : (s.extract 12 i).size ≤ s.size := by rw [ByteArray.size_extract]; omega
      have e2 : (s.extract (i + 1) s.size).size ≤ s.size := by rw [ByteArray.size_extract]; omega
      have n1 := refNum (s.extract 12 i) most (by unfold most; omega) (by omega) k (by omega)
      have n2 := refNum (s.extract (i + 1) s.size) most (by unfold most; omega) (by omega) k (by omega)
      rw [show ((most : Nat) : Int) = 4611686018427387904 from rfl] at n1 n2
      rw [if_pos (by rfl), if_pos (by omega), if_pos (by omega), Int.toNat_natCast, n1]
      simp only [Option.bind_some]
      rw [if_pos (by omega), if_pos (by omega), Int.toNat_natCast, n2]
      simp only [Option.bind_some]
      have q1 := numV_le (s.extract 12 i)
      have q2 := numV_le (s.extract (i + 1) s.size)
      unfold most at q1 q2
      have w1 : wrap64 (((numV (s.extract 12 i) most).1 : Nat) : Int) = (((numV (s.extract 12 i) most).1 : Nat) : Int) := by unfold wrap64 most; omega
      have w2 : wrap64 (((numV (s.extract (i + 1) s.size) most).1 : Nat) : Int) = (((numV (s.extract (i + 1) s.size) most).1 : Nat) : Int) := by unfold wrap64 most; omega
      rw [w1, w2, rright_f]
      unfold atDot
      simp only [Option.bind_some]
      by_cases g1 : (numV (s.extract 12 i) most).2 = true
      · rw [if_pos g1]
        by_cases g2 : (numV (s.extract (i + 1) s.size) most).2 = true
        · rw [if_pos g2]
          by_cases g3 : Right (numV (s.extract 12 i) most).1 (numV (s.extract (i + 1) s.size) most).1
          · have g3' := g3
            unfold Right most at g3'
            rw [decide_eq_true (by unfold most; omega), if_pos rfl, if_pos ⟨g1, g2, g3⟩]
          · have g3' := g3
            unfold Right most at g3'
            rw [decide_eq_false (by unfold most; omega), if_neg (by simp), if_neg (fun h => g3 h.2.2)]
        · rw [if_neg g2, if_neg (fun h => g2 h.2.1)]
      · rw [if_neg g1, if_neg (fun h => g1 h.1)]
    · rw [if_neg (fun h2 => h (UInt8.toNat_inj.1 (by show c.toNat = 46; omega)))]
      rcases ih k (i + 1) (by omega) (by omega) (by omega) with ⟨p, h1, hp, h2, h3, h4⟩ | ⟨h1, h2⟩
      · left
        refine ⟨p, by omega, hp, h2, ?_, h4⟩
        rw [hdrop, show p - i = (p - (i + 1)) + 1 by omega, List.take_succ_cons]
        intro x hx
        rcases List.mem_cons.1 hx with rfl | hx
        · exact h
        · exact h3 x hx
      · right
        refine ⟨?_, h2⟩
        rw [hdrop]
        intro x hx
        rcases List.mem_cons.1 hx with rfl | hx
        · exact h
        · exact h1 x hx
theorem append_dot : ∀ {x x' y y' : List UInt8}, (∀ c ∈ x, c ≠ 46) → (∀ c ∈ x', c ≠ 46) → x ++ 46 :: y = x' ++ 46 :: y' → x = x' ∧ y = y'
  | [], [], _, _, _, _, h => ⟨rfl, by simpa using h⟩
  | [], c :: x', _, _, _, h2, h => by
    have := (List.cons.inj h).1
    exact absurd this.symm (h2 c List.mem_cons_self)
  | c :: x, [], _, _, h1, _, h => by
    have := (List.cons.inj h).1
    exact absurd this (h1 c List.mem_cons_self)
  | c :: x, d :: x', _, _, h1, h2, h => by
    obtain ⟨e5, h5⟩ := List.cons.inj h
    subst e5
    obtain ⟨rfl, h3⟩ := append_dot (fun z hz => h1 z (List.mem_cons_of_mem _ hz)) (fun z hz => h2 z (List.mem_cons_of_mem _ hz)) h5
    exact ⟨rfl, h3⟩
theorem ext_mid (s : ByteArray) (i j : Nat) : (s.extract i j).data.toList = (s.data.toList.drop i).take (j - i) := by simp
theorem refParse (s : ByteArray) (hs : s.size ≤ 281474976710656) (k : Nat) (hk : 3 * s.size + 20 ≤ k) :
    (∃ b a : Nat, Right b a ∧ s.data.toList = tokS b a ∧ calepinref11_Parse.f k s = some ((b : Int), (a : Int), true)) ∨ ((∀ b a, Right b a → s.data.toList ≠ tokS b a) ∧ calepinref11_Parse.f k s = some (0, 0, false)) := by
  have hsz := size_eq s
  obtain ⟨k, rfl⟩ : ∃ k', k = k' + 1 := ⟨k - 1, by omega⟩
  have htl : ∀ b a, 12 ≤ (tokS b a).length ∧ (tokS b a).take 12 = scheme := fun b a => by
    unfold tokS
    constructor
    · rw [List.length_append]
      exact Nat.le_add_right _ _
    · exact List.take_left' rfl
  unfold calepinref11_Parse.f
  by_cases h12 : (s.size : Int) < 12
  · rw [if_pos h12, calepinref11_Parse.j0, if_pos rfl]
    refine .inr ⟨fun b a _ h => ?_, rfl⟩
    have := (htl b a).1
    rw [← h] at this
    omega
  · rw [if_neg h12, if_pos (by omega), if_pos (by omega), toList_data, ext_mid, List.drop_zero, Nat.sub_zero]
    by_cases hp : s.data.toList.take 12 = scheme
    · rw [show (s.data.toList.take 12 != [117, 114, 110, 58, 99, 97, 108, 101, 112, 105, 110, 58]) = false from by rw [hp]; rfl, calepinref11_Parse.j0, if_neg (by simp)]
      have hl : s.data.toList = scheme ++ s.data.toList.drop 12 := by rw [← hp, List.take_append_drop]
      have hR : ∀ b a, s.data.toList = tokS b a → s.data.toList.drop 12 = decDigits b ++ 46 :: decDigits a := fun b a h => by
        rw [h]
        exact List.drop_left' rfl
      rcases refLoop s hs (s.data.toList.length - 12) k 12 (by omega) (Nat.le_refl _) (by omega) with ⟨p, h1, hp1, h2, h3, h4⟩ | ⟨h1, h2⟩
      · rw [show ((12 : Nat) : Int) = 12 from rfl] at h4
        rw [h4]
        have hx : (s.extract 12 p).data.toList = (s.data.toList.drop 12).take (p - 12) := ext_mid s 12 p
        have hy : (s.extract (p + 1) s.size).data.toList = s.data.toList.drop (p + 1) := by
          rw [ext_mid, List.take_of_length_le (by rw [List.length_drop]; omega)]
        have hsplit : s.data.toList.drop 12 = (s.extract 12 p).data.toList ++ 46 :: (s.extract (p + 1) s.size).data.toList := by
          rw [hx, hy]
          conv => lhs; rw [← List.take_append_drop (p - 12) (s.data.toList.drop 12)]
          rw [List.drop_drop, show 12 + (p - 12) = p by omega, List.drop_eq_getElem_cons hp1, h2]
        have hxy : ∀ b a, s.data.toList = tokS b a → (s.extract 12 p).data.toList = decDigits b ∧ (s.extract (p + 1) s.size).data.toList = decDigits a := fun b a h => by
          have e1 := tok_cut b a
          rw [← hR b a h, hsplit] at e1
          rcases cut_split ((s.extract 12 p).data.toList ++ 46 :: (s.extract (p + 1) s.size).data.toList) with ⟨x, y, e2, e3, e4⟩ | ⟨e2, _⟩
          · have e5 := append_dot (by rw [hx]; exact h3) e3 e2
            rw [e4] at e1
            simp only [Prod.mk.injEq] at e1
            exact ⟨e5.1.trans e1.1, e5.2.trans e1.2.1⟩
          · exact absurd rfl (e2 46 (by simp))
        unfold atDot
        rcases numV_o (s.extract 12 p) most (by unfold most; omega) with ⟨n, hn, hxn, hv⟩ | ⟨hxn, hv⟩
        · rcases numV_o (s.extract (p + 1) s.size) most (by unfold most; omega) with ⟨m, hm, hym, hw⟩ | ⟨hym, hw⟩
          · rw [hv, hw]
            by_cases hr : Right n m
            · left
              refine ⟨n, m, hr, ?_, by simp [hr]⟩
              rw [hl, hsplit, hxn, hym, tokS]
            · right
              refine ⟨fun b a g1 g2 => hr ?_, by simp [hr]⟩
              obtain ⟨q1, q2⟩ := hxy b a g2
              rw [dec_inj (hxn.symm.trans q1), dec_inj (hym.symm.trans q2)]
              exact g1
          · right
            rw [hv, hw]
            refine ⟨fun b a g1 g2 => ?_, by simp⟩
            have g1' := g1
            unfold Right at g1'
            exact hym a (by omega) (hxy b a g2).2
        · right
          rw [hv]
          refine ⟨fun b a g1 g2 => ?_, by simp⟩
          have g1' := g1
          unfold Right at g1'
          exact hxn b (by omega) (hxy b a g2).1
      · right
        rw [show ((12 : Nat) : Int) = 12 from rfl] at h2
        refine ⟨fun b a _ g2 => ?_, h2⟩
        rw [hR b a g2] at h1
        exact h1 46 (by simp) rfl
    · rw [show (s.data.toList.take 12 != [117, 114, 110, 58, 99, 97, 108, 101, 112, 105, 110, 58]) = true from bne_iff_ne.2 hp, calepinref11_Parse.j0, if_pos rfl]
      refine .inr ⟨fun b a _ h => hp ?_, rfl⟩
      rw [h]
      exact (htl b a).2
theorem TokenReads : calepinlaw11_TokenReads.Pure := by
  intro s hs
  refine ⟨3 * s.size + 20, ?_⟩
  unfold calepinlaw11_TokenReads.f
  rw [first_k]
  simp only [Option.bind_some, if_true]
  rcases parse_f s (by omega) with ⟨b, a, h1, h2, h3⟩ | ⟨h1, h2⟩
  · rcases refParse s (by omega) (3 * s.size + 20) (Nat.le_refl _) with ⟨b', a', g1, g2, g3⟩ | ⟨g1, _⟩
    · obtain ⟨rfl, rfl⟩ := tok_inj (h2.symm.trans g2)
      rw [h3, g3]
      simp only [Option.bind_some]
      rw [print_ok b a h1]
      simp only [Option.bind_some]
      rw [toList_data, toList_data, h2]
      simp
    · exact absurd h2 (g1 b a h1)
  · rcases refParse s (by omega) (3 * s.size + 20) (Nat.le_refl _) with ⟨b', a', g1, g2, _⟩ | ⟨_, g2⟩
    · exact absurd g2 (h1 b' a' g1)
    · rw [h2, g2]
      simp
end Go.Proofs.YtpedfpeokedelaaDoor.PureTokenReads
