/- CharNumbers, the plain law. -/
import Derived.Test.YtpedfpeokedelaaDoorXCharNumbersx1
import Derived.Test.YtpedfpeokedelaaDoorNm
namespace Go.Proofs.YtpedfpeokedelaaDoor.Pure
open Go.RowKit Go.Lib Go.Proofs.YtpedfpeokedelaaDoor.XCharNumbers Go.Proofs.YtpedfpeokedelaaDoorW.PrintWords Go.Proofs.YtpedfpeokedelaaDoorW.PrintLast Go.Proofs.YtpedfpeokedelaaDoorW.PrintMore
set_option maxRecDepth 100000 in
theorem first_n : calepinlaw01_first.f = some true := by decide +kernel
theorem bt_get (s : ByteArray) (i : Nat) (h : i < s.data.toList.length) : bt s (i : Int) = ((s.data.toList[i]'h).toNat : Int) := by
  have h2 : i < s.size := by rw [size_eq]; exact h
  unfold bt
  rw [dif_pos (by simpa using h2)]
  rfl
/-- What the reference's loop answers from place i on. -/
theorem refNum_l (s : ByteArray) (m : Nat) (hm : m < 18446744073709551616) (hs : s.size ≤ 281474976710656) : ∀ (j k i n : Nat), i + j = s.data.toList.length → n ≤ m → 2 * j + 1 ≤ k →
    calepinref01_Number.l0 k s (m : Int) (n : Int) (i : Int) = some (if (∀ c ∈ s.data.toList.drop i, isDig c) ∧ valD n (s.data.toList.drop i) ≤ m then ((valD n (s.data.toList.drop i) : Nat) : Int) else 0, decide ((∀ c ∈ s.data.toList.drop i, isDig c) ∧ valD n (s.data.toList.drop i) ≤ m)) := by
  have hsz := size_eq s
  intro j
  induction j with
  | zero =>
    intro k i n hi hn hk
    obtain ⟨k, rfl⟩ : ∃ k', k = k' + 1 := ⟨k - 1, by omega⟩
    rw [calepinref01_Number.l0, if_neg (by omega), List.drop_of_length_le (by omega), valD_nil, if_pos ⟨fun c hc => (by cases hc), hn⟩, decide_eq_true ⟨fun c hc => (by cases hc), hn⟩]
  | succ j ih =>
    intro k i n hi hn hk
    obtain ⟨k, rfl⟩ : ∃ k', k = k' + 2 := ⟨k - 2, by omega⟩
    have hlt : i < s.data.toList.length := by omega
    have hdrop := List.drop_eq_getElem_cons hlt
    obtain ⟨c, hc⟩ : ∃ c, s.data.toList[i] = c := ⟨_, rfl⟩
    have hb : bt s (i : Int) = (c.toNat : Int) := by rw [bt_get s i hlt, hc]
    rw [hc] at hdrop
    have hc256 := c.toNat_lt
    rw [calepinref01_Number.l0, if_pos (by omega), if_pos (by omega), hb, hdrop]
    have hbad : ¬ isDig c → ¬ ((∀ x ∈ c :: s.data.toList.drop (i + 1), isDig x) ∧ valD n (c :: s.data.toList.drop (i + 1)) ≤ m) := fun h1 h2 => h1 (h2.1 c List.mem_cons_self)
    by_cases h1 : (c.toNat : Int) < 48
    · have hb2 := hbad (fun h => by unfold isDig at h; omega)
      rw [if_pos h1, calepinref01_Number.j2, if_pos rfl, if_neg hb2, decide_eq_false hb2]
    · rw [if_neg h1]
      by_cases h2 : (c.toNat : Int) > 57
      · have hb2 := hbad (fun h => by unfold isDig at h; omega)
        rw [decide_eq_true h2, calepinref01_Number.j2, if_pos rfl, if_neg hb2, decide_eq_false hb2]
      · have hd : isDig c := by unfold isDig; omega
        have hv := valD_ge (n * 10 + (c.toNat - 48)) (s.data.toList.drop (i + 1))
        have hp : 0 < 10 ^ (s.data.toList.drop (i + 1)).length := Nat.pow_pos (by decide)
        have hv' : n * 10 + (c.toNat - 48) ≤ valD (n * 10 + (c.toNat - 48)) (s.data.toList.drop (i + 1)) := Nat.le_trans (Nat.le_mul_of_pos_right _ hp) hv
        have hdg : ((c.toNat : Int) - 48) % 256 = ((c.toNat - 48 : Nat) : Int) := by omega
        have hq : IntKind.u64.wrap (Int.tdiv (m : Int) 10) = ((m / 10 : Nat) : Int) := by
          rw [IntKind.wrap_u64, Int.tdiv_eq_ediv_of_nonneg (by omega)]; omega
        rw [decide_eq_false h2, calepinref01_Number.j2, if_neg (by simp), if_pos (by omega), if_pos (by omega), hb, hdg, hq]
        have hover : m < n * 10 + (c.toNat - 48) → ¬ ((∀ x ∈ c :: s.data.toList.drop (i + 1), isDig x) ∧ valD n (c :: s.data.toList.drop (i + 1)) ≤ m) := fun h1 h2 => by
          rw [valD_cons] at h2
          omega
        by_cases g1 : (n : Int) > ((m / 10 : Nat) : Int)
        · have ho := hover (by omega)
          rw [if_pos g1, if_neg ho, decide_eq_false ho]
        · rw [if_neg g1]
          have hw10 : IntKind.u64.wrap (10 * (n : Int)) = ((n * 10 : Nat) : Int) := by rw [IntKind.wrap_u64]; omega
          have hmn : mn (m : Int) ((c.toNat - 48 : Nat) : Int) = ((min m (c.toNat - 48) : Nat) : Int) := by
            unfold mn; split <;> omega
          have hws : IntKind.u64.wrap ((m : Int) - ((min m (c.toNat - 48) : Nat) : Int)) = ((m - min m (c.toNat - 48) : Nat) : Int) := by rw [IntKind.wrap_u64]; omega
          rw [hw10, hmn, hws]
          by_cases g2 : ((n * 10 : Nat) : Int) > ((m - min m (c.toNat - 48) : Nat) : Int)
          · have ho := hover (by omega)
            rw [if_pos g2, if_neg ho, decide_eq_false ho]
          · rw [if_neg g2]
            by_cases g3 : ((c.toNat - 48 : Nat) : Int) > (m : Int)
            · have ho := hover (by omega)
              rw [if_pos g3, if_neg ho, decide_eq_false ho]
            · have hwn : IntKind.u64.wrap (((n * 10 : Nat) : Int) + ((c.toNat - 48 : Nat) : Int)) = ((n * 10 + (c.toNat - 48) : Nat) : Int) := by rw [IntKind.wrap_u64]; omega
              have hwi : wrap64 ((i : Int) + 1) = ((i + 1 : Nat) : Int) := by unfold wrap64; omega
              rw [if_neg g3, hwn, hwi, ih k (i + 1) (n * 10 + (c.toNat - 48)) (by omega) (by omega) (by omega)]
              have hiff : ((∀ x ∈ s.data.toList.drop (i + 1), isDig x) ∧ valD (n * 10 + (c.toNat - 48)) (s.data.toList.drop (i + 1)) ≤ m) ↔ ((∀ x ∈ c :: s.data.toList.drop (i + 1), isDig x) ∧ valD n (c :: s.data.toList.drop (i + 1)) ≤ m) := by
                rw [valD_cons]
                simp [hd]
              by_cases g4 : (∀ x ∈ s.data.toList.drop (i + 1), isDig x) ∧ valD (n * 10 + (c.toNat - 48)) (s.data.toList.drop (i + 1)) ≤ m
              · rw [if_pos g4, decide_eq_true g4, if_pos (hiff.1 g4), decide_eq_true (hiff.1 g4), valD_cons]
              · rw [if_neg g4, decide_eq_false g4, if_neg (fun h => g4 (hiff.2 h)), decide_eq_false (fun h => g4 (hiff.2 h))]
theorem refNum (s : ByteArray) (m : Nat) (hm : m < 18446744073709551616) (hs : s.size ≤ 281474976710656) (k : Nat) (hk : 2 * s.size + 3 ≤ k) :
    calepinref01_Number.f k s (m : Int) = some (((numV s m).1 : Int), (numV s m).2) := by
  have hsz := size_eq s
  have hn := numV_eq s m hm
  obtain ⟨k, rfl⟩ : ∃ k', k = k' + 1 := ⟨k - 1, by omega⟩
  have hl := refNum_l s m hm hs s.data.toList.length k 0 0 (by omega) (Nat.zero_le _) (by omega)
  simp only [List.drop_zero, Int.natCast_zero] at hl
  unfold calepinref01_Number.f
  by_cases h0 : (s.size : Int) = 0
  · rw [if_pos h0, calepinref01_Number.j0, if_pos rfl]
    have he : s.data.toList = [] := List.length_eq_zero_iff.1 (by omega)
    rcases hn with ⟨hc, _⟩ | ⟨_, hn⟩
    · exact absurd he hc.1
    · rw [hn]; rfl
  · rw [if_neg h0]
    have hne : s.data.toList ≠ [] := fun he => h0 (by rw [he, List.length_nil] at hsz; omega)
    by_cases h1 : (s.size : Int) > 1
    · rw [if_pos h1, if_pos (by omega)]
      have hl0 : 0 < s.data.toList.length := by omega
      have hb := bt_get s 0 hl0
      simp only [Int.natCast_zero] at hb
      rw [hb]
      have hhead : s.data.toList.head? = some (s.data.toList[0]'hl0) := by rw [List.head?_eq_getElem?, List.getElem?_eq_getElem hl0]
      obtain ⟨c, hc⟩ : ∃ c, s.data.toList[0]'hl0 = c := ⟨_, rfl⟩
      rw [hc] at hhead ⊢
      by_cases h2 : c = 48
      · subst h2
        rw [show (((48 : UInt8).toNat : Int) == 48) = true from rfl, calepinref01_Number.j0, if_pos rfl]
        rcases hn with ⟨hcn, _⟩ | ⟨_, hn⟩
        · exact absurd ⟨hhead, by omega⟩ hcn.2.2
        · rw [hn]; rfl
      · have h3 : ((c.toNat : Int) == 48) = false := beq_eq_false_iff_ne.2 fun h => h2 (UInt8.toNat_inj.1 (by show c.toNat = 48; omega))
        have hcan : Canon s.data.toList ↔ ∀ x ∈ s.data.toList, isDig x := ⟨fun h => h.2.1, fun h => ⟨hne, h, fun h4 => h2 (by have := hhead.symm.trans h4.1; exact Option.some.inj this)⟩⟩
        rw [h3, calepinref01_Number.j0, if_neg (by simp), hl]
        rcases hn with ⟨hcn, hv, hn⟩ | ⟨hcn, hn⟩
        · rw [hn, if_pos ⟨hcan.1 hcn, hv⟩, decide_eq_true ⟨hcan.1 hcn, hv⟩]
        · have : ¬ ((∀ x ∈ s.data.toList, isDig x) ∧ valD 0 s.data.toList ≤ m) := fun h => hcn ⟨hcan.2 h.1, h.2⟩
          rw [hn, if_neg this, decide_eq_false this]; rfl
    · rw [if_neg h1, calepinref01_Number.j0, if_neg (by simp), hl]
      have hcan : Canon s.data.toList ↔ ∀ x ∈ s.data.toList, isDig x := ⟨fun h => h.2.1, fun h => ⟨hne, h, fun h4 => by omega⟩⟩
      rcases hn with ⟨hcn, hv, hn⟩ | ⟨hcn, hn⟩
      · rw [hn, if_pos ⟨hcan.1 hcn, hv⟩, decide_eq_true ⟨hcan.1 hcn, hv⟩]
      · have : ¬ ((∀ x ∈ s.data.toList, isDig x) ∧ valD 0 s.data.toList ≤ m) := fun h => hcn ⟨hcan.2 h.1, h.2⟩
        rw [hn, if_neg this, decide_eq_false this]; rfl
theorem refDec (x : ByteArray) : ∀ (n k : Nat), n < 18446744073709551616 → nDigits n ≤ k → x.size + nDigits n ≤ 1000 →
    calepinref01_Decimal.l0 k (n : Int) x = some ⟨(decDigits n ++ x.data.toList).toArray⟩ := by
  intro n
  induction n using Nat.strongRecOn generalizing x with
  | _ n ih =>
    intro k hn hk hx
    have hnp := nDigits_pos n
    obtain ⟨k, rfl⟩ : ∃ k', k = k' + 1 := ⟨k - 1, by omega⟩
    have hmod : (IntKind.u64.wrap (48 + (Int.tmod (n : Int) 10))) % 256 = ((48 + n % 10 : Nat) : Int) := by
      rw [IntKind.wrap_u64, Int.tmod_eq_emod_of_nonneg (by omega)]; omega
    have hdiv : IntKind.u64.wrap (Int.tdiv (n : Int) 10) = ((n / 10 : Nat) : Int) := by
      rw [IntKind.wrap_u64, Int.tdiv_eq_ediv_of_nonneg (by omega)]; omega
    have hone : strOfNums [((48 + n % 10 : Nat) : Int)] ++ x = ⟨([UInt8.ofNat (48 + n % 10)] ++ x.data.toList).toArray⟩ := by
      apply ByteArray.ext
      apply Array.toList_inj.1
      simp only [ByteArray.data_append, Array.toList_append, strOfNums_data, List.map_cons, List.map_nil, Int.toNat_natCast]
    rw [calepinref01_Decimal.l0]
    simp only [Option.bind_some]
    rw [hmod, hdiv, hone, if_pos (by rw [strOfNums_size]; simp; omega)]
    by_cases h : n < 10
    · rw [if_pos (by omega), decDigits_one h, show n % 10 = n by omega]
    · rw [if_neg (by omega), ih (n / 10) (by omega) _ k (by omega) (by rw [nDigits_big h] at hk; omega) (by rw [nDigits_big h] at hx; rw [size_eq]; show ([_] ++ x.data.toList).length + _ ≤ _; rw [List.length_append, List.length_singleton, ← size_eq]; omega)]
      conv => rhs; rw [decDigits, dif_neg h]
      rw [List.append_assoc]
theorem CharNumbers : calepinlaw01_CharNumbers.Pure := by
  intro s a b hs ha hb
  have ha' : 0 ≤ a ∧ a < 18446744073709551616 := by
    simp [Lit.wf, IntKind.min, IntKind.max, IntKind.signed, IntKind.bits] at ha; omega
  have hb' : 0 ≤ b ∧ b < 18446744073709551616 := by
    simp [Lit.wf, IntKind.min, IntKind.max, IntKind.signed, IntKind.bits] at hb; omega
  obtain ⟨n, rfl⟩ : ∃ n : Nat, a = n := ⟨a.toNat, by omega⟩
  obtain ⟨m, rfl⟩ : ∃ m : Nat, b = m := ⟨b.toNat, by omega⟩
  have hsz : (⟨(decDigits n).toArray⟩ : ByteArray).size = (decDigits n).length := by simp [ByteArray.size]
  have hlist : (⟨(decDigits n).toArray⟩ : ByteArray).toList = decDigits n := by rw [toList_data]
  have hle := dec_len n (by omega)
  refine ⟨2 * s.size + 30, ?_⟩
  have hD : calepinref01_Decimal.f (2 * s.size + 30) (n : Int) = some ⟨(decDigits n).toArray⟩ := by
    have := refDec ⟨#[]⟩ n (2 * s.size + 30) (by omega) (by rw [decDigits_length] at hle; omega) (by rw [decDigits_length] at hle; show 0 + nDigits n ≤ 1000; omega)
    simpa [calepinref01_Decimal.f] using this
  unfold calepinlaw01_CharNumbers.f
  rw [first_n, refNum s m (by omega) (by omega) _ (by omega), hD]
  simp only [Option.bind_some, if_true, char_Decimal.f, if_pos ha', Int.toNat_natCast, char_Number.f]
  rw [if_pos ⟨by omega, hb'⟩]
  simp only [Option.bind_some]
  rw [if_pos ⟨by rw [hsz]; omega, hb'⟩]
  simp only [Option.bind_some, numV_dec n m (by omega), if_true, beq_self_eq_true]
  by_cases h : n ≤ m
  · have : ((n : Int) ≤ (m : Int)) := by omega
    simp [h, this]
  · have : ¬ ((n : Int) ≤ (m : Int)) := by omega
    simp [h, this]
end Go.Proofs.YtpedfpeokedelaaDoor.Pure
