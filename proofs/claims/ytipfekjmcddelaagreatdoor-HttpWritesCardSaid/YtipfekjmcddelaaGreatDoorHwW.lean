/- HttpWrites, the plain law, part W. -/
import Derived.Test.YtipfekjmcddelaaGreatDoorHwB
import Derived.Test.YtipfekjmcddelaaGreatDoorHwD
namespace Go.Proofs.YtipfekjmcddelaaGreatDoor.PureHttpWrites
open Go.RowKit Go.Lib Go.Proofs.YtipfekjmcddelaaGreatDoor.XHttpWrites Go.Proofs.YtipfekjmcddelaaGreatDoorW.zgo Go.Proofs.YtipfekjmcddelaaGreatDoorW.zgp Go.Proofs.YtipfekjmcddelaaGreatDoorW.zgq
set_option maxRecDepth 100000
set_option linter.unusedSimpArgs false
theorem end_far (s : List UInt8) (b : ByteArray) (h : 8192 < s.length) : endF s b = (⟨#[]⟩, 11) := by
  unfold endF
  by_cases h1 : 65536 < b.size
  · rw [if_pos h1]
  · rw [if_neg h1, if_pos (by rw [List.length_append]; omega)]
def accF : List UInt8 → List S62 → List UInt8
  | s, [] => s
  | s, x :: xs => if s.length ≤ 8192 then accF (s ++ (rowF x ++ [13, 10])) xs else accF s xs
theorem acc_far : ∀ (l : List S62) (s : List UInt8), 8192 < s.length → accF s l = s
  | [], s, _ => rfl
  | x :: l, s, h => by rw [accF, if_neg (by omega), acc_far l s h]
theorem acc_end (b : ByteArray) : ∀ (l : List S62) (s : List UInt8), endF (accF s l) b = endF (s ++ rowsF l) b
  | [], s => by rw [accF]; simp [rowsF]
  | x :: l, s => by
    rw [accF]
    by_cases h : s.length ≤ 8192
    · rw [if_pos h, acc_end b l]
      simp only [rowsF, List.flatMap_cons, List.append_assoc]
    · rw [if_neg h, acc_far l s (by omega), end_far s b (by omega), end_far _ b (by rw [List.length_append]; omega)]
/-- What a message is printed as; the error. -/
def prV (r : List UInt8) (l : List S62) (b : ByteArray) : ByteArray × Int :=
  if 32 ≤ l.length then (⟨#[]⟩, 80) else if l.all goodF = true then endF (r ++ [13, 10] ++ rowsF l) b else (⟨#[]⟩, 80)
theorem printed_any (r : List UInt8) (hr : r.length ≤ 900) (l : List S62) (b : ByteArray) (M : Nat) (hM : M ≤ 140737488351232) (hb : b.size ≤ M) (hx : ∀ x ∈ l, x.f0.size ≤ M ∧ x.f1.size ≤ M) (k : Nat) (hk : M + 400 ≤ k) :
    zaz.f k ⟨r.toArray⟩ l b = some (prV r l b) := by
  unfold zaz.f prV
  have hz : (⟨r.toArray⟩ : ByteArray).size = r.length := zdt r
  by_cases h2 : 32 ≤ l.length
  · rw [if_pos (by omega), if_pos h2]
  · have hlp := printed_loop l ⟨r.toArray⟩ b (by omega) M hM hx (by omega) l.length k 0 (r ++ [13, 10]) (by omega) (by omega) (by rw [List.length_append]; simp only [List.length_cons, List.length_nil]; omega)
    rw [Int.natCast_zero, List.drop_zero] at hlp
    rw [if_neg (by omega), if_neg h2, if_pos (by omega), zey, hlp]
theorem wend (k : Nat) (s : List UInt8) (l : List S62) (b : ByteArray) (hb : b.size ≤ 140737488351232) (hs : s.length ≤ 9007199254741992) (hk : 200 ≤ k) :
    zal.l0 (k + 1) b ⟨s.toArray⟩ false l (l.length : Int) (l.length : Int) = some (endF s b) := by
  have hdec := dec_r k b.size hk (by omega)
  have hdl := zfv b.size (by omega)
  have hcl := clenR_len b.size (by omega)
  have hE : ((⟨#[67, 111, 110, 116, 101, 110, 116, 45, 76, 101, 110, 103, 116, 104, 58, 32]⟩ : ByteArray) ++ (⟨(decDigits b.size).toArray⟩ : ByteArray)) ++ (⟨#[13, 10, 13, 10]⟩ : ByteArray) = ⟨(clenR b.size ++ crlf2).toArray⟩ := by
    rw [zey, zey]
    simp [clenR, clenL, crlf2]
  have hEl : (clenR b.size ++ crlf2).length = (clenR b.size).length + 4 := by rw [List.length_append]; rfl
  have hds : (⟨(decDigits b.size).toArray⟩ : ByteArray).size = (decDigits b.size).length := zdt _
  have hcs : (⟨#[67, 111, 110, 116, 101, 110, 116, 45, 76, 101, 110, 103, 116, 104, 58, 32]⟩ : ByteArray).size = 16 := rfl
  have has : (⟨s.toArray⟩ : ByteArray).size = s.length := zdt _
  have hes : (⟨(clenR b.size ++ crlf2).toArray⟩ : ByteArray).size = (clenR b.size ++ crlf2).length := zdt _
  rw [zal.l0, if_neg (by omega), if_neg (by simp), zgf _ (by omega), hdec, Option.bind_some, if_pos (by rw [hds]; omega), if_pos (by rw [ByteArray.size_append, hcs, hds]; omega), hE,
    if_pos (by rw [has, hes, hEl]; omega), zey, zdt (s ++ (clenR b.size ++ crlf2))]
  unfold endF
  by_cases h2 : 8192 < (s ++ (clenR b.size ++ crlf2)).length
  · rw [if_pos (by omega)]
    by_cases h1 : 65536 < b.size
    · rw [if_pos h1]
    · rw [if_neg h1, if_pos h2]
  · rw [if_neg (by omega)]
    by_cases h1 : 65536 < b.size
    · rw [if_pos (by omega), if_pos h1]
    · have hbl : (⟨(s ++ (clenR b.size ++ crlf2)).toArray⟩ : ByteArray) ++ b = ⟨(s ++ (clenR b.size ++ (crlf2 ++ b.data.toList))).toArray⟩ := by
        conv => lhs; rw [← Lib.mk_data b, zey]
        simp only [List.append_assoc]
      rw [if_neg (by omega), if_neg h1, if_neg h2, if_pos (by omega), hbl]
theorem wend_bad (k : Nat) (s : ByteArray) (l : List S62) (b : ByteArray) : zal.l0 (k + 1) b s true l (l.length : Int) (l.length : Int) = some ((⟨#[]⟩ : ByteArray), (80 : Int)) := by
  rw [zal.l0, if_neg (by omega), if_pos rfl]
theorem low_clen : lowL clenL = [99, 111, 110, 116, 101, 110, 116, 45, 108, 101, 110, 103, 116, 104] := by decide +kernel
theorem low_tenc : lowL tencL = [116, 114, 97, 110, 115, 102, 101, 114, 45, 101, 110, 99, 111, 100, 105, 110, 103] := by decide +kernel
theorem write_loop (l : List S62) (b : ByteArray) (hb : b.size ≤ 140737488351232) (M : Nat) (hM : M ≤ 140737488351232) (hx : ∀ x ∈ l, x.f0.size ≤ M ∧ x.f1.size ≤ M) (hl : l.length ≤ 4000000000) : ∀ (j k i : Nat) (s : List UInt8) (bad : Bool), i + j = l.length → j + 2 * M + 300 ≤ k → s.length ≤ 281474976720000 →
    zal.l0 k b ⟨s.toArray⟩ bad l (l.length : Int) (i : Int) = some (if (bad || !(l.drop i).all goodF) = true then (⟨#[]⟩, 80) else endF (accF s (l.drop i)) b) := by
  intro j
  induction j with
  | zero =>
    intro k i s bad hi hk hs
    obtain ⟨k, rfl⟩ : ∃ k', k = k' + 1 := ⟨k - 1, by omega⟩
    obtain rfl : i = l.length := by omega
    rw [List.drop_of_length_le (Nat.le_refl _)]
    cases bad with
    | true => rw [wend_bad]; rfl
    | false => rw [wend k s l b hb (by omega) (by omega)]; rfl
  | succ j ih =>
    intro k i s bad hi hk hs
    obtain ⟨k, rfl⟩ : ∃ k', k = k' + 1 := ⟨k - 1, by omega⟩
    have hlt : i < l.length := by omega
    have hd := List.drop_eq_getElem_cons hlt
    have hz := hx l[i] (List.getElem_mem hlt)
    obtain ⟨x, hxe⟩ : ∃ x, l[i] = x := ⟨_, rfl⟩
    rw [hxe] at hd hz
    obtain ⟨hz0, hz1⟩ := hz
    have zf0 := size_eq x.f0
    have zf1 := size_eq x.f1
    have htail : ∀ bb : Bool, (if ((⟨s.toArray⟩ : ByteArray).size : Int) ≤ 8192 then (if (x.f0).size + 2 ≤ 9223372036854775807 then (if ((x.f0) ++ (⟨#[58, 32]⟩ : ByteArray)).size + (x.f1).size ≤ 9223372036854775807 then (if (((x.f0) ++ (⟨#[58, 32]⟩ : ByteArray)) ++ (x.f1)).size + 2 ≤ 9223372036854775807 then (if (⟨s.toArray⟩ : ByteArray).size + ((((x.f0) ++ (⟨#[58, 32]⟩ : ByteArray)) ++ (x.f1)) ++ (⟨#[13, 10]⟩ : ByteArray)).size ≤ 9223372036854775807 then (zal.l0 k b ((⟨s.toArray⟩ : ByteArray) ++ ((((x.f0) ++ (⟨#[58, 32]⟩ : ByteArray)) ++ (x.f1)) ++ (⟨#[13, 10]⟩ : ByteArray))) bb l (l.length : Int) (wrap64 ((i : Int) + 1))) else (none)) else (none)) else (none)) else (none)) else (zal.l0 k b ⟨s.toArray⟩ bb l (l.length : Int) (wrap64 ((i : Int) + 1))))
        = some (if (bb || !(l.drop (i + 1)).all goodF) = true then (⟨#[]⟩, 80) else endF (accF s (x :: l.drop (i + 1))) b) := by
      intro bb
      have hR : ((x.f0 ++ (⟨#[58, 32]⟩ : ByteArray)) ++ x.f1) ++ (⟨#[13, 10]⟩ : ByteArray) = ⟨(rowF x ++ [13, 10]).toArray⟩ := by
        apply ByteArray.ext
        apply Array.toList_inj.1
        simp [ByteArray.data_append, rowF]
      have hRl : (rowF x ++ [13, 10]).length = x.f0.size + x.f1.size + 4 := by
        rw [zf0, zf1]
        simp only [rowF, List.length_append, List.length_cons, List.length_nil]
        omega
      have h58 : (⟨#[58, 32]⟩ : ByteArray).size = 2 := rfl
      have has : (⟨s.toArray⟩ : ByteArray).size = s.length := zdt _
      have hrs : (⟨(rowF x ++ [13, 10]).toArray⟩ : ByteArray).size = (rowF x ++ [13, 10]).length := zdt _
      rw [accF, wrapE ((i : Int) + 1) (i + 1) (by omega) (by omega)]
      by_cases h : s.length ≤ 8192
      · rw [if_pos (by omega), if_pos (by omega), if_pos (by rw [ByteArray.size_append, h58]; omega), if_pos (by rw [ByteArray.size_append, ByteArray.size_append, h58]; omega), hR,
          if_pos (by rw [has, hrs, hRl]; omega), zey, ih k (i + 1) _ bb (by omega) (by omega) (by rw [List.length_append, hRl]; omega), if_pos h]
      · rw [if_neg (by omega), ih k (i + 1) s bb (by omega) (by omega) hs, if_neg h]
    have hlow := refLower x.f0 (by omega) k (by omega)
    have hlowl : (turnS x.f0 65 90).toList = lowL x.f0.data.toList := by rw [Lib.toList_data]; rfl
    have hname := refname x.f0.data.toList (by omega) k (by omega)
    rw [Lib.mk_data] at hname
    have hrange := refrange x.f1.data.toList 32 126 true (by omega) k (by omega) 32 126 rfl rfl
    rw [Lib.mk_data] at hrange
    change _ = some (x.f1.data.toList.all textC) at hrange
    have htrim := reftrim x.f1.data.toList k (by omega) (by omega)
    rw [Lib.mk_data] at htrim
    have hbad : (bad || !goodF x) = true → (some (if (true || !(l.drop (i + 1)).all goodF) = true then ((⟨#[]⟩ : ByteArray), (80 : Int)) else endF (accF s (x :: l.drop (i + 1))) b)) = some (if (bad || !(x :: l.drop (i + 1)).all goodF) = true then (⟨#[]⟩, 80) else endF (accF s (x :: l.drop (i + 1))) b) := by
      intro h
      rw [List.all_cons, if_pos (by rfl), if_pos]
      cases bad with
      | true => rfl
      | false =>
        rw [Bool.false_or] at h
        rw [show goodF x = false from Bool.eq_false_iff.2 (fun g => by rw [g] at h; cases h), Bool.false_and]
        rfl
    rw [zal.l0, if_pos (by omega), if_pos (by omega), if_pos (by omega), rd_at l i hlt, hxe, hd, hlow, Option.bind_some]
    cases bad with
    | true => rw [if_pos rfl, htail true]; exact hbad rfl
    | false =>
      rw [if_neg (by simp), hname, Option.bind_some]
      by_cases h1 : nameV x.f0 = true
      · rw [if_pos h1, hrange, Option.bind_some]
        by_cases h2 : x.f1.data.toList.all textC = true
        · rw [if_pos h2, htrim, Option.bind_some, Lib.toList_data x.f1, Lib.toList_data, mk_l, hlowl, ← low_clen, ← low_tenc]
          by_cases h3 : trimS x.f1.data.toList blank = x.f1.data.toList
          · rw [if_pos h3]
            by_cases h4 : lowL x.f0.data.toList = lowL clenL
            · rw [if_pos h4, htail true]
              exact hbad (by unfold goodF; rw [beq_iff_eq.2 h4]; simp)
            · rw [if_neg h4, htail]
              by_cases h5 : lowL x.f0.data.toList = lowL tencL
              · rw [beq_iff_eq.2 h5]
                exact hbad (by unfold goodF; rw [beq_iff_eq.2 h5]; simp)
              · have hg : goodF x = true := by
                  unfold goodF
                  rw [h1, h2, decide_eq_true h3, beq_eq_false_iff_ne.2 h4, beq_eq_false_iff_ne.2 h5]
                  rfl
                rw [beq_eq_false_iff_ne.2 h5, List.all_cons, hg, Bool.true_and]
          · rw [if_neg h3, htail true]
            exact hbad (by unfold goodF; rw [decide_eq_false h3]; simp)
        · rw [if_neg h2, htail true]
          exact hbad (by unfold goodF; rw [Bool.eq_false_iff.2 h2]; simp)
      · rw [if_neg h1, htail true]
        exact hbad (by unfold goodF; rw [Bool.eq_false_iff.2 h1]; rfl)
theorem write_any (r : List UInt8) (hr : r.length ≤ 900) (l : List S62) (b : ByteArray) (M : Nat) (hM : M ≤ 140737488351232) (hb : b.size ≤ M) (hx : ∀ x ∈ l, x.f0.size ≤ M ∧ x.f1.size ≤ M) (hl : l.length ≤ 4000000000) (k : Nat) (hk : l.length + 2 * M + 300 ≤ k) :
    zal.f k ⟨r.toArray⟩ l b = some (prV r l b) := by
  have hz : (⟨r.toArray⟩ : ByteArray).size = r.length := zdt r
  unfold zal.f prV
  rw [if_pos (by omega), zey, show (0 : Int) = ((0 : Nat) : Int) from rfl, write_loop l b (by omega) M hM hx hl l.length k 0 (r ++ [13, 10]) _ (by omega) (by omega) (by rw [List.length_append]; simp only [List.length_cons, List.length_nil]; omega), List.drop_zero, acc_end]
  by_cases h : 32 ≤ l.length
  · rw [if_pos h, show decide ((l.length : Int) > 31) = true from decide_eq_true (by omega), if_pos (by rfl)]
  · rw [if_neg h, show decide ((l.length : Int) > 31) = false from decide_eq_false (by omega), Bool.false_or]
    cases hg : l.all goodF with
    | true => rw [if_neg (by simp), if_pos rfl]
    | false => rw [if_pos (by rfl), if_neg (by simp)]
theorem prV_ok {r : List UInt8} {l : List S62} {b : ByteArray} (h : (prV r l b).2 = 0) : l.length < 32 ∧ l.all goodF = true ∧ b.size ≤ 65536 ∧ (joinL r (l.map rowF ++ [clenR b.size])).length + 4 ≤ 8192 ∧
    prV r l b = (⟨(joinL r (l.map rowF ++ [clenR b.size]) ++ (crlf2 ++ b.data.toList)).toArray⟩, 0) := by
  have hj := joinF (clenR b.size) l r
  unfold prV at h ⊢
  by_cases h1 : 32 ≤ l.length
  · rw [if_pos h1] at h; exact absurd h (by decide)
  · rw [if_neg h1] at h ⊢
    by_cases h2 : l.all goodF = true
    · rw [if_pos h2] at h ⊢
      unfold endF at h ⊢
      by_cases h4 : 65536 < b.size
      · rw [if_pos h4] at h; exact absurd h (by decide)
      · rw [if_neg h4] at h ⊢
        by_cases h5 : 8192 < (r ++ [13, 10] ++ rowsF l ++ (clenR b.size ++ crlf2)).length
        · rw [if_pos h5] at h; exact absurd h (by decide)
        · rw [if_neg h5]
          refine ⟨by omega, h2, by omega, ?_, ?_⟩
          · rw [hj]
            simp only [List.length_append, List.length_cons, List.length_nil, crlf2] at h5 ⊢
            omega
          · rw [hj]
            simp only [List.append_assoc, List.cons_append, List.nil_append]
    · rw [if_neg h2] at h; exact absurd h (by decide)
theorem req_len {m t : List UInt8} (h : askedL m t = true) : (reqL m t).length ≤ 900 := by
  obtain ⟨_, _, lm, lt⟩ := zdv h
  simp only [reqL, http11, List.length_append, List.length_cons, List.length_nil]
  omega
theorem req_row (m t : ByteArray) : (((m ++ (⟨#[32]⟩ : ByteArray)) ++ t) ++ (⟨#[32, 72, 84, 84, 80, 47, 49, 46, 49]⟩ : ByteArray)) = ⟨(reqL m.data.toList t.data.toList).toArray⟩ := by
  apply ByteArray.ext
  apply Array.toList_inj.1
  simp [ByteArray.data_append, reqL, http11]
theorem req_row2 (m t : ByteArray) : ((((m ++ (⟨#[32]⟩ : ByteArray)) ++ t) ++ (⟨#[32]⟩ : ByteArray)) ++ (⟨#[72, 84, 84, 80, 47, 49, 46, 49]⟩ : ByteArray)) = ⟨(reqL m.data.toList t.data.toList).toArray⟩ := by
  apply ByteArray.ext
  apply Array.toList_inj.1
  simp [ByteArray.data_append, reqL, http11]
/-- What a request is printed as; the error. -/
def reqV (m t : ByteArray) (l : List S62) (b : ByteArray) : ByteArray × Int := if askedL m.data.toList t.data.toList = true then prV (reqL m.data.toList t.data.toList) l b else (⟨#[]⟩, 80)
theorem printReq_any (m t b : ByteArray) (l : List S62) (M : Nat) (hM : M ≤ 140737488351232) (hm : m.size ≤ M) (ht : t.size ≤ M) (hb : b.size ≤ M) (hx : ∀ x ∈ l, x.f0.size ≤ M ∧ x.f1.size ≤ M) (k : Nat) (hk : M + 400 ≤ k) :
    zcs.f k m t l b = some (reqV m t l b) := by
  have h32 : (⟨#[32]⟩ : ByteArray).size = 1 := rfl
  unfold zcs.f reqV
  rw [asked_f m t (by omega) (by omega) k (by omega), Option.bind_some]
  by_cases h1 : askedL m.data.toList t.data.toList = true
  · rw [if_pos h1, if_pos h1, if_pos (by omega), if_pos (by rw [ByteArray.size_append, h32]; omega), if_pos (by rw [ByteArray.size_append, ByteArray.size_append, h32]; omega),
      if_pos (by rw [ByteArray.size_append, ByteArray.size_append, ByteArray.size_append, h32]; omega), req_row2, printed_any _ (req_len h1) l b M hM hb hx k hk, Option.bind_some]
  · rw [if_neg h1, if_neg h1]
theorem asked_any (m t : ByteArray) (hm : m.size ≤ 140737488351232) (ht : t.size ≤ 140737488351232) (k : Nat) (hk : m.size + t.size + 1 ≤ k) : zcq.f k m t = some (askedL m.data.toList t.data.toList) := by
  have zm := size_eq m
  have zt := size_eq t
  have h1 := refrange m.data.toList 65 90 false (by omega) k (by omega) 65 90 rfl rfl
  have h2 := refrange t.data.toList 33 126 false (by omega) k (by omega) 33 126 rfl rfl
  simp only [Bool.false_and, Bool.false_or] at h1 h2
  rw [Lib.mk_data] at h1 h2
  unfold zcq.f askedL
  rw [h1, h2, zm, zt]
  simp only [Option.bind_some]
  generalize (m.data.toList.all fun c => decide (65 ≤ c.toNat) && decide (c.toNat ≤ 90)) = A
  generalize (t.data.toList.all fun c => decide (33 ≤ c.toNat) && decide (c.toNat ≤ 126)) = B
  generalize m.data.toList = m'
  generalize t.data.toList = t'
  cases m' with
  | nil => rw [if_neg (by simp)]; rfl
  | cons a m =>
    rw [if_pos (by simp)]
    by_cases hm2 : (a :: m).length ≤ 16
    · rw [if_pos (by omega), decide_eq_true hm2]
      cases A with
      | false => rw [if_neg (by simp)]; simp
      | true =>
        rw [if_pos rfl]
        cases t' with
        | nil => rw [if_neg (by simp)]; simp
        | cons b t =>
          rw [if_pos (by simp)]
          by_cases ht2 : (b :: t).length ≤ 256
          · rw [if_pos (by omega), decide_eq_true ht2]; simp
          · rw [if_neg (by omega), decide_eq_false ht2]; simp
    · rw [if_neg (by omega), decide_eq_false hm2]; simp
theorem reason_ref (n : Int) : zcf.f n = some (reasonV n) := by
  unfold zcf.f reasonV
  by_cases h200 : n = 200
  · rw [if_pos h200, if_pos h200]
  rw [if_neg h200, if_neg h200]
  by_cases h201 : n = 201
  · rw [if_pos h201, if_pos h201]
  rw [if_neg h201, if_neg h201]
  by_cases h204 : n = 204
  · rw [if_pos h204, if_pos h204]
  rw [if_neg h204, if_neg h204]
  by_cases h207 : n = 207
  · rw [if_pos h207, if_pos h207]
  rw [if_neg h207, if_neg h207]
  by_cases h400 : n = 400
  · rw [if_pos h400, if_pos h400]
  rw [if_neg h400, if_neg h400]
  by_cases h403 : n = 403
  · rw [if_pos h403, if_pos h403]
  rw [if_neg h403, if_neg h403]
  by_cases h404 : n = 404
  · rw [if_pos h404, if_pos h404]
  rw [if_neg h404, if_neg h404]
  by_cases h405 : n = 405
  · rw [if_pos h405, if_pos h405]
  rw [if_neg h405, if_neg h405]
  by_cases h409 : n = 409
  · rw [if_pos h409, if_pos h409]
  rw [if_neg h409, if_neg h409]
  by_cases h412 : n = 412
  · rw [if_pos h412, if_pos h412]
  rw [if_neg h412, if_neg h412]
  by_cases h413 : n = 413
  · rw [if_pos h413, if_pos h413]
  rw [if_neg h413, if_neg h413]
  by_cases h421 : n = 421
  · rw [if_pos h421, if_pos h421]
  rw [if_neg h421, if_neg h421]
  by_cases h503 : n = 503
  · rw [if_pos h503, if_pos h503]
  rw [if_neg h503, if_neg h503]
  by_cases h507 : n = 507
  · rw [if_pos h507, if_pos h507]
  rw [if_neg h507, if_neg h507]
def reasons : List ByteArray := [⟨#[79, 75]⟩, ⟨#[67, 114, 101, 97, 116, 101, 100]⟩, ⟨#[78, 111, 32, 67, 111, 110, 116, 101, 110, 116]⟩, ⟨#[77, 117, 108, 116, 105, 45, 83, 116, 97, 116, 117, 115]⟩, ⟨#[66, 97, 100, 32, 82, 101, 113, 117, 101, 115, 116]⟩, ⟨#[70, 111, 114, 98, 105, 100, 100, 101, 110]⟩, ⟨#[78, 111, 116, 32, 70, 111, 117, 110, 100]⟩, ⟨#[77, 101, 116, 104, 111, 100, 32, 78, 111, 116, 32, 65, 108, 108, 111, 119, 101, 100]⟩, ⟨#[67, 111, 110, 102, 108, 105, 99, 116]⟩, ⟨#[80, 114, 101, 99, 111, 110, 100, 105, 116, 105, 111, 110, 32, 70, 97, 105, 108, 101, 100]⟩, ⟨#[67, 111, 110, 116, 101, 110, 116, 32, 84, 111, 111, 32, 76, 97, 114, 103, 101]⟩, ⟨#[77, 105, 115, 100, 105, 114, 101, 99, 116, 101, 100, 32, 82, 101, 113, 117, 101, 115, 116]⟩, ⟨#[83, 101, 114, 118, 105, 99, 101, 32, 85, 110, 97, 118, 97, 105, 108, 97, 98, 108, 101]⟩, ⟨#[73, 110, 115, 117, 102, 102, 105, 99, 105, 101, 110, 116, 32, 83, 116, 111, 114, 97, 103, 101]⟩, ⟨#[79, 116, 104, 101, 114]⟩]
theorem reason_mem (n : Int) : reasonV n ∈ reasons := by
  unfold reasonV reasons
  by_cases h200 : n = 200
  · rw [if_pos h200]; exact List.mem_cons_self
  rw [if_neg h200]
  by_cases h201 : n = 201
  · rw [if_pos h201]; apply List.mem_cons_of_mem; exact List.mem_cons_self
  rw [if_neg h201]
  by_cases h204 : n = 204
  · rw [if_pos h204]; apply List.mem_cons_of_mem; apply List.mem_cons_of_mem; exact List.mem_cons_self
  rw [if_neg h204]
  by_cases h207 : n = 207
  · rw [if_pos h207]; apply List.mem_cons_of_mem; apply List.mem_cons_of_mem; apply List.mem_cons_of_mem; exact List.mem_cons_self
  rw [if_neg h207]
  by_cases h400 : n = 400
  · rw [if_pos h400]; apply List.mem_cons_of_mem; apply List.mem_cons_of_mem; apply List.mem_cons_of_mem; apply List.mem_cons_of_mem; exact List.mem_cons_self
  rw [if_neg h400]
  by_cases h403 : n = 403
  · rw [if_pos h403]; apply List.mem_cons_of_mem; apply List.mem_cons_of_mem; apply List.mem_cons_of_mem; apply List.mem_cons_of_mem; apply List.mem_cons_of_mem; exact List.mem_cons_self
  rw [if_neg h403]
  by_cases h404 : n = 404
  · rw [if_pos h404]; apply List.mem_cons_of_mem; apply List.mem_cons_of_mem; apply List.mem_cons_of_mem; apply List.mem_cons_of_mem; apply List.mem_cons_of_mem; apply List.mem_cons_of_mem; exact List.mem_cons_self
  rw [if_neg h404]
  by_cases h405 : n = 405
  · rw [if_pos h405]; apply List.mem_cons_of_mem; apply List.mem_cons_of_mem; apply List.mem_cons_of_mem; apply List.mem_cons_of_mem; apply List.mem_cons_of_mem; apply List.mem_cons_of_mem; apply List.mem_cons_of_mem; exact List.mem_cons_self
  rw [if_neg h405]
  by_cases h409 : n = 409
  · rw [if_pos h409]; apply List.mem_cons_of_mem; apply List.mem_cons_of_mem; apply List.mem_cons_of_mem; apply List.mem_cons_of_mem; apply List.mem_cons_of_mem; apply List.mem_cons_of_mem; apply List.mem_cons_of_mem; apply List.mem_cons_of_mem; exact List.mem_cons_self
  rw [if_neg h409]
  by_cases h412 : n = 412
  · rw [if_pos h412]; apply List.mem_cons_of_mem; apply List.mem_cons_of_mem; apply List.mem_cons_of_mem; apply List.mem_cons_of_mem; apply List.mem_cons_of_mem; apply List.mem_cons_of_mem; apply List.mem_cons_of_mem; apply List.mem_cons_of_mem; apply List.mem_cons_of_mem; exact List.mem_cons_self
  rw [if_neg h412]
  by_cases h413 : n = 413
  · rw [if_pos h413]; apply List.mem_cons_of_mem; apply List.mem_cons_of_mem; apply List.mem_cons_of_mem; apply List.mem_cons_of_mem; apply List.mem_cons_of_mem; apply List.mem_cons_of_mem; apply List.mem_cons_of_mem; apply List.mem_cons_of_mem; apply List.mem_cons_of_mem; apply List.mem_cons_of_mem; exact List.mem_cons_self
  rw [if_neg h413]
  by_cases h421 : n = 421
  · rw [if_pos h421]; apply List.mem_cons_of_mem; apply List.mem_cons_of_mem; apply List.mem_cons_of_mem; apply List.mem_cons_of_mem; apply List.mem_cons_of_mem; apply List.mem_cons_of_mem; apply List.mem_cons_of_mem; apply List.mem_cons_of_mem; apply List.mem_cons_of_mem; apply List.mem_cons_of_mem; apply List.mem_cons_of_mem; exact List.mem_cons_self
  rw [if_neg h421]
  by_cases h503 : n = 503
  · rw [if_pos h503]; apply List.mem_cons_of_mem; apply List.mem_cons_of_mem; apply List.mem_cons_of_mem; apply List.mem_cons_of_mem; apply List.mem_cons_of_mem; apply List.mem_cons_of_mem; apply List.mem_cons_of_mem; apply List.mem_cons_of_mem; apply List.mem_cons_of_mem; apply List.mem_cons_of_mem; apply List.mem_cons_of_mem; apply List.mem_cons_of_mem; exact List.mem_cons_self
  rw [if_neg h503]
  by_cases h507 : n = 507
  · rw [if_pos h507]; apply List.mem_cons_of_mem; apply List.mem_cons_of_mem; apply List.mem_cons_of_mem; apply List.mem_cons_of_mem; apply List.mem_cons_of_mem; apply List.mem_cons_of_mem; apply List.mem_cons_of_mem; apply List.mem_cons_of_mem; apply List.mem_cons_of_mem; apply List.mem_cons_of_mem; apply List.mem_cons_of_mem; apply List.mem_cons_of_mem; apply List.mem_cons_of_mem; exact List.mem_cons_self
  rw [if_neg h507]
  apply List.mem_cons_of_mem; apply List.mem_cons_of_mem; apply List.mem_cons_of_mem; apply List.mem_cons_of_mem; apply List.mem_cons_of_mem; apply List.mem_cons_of_mem; apply List.mem_cons_of_mem; apply List.mem_cons_of_mem; apply List.mem_cons_of_mem; apply List.mem_cons_of_mem; apply List.mem_cons_of_mem; apply List.mem_cons_of_mem; apply List.mem_cons_of_mem; apply List.mem_cons_of_mem; exact List.mem_cons_self
theorem zdy (n : Int) : ((reasonV n).data.toList.all fun c => decide (32 ≤ c.toNat) && decide (c.toNat ≤ 126)) = true ∧ (reasonV n).data.toList.length ≤ 30 := by
  have h : ∀ r ∈ reasons, (r.data.toList.all fun c => decide (32 ≤ c.toNat) && decide (c.toNat ≤ 126)) = true ∧ r.data.toList.length ≤ 30 := by decide +kernel
  exact h _ (reason_mem n)
def respL (n : Nat) : List UInt8 := http11 ++ 32 :: (decDigits n ++ 32 :: (reasonV (n : Int)).data.toList)
theorem zef (n : Nat) (h1 : 100 ≤ n) (h2 : n ≤ 599) : (decDigits n).length = 3 ∧ 49 ≤ ((decDigits n).getD 0 0).toNat ∧ ((decDigits n).getD 0 0).toNat ≤ 53 := by
  have h3 := dec3 ⟨n / 100 - 1, by omega⟩ ⟨n / 10 % 10, by omega⟩ ⟨n % 10, by omega⟩
  simp only at h3
  rw [show 100 * (n / 100 - 1 + 1) + 10 * (n / 10 % 10) + n % 10 = n by omega] at h3
  rw [h3]
  have h4 : ∀ x : Fin 5, 49 ≤ (UInt8.ofNat (49 + x.val)).toNat ∧ (UInt8.ofNat (49 + x.val)).toNat ≤ 53 := by decide +kernel
  have h5 := h4 ⟨n / 100 - 1, by omega⟩
  exact ⟨rfl, h5⟩
theorem dec_all (n : Nat) : ((decDigits n).all fun c => decide (48 ≤ c.toNat) && decide (c.toNat ≤ 57)) = true := by
  refine List.all_eq_true.2 fun c hc => ?_
  have h := zgc n c hc
  unfold isDig at h
  rw [Bool.and_eq_true, decide_eq_true_eq, decide_eq_true_eq]
  exact h
theorem http11_32 : ∀ c ∈ http11, c ≠ 32 := by decide
theorem dec_32 (n : Nat) : ∀ c ∈ decDigits n, c ≠ 32 := by
  intro c hc h
  have := (zeh n c hc).2.1
  rw [h] at this
  exact absurd this (by decide)
theorem zfr (n : Nat) : cut (respL n) [32] = (http11, decDigits n ++ 32 :: (reasonV (n : Int)).data.toList, true) ∧ cut (decDigits n ++ 32 :: (reasonV (n : Int)).data.toList) [32] = (decDigits n, (reasonV (n : Int)).data.toList, true) :=
  ⟨zfw 32 _ _ http11_32, zfw 32 _ _ (dec_32 n)⟩
theorem resp_ok (n : Nat) (h1 : 100 ≤ n) (h2 : n ≤ 599) : respOk (respL n) = true := by
  obtain ⟨c1, c2⟩ := zfr n
  obtain ⟨d1, d2, d3⟩ := zef n h1 h2
  refine (respOk_iff _).2 ?_
  rw [c1]
  simp only
  rw [c2]
  exact ⟨by first | rfl | trivial, by first | rfl | trivial, d1, d2, d3, dec_all n, (zdy _).1⟩
theorem resp_code (n : Nat) (h1 : 100 ≤ n) (h2 : n ≤ 599) : codeL (decDigits n) = n := by
  obtain ⟨d1, d2, d3⟩ := zef n h1 h2
  have h3 := (code_num (decDigits n) d1 d2 d3 (dec_all n)).1
  rw [zfs n 599 (by omega), if_pos h2] at h3
  exact (congrArg Prod.fst h3).symm
theorem resp_no13 (n : Nat) : No13 (respL n) := by
  intro c hc
  unfold respL at hc
  rcases List.mem_append.1 hc with hc | hc
  · exact (show ∀ c ∈ http11, c ≠ 13 by decide) c hc
  · rcases List.mem_cons.1 hc with rfl | hc
    · decide
    · rcases List.mem_append.1 hc with hc | hc
      · exact (zeh n c hc).2.2
      · rcases List.mem_cons.1 hc with rfl | hc
        · decide
        · have h := List.all_eq_true.1 (zdy (n : Int)).1 c hc
          rw [Bool.and_eq_true, decide_eq_true_eq, decide_eq_true_eq] at h
          rintro rfl
          exact absurd h.1 (by decide)
theorem resp_len (n : Nat) (h1 : 100 ≤ n) (h2 : n ≤ 599) : (respL n).length ≤ 100 := by
  have h3 := (zef n h1 h2).1
  have h4 := (zdy (n : Int)).2
  simp only [respL, http11, List.length_append, List.length_cons, List.length_nil]
  omega
/-- What a response is printed as; the error. -/
def respV (n : Int) (l : List S62) (b : ByteArray) : ByteArray × Int := if 100 ≤ n ∧ n ≤ 599 then prV (respL n.toNat) l b else (⟨#[]⟩, 80)
theorem resp_row (n : Nat) : ((((⟨#[72, 84, 84, 80, 47, 49, 46, 49, 32]⟩ : ByteArray) ++ (⟨(decDigits n).toArray⟩ : ByteArray)) ++ (⟨#[32]⟩ : ByteArray)) ++ reasonV (n : Int)) = ⟨(respL n).toArray⟩ := by
  apply ByteArray.ext
  apply Array.toList_inj.1
  simp [ByteArray.data_append, respL, http11]
theorem printResp_any (n : Int) (b : ByteArray) (l : List S62) (hw : (Lit.int .i64 n).wf = true) (M : Nat) (hM : M ≤ 140737488351232) (hb : b.size ≤ M) (hx : ∀ x ∈ l, x.f0.size ≤ M ∧ x.f1.size ≤ M) (k : Nat) (hk : M + 500 ≤ k) :
    zas.f k n l b = some (respV n l b) := by
  obtain ⟨k, rfl⟩ : ∃ k', k = k' + 1 := ⟨k - 1, by omega⟩
  unfold zas.f respV
  by_cases h1 : n < 100
  · rw [if_pos h1, zas.j0, if_pos rfl, if_neg (by omega)]
  · rw [if_neg h1]
    by_cases h2 : n > 599
    · rw [decide_eq_true h2, zas.j0, if_pos rfl, if_neg (by omega)]
    · obtain ⟨N, rfl⟩ : ∃ N : Nat, n = (N : Int) := ⟨n.toNat, by omega⟩
      have hdec : zcm.f (N : Int) = some ⟨(decDigits N).toArray⟩ := by
        unfold zcm.f
        rw [if_pos ⟨by omega, by omega⟩, Int.toNat_natCast]
      have hre : zcx.f (N : Int) = some (reasonV (N : Int)) := by
        unfold zcx.f
        rw [if_pos hw]
      have hds : (⟨(decDigits N).toArray⟩ : ByteArray).size = 3 := by rw [zdt]; exact (zef N (by omega) (by omega)).1
      have hrs : (reasonV (N : Int)).size ≤ 30 := by rw [size_eq]; exact (zdy (N : Int)).2
      have h9 : (⟨#[72, 84, 84, 80, 47, 49, 46, 49, 32]⟩ : ByteArray).size = 9 := rfl
      have h32 : (⟨#[32]⟩ : ByteArray).size = 1 := rfl
      rw [decide_eq_false h2, zas.j0, if_neg (by simp), zgf _ (by omega), hdec, Option.bind_some, if_pos (by rw [hds]; omega), if_pos (by rw [ByteArray.size_append, h9, hds]; omega), hre, Option.bind_some,
        if_pos (by rw [ByteArray.size_append, ByteArray.size_append, h9, hds, h32]; omega), resp_row, printed_any _ (by have := resp_len N (by omega) (by omega); omega) l b M hM hb hx k (by omega), Option.bind_some, if_pos ⟨by omega, by omega⟩, Int.toNat_natCast]
theorem hd_msg (r : List UInt8) (rs : List (List UInt8)) (rest : List UInt8) (hr : No13 r) (hs : ∀ x ∈ rs, No13 x ∧ x ≠ []) : hd (joinL r rs ++ (crlf2 ++ rest)) = some (r :: rs, rest) := by
  have hi := zff r rs rest hr hs
  cases hH : hd (joinL r rs ++ (crlf2 ++ rest)) with
  | none => rw [zfu _ hH] at hi; omega
  | some x =>
    obtain ⟨rows, rest'⟩ := x
    obtain ⟨J, e1, e2, e3⟩ := zfg _ _ _ hH
    have hl : (joinL r rs).length = J.length := by omega
    obtain ⟨e4, e5⟩ := List.append_inj e1 hl
    subst e4
    have e6 := List.append_cancel_left e5
    rw [← e3, ← split_spl2 _ _ (Nat.le_refl _), zew r rs hr (fun x h => (hs x h).1), e6]
theorem mkS_prS (l : List S62) : (l.map prS).map mkS = l := by
  rw [List.map_map]
  conv => rhs; rw [← List.map_id l]
  refine List.map_congr_left fun x _ => ?_
  show (⟨⟨x.f0.data.toList.toArray⟩, ⟨x.f1.data.toList.toArray⟩⟩ : S62) = x
  rw [Lib.mk_data, Lib.mk_data]
theorem response_back (s : ByteArray) (n : Nat) (h1 : 100 ≤ n) (h2 : n ≤ 599) (l : List S62) (b : ByteArray) (more : List UInt8) (hs : s.size ≤ 140737488351232) (hl : l.length < 32) (hg : l.all goodF = true) (hb : b.size ≤ 65536)
    (hJ : (joinL (respL n) (l.map rowF ++ [clenR b.size])).length + 4 ≤ 8192) (hd' : s.data.toList = joinL (respL n) (l.map rowF ++ [clenR b.size]) ++ (crlf2 ++ (b.data.toList ++ more))) (k : Nat) (hk : 9000 ≤ k) :
    zcc.f k s = some ((n : Int), l, b, (((joinL (respL n) (l.map rowF ++ [clenR b.size])).length + 4 + b.size : Nat) : Int), 0) := by
  have hr := rows_good b.size l hg
  have hf := zfh b.size hb l [] hg
  have hmsg := fun rest => hd_msg (respL n) (l.map rowF ++ [clenR b.size]) rest (resp_no13 n) hr
  have hrl : (l.map rowF ++ [clenR b.size]).length ≤ 32 := by rw [List.length_append, List.length_map]; simp only [List.length_cons, List.length_nil]; omega
  have hsz := size_eq s
  have zb := size_eq b
  obtain ⟨JL, hJL⟩ : ∃ JL, joinL (respL n) (l.map rowF ++ [clenR b.size]) = JL := ⟨_, rfl⟩
  rw [hJL] at hJ hd' hmsg ⊢
  have hlen : s.data.toList.length = JL.length + 4 + (b.size + more.length) := by rw [hd', List.length_append, List.length_append, List.length_append, ← zb]; show _ + (4 + _) = _; omega
  obtain ⟨N, hN⟩ : ∃ N : Nat, N = min s.size 8192 := ⟨_, rfl⟩
  have htk : s.data.toList.take N = JL ++ (crlf2 ++ (b.data.toList ++ more).take (N - JL.length - 4)) := by
    rw [hd', List.take_append, List.take_append, List.take_of_length_le (by omega), List.take_of_length_le (by show 4 ≤ _; omega)]
    rfl
  have hat : N - ((b.data.toList ++ more).take (N - JL.length - 4)).length = JL.length + 4 := by
    rw [List.length_take, List.length_append]
    omega
  have hdr : s.data.toList.drop (JL.length + 4) = b.data.toList ++ more := by
    rw [hd', ← List.append_assoc]
    exact List.drop_left' (by rw [List.length_append]; rfl)
  rw [response_any s hs k hk, ← hN, htk, hmsg, ansY, if_pos hrl, hf]
  simp only [List.nil_append]
  rw [if_pos (resp_ok n h1 h2), ← hN, hat, if_neg (by omega), hdr, List.take_left' zb.symm, mkS_prS, (zfr n).1]
  simp only
  rw [(zfr n).2]
  simp only
  rw [resp_code n h1 h2, Lib.mk_data]
theorem request_back (s m t : ByteArray) (ha : askedL m.data.toList t.data.toList = true) (l : List S62) (b : ByteArray) (more : List UInt8) (hs : s.size ≤ 140737488351232) (hl : l.length < 32) (hg : l.all goodF = true) (hb : b.size ≤ 65536)
    (hJ : (joinL (reqL m.data.toList t.data.toList) (l.map rowF ++ [clenR b.size])).length + 4 ≤ 8192) (hd' : s.data.toList = joinL (reqL m.data.toList t.data.toList) (l.map rowF ++ [clenR b.size]) ++ (crlf2 ++ (b.data.toList ++ more))) (k : Nat) (hk : 9000 ≤ k) :
    zat.f k s = some (m, t, l, b, (((joinL (reqL m.data.toList t.data.toList) (l.map rowF ++ [clenR b.size])).length + 4 + b.size : Nat) : Int), 0) := by
  have hr := rows_good b.size l hg
  have hrl : (l.map rowF ++ [clenR b.size]).length ≤ 32 := by rw [List.length_append, List.length_map]; simp only [List.length_cons, List.length_nil]; omega
  have zb := size_eq b
  rw [request_go s m.data.toList t.data.toList (l.map rowF ++ [clenR b.size]) _ (by omega) hd' ha hr hJ hrl k (by omega), zfh b.size hb l [] hg]
  refine congrArg some ((if_neg ?_).trans ?_)
  · show ¬ (b.data.toList ++ more).length < b.size
    rw [List.length_append]
    omega
  · show ((⟨m.data.toList.toArray⟩ : ByteArray), (⟨t.data.toList.toArray⟩ : ByteArray), List.map mkS ([] ++ _), (⟨(List.take b.size _).toArray⟩ : ByteArray), _, (0 : Int)) = _
    rw [List.take_left' zb.symm, List.nil_append, mkS_prS, Lib.mk_data, Lib.mk_data, Lib.mk_data]
theorem same_l0 (l : List S62) (hl : l.length ≤ 4000000) : ∀ (j k i : Nat), i + j = l.length → j + 1 ≤ k → zbo.l0 k l l (l.length : Int) (i : Int) = some true := by
  intro j
  induction j with
  | zero =>
    intro k i hi hk
    obtain ⟨k, rfl⟩ : ∃ k', k = k' + 1 := ⟨k - 1, by omega⟩
    rw [zbo.l0, if_neg (by omega)]
  | succ j ih =>
    intro k i hi hk
    obtain ⟨k, rfl⟩ : ∃ k', k = k' + 1 := ⟨k - 1, by omega⟩
    rw [zbo.l0, if_pos (by omega), if_pos (by omega), if_pos (by omega), if_pos (by omega), if_neg (by simp), wrapE ((i : Int) + 1) (i + 1) (by omega) (by omega)]
    exact ih k (i + 1) (by omega) (by omega)
theorem same_self (l : List S62) (hl : l.length ≤ 4000000) (k : Nat) (hk : l.length + 1 ≤ k) : zbo.f k l l = some true := by
  unfold zbo.f
  rw [if_pos rfl]
  exact same_l0 l hl l.length k 0 (by omega) hk
end Go.Proofs.YtipfekjmcddelaaGreatDoor.PureHttpWrites
