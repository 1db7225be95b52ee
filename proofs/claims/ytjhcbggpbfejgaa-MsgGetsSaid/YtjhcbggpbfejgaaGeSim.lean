import Derived.Test.YtjhcbggpbfejgaaXCodecGetsx3
import Derived.Test.YtjhcbggpbfejgaaCq
import Derived.Test.YtjhcbggpbfejgaaCv
import Derived.Deep.DeepCutAuto
namespace Go.Proofs.Ytjhcbggpbfejgaa.XCodecGets
open Go.RowKit Go.Proofs.zjt.zjq Go.Proofs.zjt.zjr Go.Proofs.zjt.zjs
open Go.Proofs.Ytjhcbggpbfejgaa.Cp
set_option linter.unusedVariables false
set_option linter.unusedSimpArgs false
/-- The reader's state that a tape's is. -/
def st (B : List Int) (at_ : Int) (sh fo : Bool) : St := (B.drop at_.toNat, if sh = true then 150 else if fo = true then 31 else 0)
theorem st_short (B : List Int) (at_ : Int) (sh fo : Bool) : (st B at_ sh fo).2 = 150 ↔ sh = true := by
  unfold st
  cases sh <;> cases fo <;> simp
theorem w64s {a : Int} (h0 : 0 ≤ a) (h1 : a < 9223372036854775808) : wrap64 a = a := by unfold wrap64; omega
theorem u64s {a : Int} (h0 : 0 ≤ a) (h1 : a < 18446744073709551616) : IntKind.u64.wrap a = a := by simp [IntKind.wrap, IntKind.signed, IntKind.bits]; omega
theorem zim (B : List Int) (hB : Bs B) (at_ : Int) (sh fo : Bool) (h0 : 0 ≤ at_) (h1 : at_ + 8 ≤ B.length) (hl : B.length ≤ 1099511627776) (k j : Nat) (hj : j < 8) :
    zaj.l0 (k + 1) (unum (((B.drop at_.toNat).take 8).take j)) (j : Int) B at_ sh fo = zaj.l0 k (unum (((B.drop at_.toNat).take 8).take (j + 1))) ((j + 1 : Nat) : Int) B at_ sh fo := by
  have hlen : ((B.drop at_.toNat).take 8).length = 8 := by rw [List.length_take, List.length_drop]; omega
  have hys : Bs ((B.drop at_.toNat).take 8) := (hB.drop _).take _
  have hu := zii _ hys (by omega) j (by omega)
  have ht := zgz ((B.drop at_.toNat).take 8) (j : Int) (by omega) (by omega)
  have e1 : ((j : Int) + 1).toNat = j + 1 := by omega
  rw [e1, Int.toNat_natCast] at ht
  have hr : rd B (at_ + j) = rd ((B.drop at_.toNat).take 8) (j : Int) := by
    unfold rd
    rw [List.getD_eq_getElem?_getD, List.getD_eq_getElem?_getD, Int.toNat_natCast, List.getElem?_take_of_lt hj, List.getElem?_drop, show (at_ + (j : Int)).toNat = at_.toNat + j by omega]
  have hb : 0 ≤ rd ((B.drop at_.toNat).take 8) (j : Int) ∧ rd ((B.drop at_.toNat).take 8) (j : Int) < 256 := by
    unfold rd
    rw [List.getD_eq_getElem?_getD, Int.toNat_natCast, List.getElem?_eq_getElem (by omega)]
    exact hys _ (List.getElem_mem _)
  rw [zaj.l0, if_pos (by omega), w64s (a := at_ + j) (by omega) (by omega), if_pos (by omega), if_pos (by omega), hr, u64s (a := 256 * _) (by omega) (by omega), u64s (a := rd _ _) (by omega) (by omega), u64s (by omega) (by omega), ht, w64s (by omega) (by omega)]
  congr 1
  omega
theorem take_no (s : St) (n : Int) (h : s.2 = 150 ∨ (s.1.length : Int) < n) : take s n = ([], (s.1, 150)) := if_pos h
theorem take_yes (s : St) (n : Int) (h : ¬(s.2 = 150 ∨ (s.1.length : Int) < n)) : take s n = (s.1.take n.toNat, (s.1.drop n.toNat, s.2)) := if_neg h
theorem zfo (B : List Int) (at_ : Int) (sh fo : Bool) (h0 : 0 ≤ at_) (h1 : at_ ≤ B.length) : ((st B at_ sh fo).1.length : Int) = B.length - at_ := by
  show ((B.drop at_.toNat).length : Int) = _
  rw [List.length_drop]
  omega
theorem ziw (B : List Int) (at_ : Int) (fo : Bool) : (st B at_ false fo).2 ≠ 150 := by unfold st; cases fo <;> simp
theorem st_drop (B : List Int) (at_ n : Int) (fo : Bool) (h0 : 0 ≤ at_) (hn : 0 ≤ n) : ((st B at_ false fo).1.drop n.toNat, (st B at_ false fo).2) = st B (at_ + n) false fo := by
  unfold st
  simp only [List.drop_drop]
  rw [show (at_ + n).toNat = at_.toNat + n.toNat by omega]
/-- What the reader takes, in the tape's words. -/
theorem zfz (B : List Int) (at_ n : Int) (sh fo : Bool) (h0 : 0 ≤ at_) (h1 : at_ ≤ B.length) (hn : 0 ≤ n) :
    take (st B at_ sh fo) n = if sh = true ∨ (B.length : Int) - at_ < n then ([], st B at_ true fo) else ((B.drop at_.toNat).take n.toNat, st B (at_ + n) sh fo) := by
  have hlen := zfo B at_ sh fo h0 h1
  cases sh with
  | true => rw [if_pos (.inl rfl), take_no _ _ (.inl rfl)]; rfl
  | false =>
    by_cases c : (B.length : Int) - at_ < n
    · rw [if_pos (.inr c), take_no _ _ (.inr (by omega))]
      rfl
    · rw [if_neg (by simp [c]), take_yes _ _ (by rintro (h | h); exact ziw _ _ _ h; omega), st_drop B at_ n fo h0 hn]
      rfl
theorem zdv (B : List Int) (hB : Bs B) (hl : B.length ≤ 1099511627776) (k : Nat) (at_ : Int) (sh fo : Bool) (h0 : 0 ≤ at_) (h1 : at_ ≤ B.length) :
    ∃ (a : Int) (s f : Bool), zaj.f (k + 10) B at_ sh fo = some ((raw (st B at_ sh fo)).1, a, s, f) ∧ 0 ≤ a ∧ a ≤ B.length ∧ st B a s f = (raw (st B at_ sh fo)).2 := by
  have hlen : (B.drop at_.toNat).length = B.length - at_.toNat := List.length_drop
  have hT := zfz B at_ 8 sh fo h0 h1 (by omega)
  unfold zaj.f raw
  rw [hT]
  cases sh with
  | true =>
    refine ⟨at_, true, fo, ?_, h0, h1, rfl⟩
    rw [if_pos rfl, show k + 10 = (k + 9) + 1 by omega, zaj.j0, if_pos rfl]
    rfl
  | false =>
    rw [if_neg (by simp), w64s (by omega) (by omega)]
    by_cases c : (B.length : Int) - at_ < 8
    · refine ⟨at_, true, fo, ?_, h0, h1, by rw [if_pos (.inr c)]⟩
      rw [decide_eq_true c, show k + 10 = (k + 9) + 1 by omega, zaj.j0, if_pos rfl, if_pos (.inr c)]
      rfl
    · refine ⟨at_ + 8, false, fo, ?_, by omega, by omega, by rw [if_neg (by simp [c])]⟩
      rw [decide_eq_false c, show k + 10 = (k + 9) + 1 by omega, zaj.j0, if_neg (by simp), if_neg (by simp [c])]
      have N := zim B hB at_ false fo h0 (by omega) hl
      have s0 := N (k + 8) 0 (by omega)
      have s1 := N (k + 7) 1 (by omega)
      have s2 := N (k + 6) 2 (by omega)
      have s3 := N (k + 5) 3 (by omega)
      have s4 := N (k + 4) 4 (by omega)
      have s5 := N (k + 3) 5 (by omega)
      have s6 := N (k + 2) 6 (by omega)
      have s7 := N (k + 1) 7 (by omega)
      refine s0.trans (s1.trans (s2.trans (s3.trans (s4.trans (s5.trans (s6.trans (s7.trans ?_)))))))
      rw [zaj.l0, if_neg (by omega), w64s (by omega) (by omega), show 7 + 1 = 8 from rfl, List.take_take, show min 8 8 = 8 from rfl]
      rfl
theorem zhz (B : List Int) (hB : Bs B) (hl : B.length ≤ 1099511627776) (k : Nat) (at_ : Int) (sh fo : Bool) (h0 : 0 ≤ at_) (h1 : at_ ≤ B.length) :
    ∃ (a : Int) (s f : Bool), zap.f (k + 10) B at_ sh fo = some ((txtR (st B at_ sh fo)).1, a, s, f) ∧ 0 ≤ a ∧ a ≤ B.length ∧ st B a s f = (txtR (st B at_ sh fo)).2 := by
  obtain ⟨a, s, f, hn, a0, a1, hs⟩ := zdv B hB hl k at_ sh fo h0 h1
  have hbd := zfb (st B at_ sh fo) (hB.drop _)
  unfold txtR
  rw [← hs, zfz B a _ s f a0 a1 hbd.1]
  unfold zap.f
  rw [hn, Option.bind_some]
  dsimp only
  cases s with
  | true => exact ⟨a, true, f, by simp [strOfNums], a0, a1, by simp⟩
  | false =>
    rw [if_neg (by simp), if_pos ⟨a0, a1, hbd.1, hbd.2, hl⟩]
    by_cases c : (B.length : Int) - a < (raw (st B at_ sh fo)).1
    · exact ⟨a, true, f, by rw [if_pos c, if_pos (.inr c)]; rfl, a0, a1, by rw [if_pos (.inr c)]⟩
    · exact ⟨_, false, f, by rw [if_neg c, if_neg (by simp [c])], by omega, by omega, by rw [if_neg (by simp [c])]⟩
/-- The count: behind it the reader is 'counted', and so many are read (none where it is too short). -/
theorem zio (B : List Int) (hB : Bs B) (hl : B.length ≤ 1099511627776) (k : Nat) (at_ : Int) (sh fo : Bool) (h0 : 0 ≤ at_) (h1 : at_ ≤ B.length) :
    ∃ (n : Nat) (a : Int) (s f : Bool), zbj.f (k + 10) B at_ sh fo = some ((n : Int), a, s, f) ∧ 0 ≤ a ∧ a ≤ B.length ∧ st B a s f = counted (st B at_ sh fo) ∧ n ≤ B.length ∧ (s = false → n = (raw (st B at_ sh fo)).1.toNat) ∧ (s = true → n = 0) := by
  obtain ⟨a, s, f, hn, a0, a1, hs⟩ := zdv B hB hl k at_ sh fo h0 h1
  have hbd := zfb (st B at_ sh fo) (hB.drop _)
  unfold counted
  rw [← hs]
  have hlen := zfo B a s f a0 a1
  unfold zbj.f
  rw [hn, Option.bind_some]
  dsimp only
  cases s with
  | true =>
    refine ⟨0, a, true, f, by simp, a0, a1, ?_, by omega, by simp, by simp⟩
    split <;> rfl
  | false =>
    rw [if_neg (by simp), w64s (by omega) (by omega), u64s (by omega) (by omega)]
    by_cases c : (B.length : Int) - a < (raw (st B at_ sh fo)).1
    · exact ⟨0, a, true, f, by rw [if_pos c]; rfl, a0, a1, by rw [if_pos (by omega)]; rfl, by omega, by simp, by simp⟩
    · refine ⟨(raw (st B at_ sh fo)).1.toNat, a, false, f, ?_, a0, a1, by rw [if_neg (by omega)], by omega, fun _ => rfl, by simp⟩
      rw [if_neg c, w64s (by omega) (by omega), Int.toNat_of_nonneg hbd.1]
theorem zjg (B : List Int) (hB : Bs B) (hl : B.length ≤ 1099511627776) (m : Int) (at_ : Int) (sh fo : Bool) (h0 : 0 ≤ at_) (h1 : at_ ≤ B.length) :
    ∃ (a : Int) (s f : Bool), zbs.f B at_ sh fo m = some ((byteR m (st B at_ sh fo)).1, a, s, f) ∧ 0 ≤ a ∧ a ≤ B.length ∧ st B a s f = (byteR m (st B at_ sh fo)).2 := by
  have hT := zfz B at_ 1 sh fo h0 h1 (by omega)
  cases sh with
  | true =>
    have hb : byteR m (st B at_ true fo) = (0, st B at_ true fo) := by unfold byteR; rw [hT]; rfl
    rw [hb]
    exact ⟨at_, true, fo, by unfold zbs.f; rfl, h0, h1, rfl⟩
  | false =>
    by_cases c : at_ = (B.length : Int)
    · have hp : ((false : Bool) = true ∨ (B.length : Int) - at_ < 1) := .inr (by omega)
      rw [if_pos hp] at hT
      have hb : byteR m (st B at_ false fo) = (0, st B at_ true fo) := by unfold byteR; rw [hT]; rfl
      rw [hb]
      refine ⟨at_, true, fo, ?_, h0, h1, rfl⟩
      unfold zbs.f
      rw [if_neg (by simp), if_pos c]
    · have hw : wrap64 (wrap64 (at_ + 1) - 1) = at_ := by rw [w64s (a := at_ + 1) (by omega) (by omega), w64s (by omega) (by omega)]; omega
      have hl1 : ((B.drop at_.toNat).take (1 : Int).toNat).length = 1 := by rw [List.length_take, List.length_drop]; show min 1 (B.length - at_.toNat) = 1; omega
      have hr : rd ((B.drop at_.toNat).take (1 : Int).toNat) 0 = rd B at_ := by
        unfold rd
        rw [List.getD_eq_getElem?_getD, List.getD_eq_getElem?_getD, List.getElem?_take_of_lt (by decide), List.getElem?_drop]
        rfl
      have hn : ¬((false : Bool) = true ∨ (B.length : Int) - at_ < 1) := by simp; omega
      rw [if_neg hn] at hT
      have hb : byteR m (st B at_ false fo) = (rd B at_, if m ≤ rd B at_ then failS (st B (at_ + 1) false fo) 31 else st B (at_ + 1) false fo) := by
        unfold byteR
        rw [hT]
        dsimp only
        rw [if_neg (by omega), hr]
      have hst : ∀ f', (st B (at_ + 1) false f').2 = if f' = true then 31 else 0 := fun f' => by unfold st; simp
      have hf : zbs.f B at_ false fo m = some (rd B at_, at_ + 1, false, if fo = true then true else decide (rd B at_ ≥ m)) := by
        unfold zbs.f
        rw [if_neg (by simp), if_neg c, hw, if_pos h0, if_pos (show at_ < (B.length : Int) by omega), w64s (a := at_ + 1) (by omega) (by omega)]
        cases fo <;> rfl
      rw [hb, hf]
      refine ⟨at_ + 1, false, _, rfl, by omega, by omega, ?_⟩
      dsimp only
      cases fo with
      | true =>
        rw [if_pos rfl]
        split
        · unfold failS
          rw [if_neg (by rw [hst]; simp)]
        · rfl
      | false =>
        rw [if_neg (by simp)]
        by_cases d : m ≤ rd B at_
        · rw [if_pos d, decide_eq_true d]
          unfold failS
          rw [if_pos (by rw [hst]; simp)]
          rfl
        · rw [if_neg d, decide_eq_false d]
theorem end_s (B : List Int) (at_ : Int) (sh fo : Bool) (h0 : 0 ≤ at_) (h1 : at_ ≤ B.length) : zcy.f B at_ sh fo = some (doneE (st B at_ sh fo), at_, sh, fo) := by
  have hlen := zfo B at_ sh fo h0 h1
  unfold zcy.f doneE
  cases sh with
  | true => simp [st]
  | false =>
    rw [if_neg (by simp)]
    by_cases c : at_ < (B.length : Int)
    · rw [if_pos c, if_pos ⟨ziw _ _ _, by omega⟩]
    · have hz : ¬((st B at_ false fo).2 ≠ 150 ∧ 0 < (st B at_ false fo).1.length) := by rintro ⟨_, h⟩; omega
      rw [if_neg c, if_neg hz]
      cases fo <;> rfl
end Go.Proofs.Ytjhcbggpbfejgaa.XCodecGets
