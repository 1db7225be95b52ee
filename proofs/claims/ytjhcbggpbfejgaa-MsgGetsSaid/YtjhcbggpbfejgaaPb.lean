import Derived.Test.YtjhcbggpbfejgaaPa
import Derived.Test.YtjhcbggpbfejgaaGeSim
import Derived.Test.YtjhcbggpbfejgaaMs
namespace Go.Proofs.Ytjhcbggpbfejgaa.Pb
open Go.RowKit Go.Proofs.zjt.zjq Go.Proofs.zjt.zjr Go.Proofs.zjt.zjs
open Go.Proofs.Ytjhcbggpbfejgaa.Cp Go.Proofs.Ytjhcbggpbfejgaa.Pa
open Go.Proofs.Ytjhcbggpbfejgaa.XCodecGets (st zfz zfo w64s u64s ziw)
open Go.Proofs.Ytjhcbggpbfejgaa.Mr (cntR)
open Go.Proofs.Ytjhcbggpbfejgaa.Ms (textR)
set_option linter.unusedVariables false
set_option linter.unusedSimpArgs false
theorem zim (B : List Int) (hB : Bs B) (at_ : Int) (sh : Bool) (h0 : 0 ≤ at_) (h1 : at_ + 8 ≤ B.length) (hl : B.length ≤ 1099511627776) (k j : Nat) (hj : j < 8) :
    zan.l0 (k + 1) (unum (((B.drop at_.toNat).take 8).take j)) (j : Int) B at_ sh = zan.l0 k (unum (((B.drop at_.toNat).take 8).take (j + 1))) ((j + 1 : Nat) : Int) B at_ sh := by
  have hlen : ((B.drop at_.toNat).take 8).length = 8 := by rw [List.length_take, List.length_drop]; omega
  have hys : Bs ((B.drop at_.toNat).take 8) := (hB.drop _).take _
  have hu := zii _ hys (by omega) j (by omega)
  have ht := zgz ((B.drop at_.toNat).take 8) (j : Int) (by omega) (by omega)
  have e1 : ((j : Int) + 1).toNat = j + 1 := by omega
  rw [e1, Int.toNat_natCast] at ht
  have hr : rd B (at_ + j) = rd ((B.drop at_.toNat).take 8) (j : Int) := by
    unfold rd
    rw [List.getD_eq_getElem?_getD, List.getD_eq_getElem?_getD, Int.toNat_natCast, List.getElem?_take_of_lt hj, List.getElem?_drop, show (at_ + (j : Int)).toNat = at_.toNat + j by omega]
  have hb : 0 ≤ rd ((B.drop at_.toNat).take 8) (j : Int) ∧ rd ((B.drop at_.toNat).take 8) (j : Int) < 256 := by
    unfold rd
    rw [List.getD_eq_getElem?_getD, Int.toNat_natCast, List.getElem?_eq_getElem (by omega)]
    exact hys _ (List.getElem_mem _)
  rw [zan.l0, if_pos (by omega), w64s (a := at_ + j) (by omega) (by omega), if_pos (by omega), if_pos (by omega), hr, u64s (a := 256 * _) (by omega) (by omega), u64s (a := rd _ _) (by omega) (by omega), u64s (by omega) (by omega), ht, w64s (by omega) (by omega)]
  congr 1
  omega
theorem zdv (B : List Int) (hB : Bs B) (hl : B.length ≤ 1099511627776) (k : Nat) (at_ : Int) (sh : Bool) (h0 : 0 ≤ at_) (h1 : at_ ≤ B.length) :
    ∃ (a : Int) (s : Bool), zan.f (k + 10) B at_ sh = some ((raw (st B at_ sh false)).1, a, s) ∧ 0 ≤ a ∧ a ≤ B.length ∧ st B a s false = (raw (st B at_ sh false)).2 := by
  have hlen : (B.drop at_.toNat).length = B.length - at_.toNat := List.length_drop
  have hT := zfz B at_ 8 sh false h0 h1 (by omega)
  unfold zan.f raw
  rw [hT]
  cases sh with
  | true =>
    refine ⟨at_, true, ?_, h0, h1, rfl⟩
    rw [if_pos rfl, show k + 10 = (k + 9) + 1 by omega, zan.j0, if_pos rfl]
    rfl
  | false =>
    rw [if_neg (by simp), w64s (by omega) (by omega)]
    by_cases c : (B.length : Int) - at_ < 8
    · refine ⟨at_, true, ?_, h0, h1, by rw [if_pos (.inr c)]⟩
      rw [decide_eq_true c, show k + 10 = (k + 9) + 1 by omega, zan.j0, if_pos rfl, if_pos (.inr c)]
      rfl
    · refine ⟨at_ + 8, false, ?_, by omega, by omega, by rw [if_neg (by simp [c])]⟩
      rw [decide_eq_false c, show k + 10 = (k + 9) + 1 by omega, zan.j0, if_neg (by simp), if_neg (by simp [c])]
      have N := zim B hB at_ false h0 (by omega) hl
      have s0 := N (k + 8) 0 (by omega)
      have s1 := N (k + 7) 1 (by omega)
      have s2 := N (k + 6) 2 (by omega)
      have s3 := N (k + 5) 3 (by omega)
      have s4 := N (k + 4) 4 (by omega)
      have s5 := N (k + 3) 5 (by omega)
      have s6 := N (k + 2) 6 (by omega)
      have s7 := N (k + 1) 7 (by omega)
      refine s0.trans (s1.trans (s2.trans (s3.trans (s4.trans (s5.trans (s6.trans (s7.trans ?_)))))))
      rw [zan.l0, if_neg (by omega), w64s (by omega) (by omega), show 7 + 1 = 8 from rfl, List.take_take, show min 8 8 = 8 from rfl]
      rfl
theorem int_s (B : List Int) (hB : Bs B) (hl : B.length ≤ 1099511627776) (k : Nat) (at_ : Int) (sh : Bool) (h0 : 0 ≤ at_) (h1 : at_ ≤ B.length) :
    ∃ (a : Int) (s : Bool), zcx.f (k + 10) B at_ sh = some ((numR (st B at_ sh false)).1, a, s) ∧ 0 ≤ a ∧ a ≤ B.length ∧ st B a s false = (numR (st B at_ sh false)).2 := by
  obtain ⟨a, s, hn, h⟩ := zdv B hB hl k at_ sh h0 h1
  exact ⟨a, s, by unfold zcx.f; rw [hn]; rfl, h⟩
theorem zio (B : List Int) (hB : Bs B) (hl : B.length ≤ 1099511627776) (k : Nat) (at_ : Int) (sh : Bool) (h0 : 0 ≤ at_) (h1 : at_ ≤ B.length) :
    ∃ (a : Int) (s : Bool), zcs.f (k + 10) B at_ sh = some ((cntR (st B at_ sh false)).1, a, s) ∧ 0 ≤ a ∧ a ≤ B.length ∧ st B a s false = (cntR (st B at_ sh false)).2 := by
  obtain ⟨a, s, hn, a0, a1, hs⟩ := zdv B hB hl k at_ sh h0 h1
  have hbd := zfb (st B at_ sh false) (hB.drop _)
  unfold cntR counted
  rw [← hs]
  have hlen := zfo B a s false a0 a1
  unfold zcs.f
  rw [hn, Option.bind_some]
  dsimp only
  cases s with
  | true =>
    refine ⟨a, true, ?_, a0, a1, ?_⟩
    · rw [if_pos rfl]
      split
      · rw [if_pos rfl]
      · rw [if_pos (by rfl)]
    · split <;> rfl
  | false =>
    rw [if_neg (by simp), w64s (by omega) (by omega), u64s (by omega) (by omega)]
    by_cases c : (B.length : Int) - a < (raw (st B at_ sh false)).1
    · refine ⟨a, true, ?_, a0, a1, ?_⟩
      · rw [if_pos c, if_pos (show ((st B a false false).1.length : Int) < (raw (st B at_ sh false)).1 by omega), if_pos rfl]
      · rw [if_pos (by omega)]
        rfl
    · refine ⟨a, false, ?_, a0, a1, by rw [if_neg (by omega)]⟩
      rw [if_neg c, if_neg (show ¬ ((st B a false false).1.length : Int) < (raw (st B at_ sh false)).1 by omega), if_neg (ziw B a false), w64s (by omega) (by omega)]
theorem zjg (B : List Int) (hl : B.length ≤ 1099511627776) (at_ : Int) (sh : Bool) (h0 : 0 ≤ at_) (h1 : at_ ≤ B.length) :
    ∃ (a : Int) (s : Bool), zcu.f B at_ sh = some (rd (take (st B at_ sh false) 1).1 0, a, s) ∧ 0 ≤ a ∧ a ≤ B.length ∧ st B a s false = (take (st B at_ sh false) 1).2 := by
  have hT := zfz B at_ 1 sh false h0 h1 (by omega)
  rw [hT]
  unfold zcu.f
  cases sh with
  | true => exact ⟨at_, true, rfl, h0, h1, rfl⟩
  | false =>
    rw [if_neg (by simp)]
    by_cases c : at_ = (B.length : Int)
    · rw [if_pos c, if_pos (.inr (by omega))]
      exact ⟨at_, true, rfl, h0, h1, rfl⟩
    · have hw : wrap64 (wrap64 (at_ + 1) - 1) = at_ := by rw [w64s (a := at_ + 1) (by omega) (by omega), w64s (by omega) (by omega)]; omega
      rw [if_neg c, hw, if_pos h0, if_pos (by omega), if_neg (by simp; omega), w64s (by omega) (by omega)]
      refine ⟨at_ + 1, false, ?_, by omega, by omega, rfl⟩
      have hr : rd ((B.drop at_.toNat).take (1 : Int).toNat) 0 = rd B at_ := by
        unfold rd
        rw [List.getD_eq_getElem?_getD, List.getD_eq_getElem?_getD, List.getElem?_take_of_lt (by decide), List.getElem?_drop]
        rfl
      rw [hr]
/-- The tape at block g stands at s; its bytes are xs, which came in by w0. -/
def TSt (A : Option Addr) (c : Nat) (xs : List Int) (w0 W : World) (g : Nat) (s : St) : Prop := ∃ a sh, IsS113 A c w0 W g xs a sh ∧ 0 ≤ a ∧ a ≤ xs.length ∧ st xs a sh false = s
abbrev TOut (A : Option Addr) (c : Nat) (xs : List Int) (w0 W : World) (g : Nat) (s : St) (v : Value) (e : Ending) (w' : World) : Prop := e = .returned v ∧ TSt A c xs w0 w' g s ∧ Below w0.heap.size w0 w' ∧ KeepBut W w' g none
section
variable {A : Option Addr} {c : Nat} {xs : List Int} {w0 W : World} {g : Nat} {s : St}
theorem zfj (h : TSt A c xs w0 W g s) (hB : Bs xs) (hl : xs.length ≤ 1099511627776) (hb : Below w0.heap.size w0 W) : Calls Try.prog 61 #[.pointer (some ⟨g, 0, none⟩)] W (TOut A c xs w0 W g (numR s).2 (.int .i64 (numR s).1)) := by
  obtain ⟨a, sh, hI, h0, h1, rfl⟩ := h
  obtain ⟨a', s', hf, a0, a1, hs⟩ := int_s xs hB hl 0 a sh h0 h1
  exact (zcx.calls _ g xs a sh _ _ _ w0 W hI hb hf).mono fun e w' ⟨e1, e2, e3, e4⟩ => ⟨e1, ⟨a', s', e2, a0, a1, hs⟩, e3, e4⟩
theorem zby (h : TSt A c xs w0 W g s) (hB : Bs xs) (hl : xs.length ≤ 1099511627776) (hb : Below w0.heap.size w0 W) : Calls Try.prog 69 #[.pointer (some ⟨g, 0, none⟩)] W (TOut A c xs w0 W g (raw s).2 (.int .u64 (raw s).1)) := by
  obtain ⟨a, sh, hI, h0, h1, rfl⟩ := h
  obtain ⟨a', s', hf, a0, a1, hs⟩ := zdv xs hB hl 0 a sh h0 h1
  exact (zan.calls _ g xs a sh _ _ _ w0 W hI hb hf).mono fun e w' ⟨e1, e2, e3, e4⟩ => ⟨e1, ⟨a', s', e2, a0, a1, hs⟩, e3, e4⟩
theorem zge (h : TSt A c xs w0 W g s) (hB : Bs xs) (hl : xs.length ≤ 1099511627776) (hb : Below w0.heap.size w0 W) : Calls Try.prog 62 #[.pointer (some ⟨g, 0, none⟩)] W (TOut A c xs w0 W g (cntR s).2 (.int .i64 (cntR s).1)) := by
  obtain ⟨a, sh, hI, h0, h1, rfl⟩ := h
  obtain ⟨a', s', hf, a0, a1, hs⟩ := zio xs hB hl 0 a sh h0 h1
  exact (zcs.calls _ g xs a sh _ _ _ w0 W hI hb hf).mono fun e w' ⟨e1, e2, e3, e4⟩ => ⟨e1, ⟨a', s', e2, a0, a1, hs⟩, e3, e4⟩
theorem zex (h : TSt A c xs w0 W g s) (hl : xs.length ≤ 1099511627776) (hb : Below w0.heap.size w0 W) : Calls Try.prog 60 #[.pointer (some ⟨g, 0, none⟩)] W (TOut A c xs w0 W g (take s 1).2 (.int .u8 (rd (take s 1).1 0))) := by
  obtain ⟨a, sh, hI, h0, h1, rfl⟩ := h
  obtain ⟨a', s', hf, a0, a1, hs⟩ := zjg xs hl a sh h0 h1
  exact (zcu.calls g xs a sh _ _ _ w0 W hI hb hf).mono fun e w' ⟨e1, e2, e3, e4⟩ => ⟨e1, ⟨a', s', e2, a0, a1, hs⟩, e3, e4⟩
end
end Go.Proofs.Ytjhcbggpbfejgaa.Pb
