/- CharPieces, the plain law. -/
import Derived.Test.YtpedfpeokedelaaDoorXCharPiecesx2
import Derived.Test.YtpedfpeokedelaaDoorVf
namespace Go.Proofs.YtpedfpeokedelaaDoor.Pure
open Go.RowKit Go.Lib Go.Proofs.YtpedfpeokedelaaDoor.XCharPieces Go.Proofs.YtpedfpeokedelaaDoorW.PrintWords Go.Proofs.YtpedfpeokedelaaDoorW.PrintLast
set_option maxRecDepth 100000 in
theorem first_p : calepinlaw01_first.f = some true := by decide +kernel
theorem val_f (s : ByteArray) (h : s.size ≤ 281474976710656) : char_Valid.f s = some (okL s.data.toList) := by
  unfold char_Valid.f
  rw [if_pos h, validB_eq]
theorem CharPieces : calepinlaw01_CharPieces.Pure := by
  intro s a hs ha
  obtain ⟨l, hl⟩ : ∃ l, s.data.toList = l := ⟨_, rfl⟩
  have hsz : s.size = l.length := by rw [← hl]; exact size_eq s
  have hw1 : wrap64 ((s.size : Int) + 1) = (s.size : Int) + 1 := by unfold wrap64; omega
  have hw2 : IntKind.u64.wrap ((s.size : Int) + 1) = ((s.size + 1 : Nat) : Int) := by rw [IntKind.wrap_u64]; omega
  obtain ⟨K, hK, hKs⟩ : ∃ K : Nat, wrap64 (Int.tmod (IntKind.u64.wrap a) ((s.size + 1 : Nat) : Int)) = (K : Int) ∧ K ≤ s.size := by
    have h1 : 0 ≤ IntKind.u64.wrap a := wrap_u64_nonneg a
    have h2 : Int.tmod (IntKind.u64.wrap a) ((s.size + 1 : Nat) : Int) = IntKind.u64.wrap a % ((s.size + 1 : Nat) : Int) := Int.tmod_eq_emod_of_nonneg h1
    have h3 := Int.emod_nonneg (IntKind.u64.wrap a) (b := ((s.size + 1 : Nat) : Int)) (by omega)
    have h4 := Int.emod_lt_of_pos (IntKind.u64.wrap a) (b := ((s.size + 1 : Nat) : Int)) (by omega)
    rw [h2]
    refine ⟨(IntKind.u64.wrap a % ((s.size + 1 : Nat) : Int)).toNat, ?_, by omega⟩
    rw [Int.toNat_of_nonneg h3]
    unfold wrap64
    omega
  have hd1 : (s.extract 0 ((K : Int)).toNat).data.toList = l.take K := by rw [← hl]; simp
  have hd2 : (s.extract ((K : Int)).toNat s.size).data.toList = l.drop K := by rw [ext_drop, hl, Int.toNat_natCast]
  have hcat : s.extract 0 ((K : Int)).toNat ++ s.extract ((K : Int)).toNat s.size = s := ext_cat s _ (by simpa using hKs)
  have hsum : (s.extract 0 ((K : Int)).toNat).size + (s.extract ((K : Int)).toNat s.size).size = s.size := by
    conv => rhs; rw [← hcat]
    exact ByteArray.size_append.symm
  unfold calepinlaw01_CharPieces.f
  rw [first_p, val_f s (by omega), hl]
  simp only [Option.bind_some, if_true]
  by_cases hv : okL l = true
  · have hcut := okL_cut l.length l K (Nat.le_refl _) (by omega) hv
    have hv1 : char_Valid.f (s.extract 0 ((K : Int)).toNat) = some (startAt l K) := by rw [val_f _ (by omega), hd1, hcut.1]
    have hv2 : char_Valid.f (s.extract ((K : Int)).toNat s.size) = some (startAt l K) := by rw [val_f _ (by omega), hd2, hcut.2]
    have hv3 : char_Valid.f s = some true := by rw [val_f s (by omega), hl, hv]
    have hb : bt s (K : Int) = ((l.getD K 0).toNat : Int) := by
      unfold bt
      by_cases h : K < s.size
      · rw [dif_pos (by simpa using h), List.getD_eq_getElem?_getD, List.getElem?_eq_getElem (by omega)]
        subst hl
        rfl
      · rw [dif_neg (by simpa using h), List.getD_eq_getElem?_getD, List.getElem?_eq_none (by omega)]
        rfl
    rw [if_pos hv]
    simp only [hw1, hw2, hK, hb, hv1, hv2, hv3, hcat, hsum, Option.bind_some]
    rw [if_neg (by omega)]
    have e1 : (s.size ≤ 9223372036854775807) := by omega
    by_cases c1 : K = s.size
    · have hs1 : startAt l K = true := by unfold startAt; rw [decide_eq_true (show K = l.length by omega)]; rfl
      rw [if_pos (by omega), if_pos (by omega), if_pos (by omega), hs1]
      simp [e1]
    · rw [if_neg (by omega), if_pos (by omega), if_pos (by omega)]
      by_cases c2 : ((l.getD K 0).toNat : Int) < 128
      · have hs1 : startAt l K = true := by unfold startAt; rw [decide_eq_true (show (l.getD K 0).toNat < 128 by omega)]; simp
        rw [if_pos c2, if_pos (by omega), hs1]
        simp [e1]
      · have hs1 : startAt l K = decide (((l.getD K 0).toNat : Int) ≥ 192) := by
          unfold startAt
          rw [decide_eq_false (show ¬ K = l.length by omega), decide_eq_false (show ¬ (l.getD K 0).toNat < 128 by omega)]
          simp only [Bool.false_or]
          exact decide_eq_decide.2 (by omega)
        rw [if_neg c2, if_pos (by omega), hs1]
        simp [e1]
  · rw [if_neg hv]
end Go.Proofs.YtpedfpeokedelaaDoor.Pure
