/- HttpReads, the plain law, part R. -/
import Derived.Test.YtipfekjmcddelaaGreatDoorHrG
namespace Go.Proofs.YtipfekjmcddelaaGreatDoor.PureHttpReads
open Go.RowKit Go.Lib Go.Proofs.YtipfekjmcddelaaGreatDoor.XHttpReads Go.Proofs.YtipfekjmcddelaaGreatDoorW.PrintWords Go.Proofs.YtipfekjmcddelaaGreatDoorW.PrintLast Go.Proofs.YtipfekjmcddelaaGreatDoorW.PrintMore
set_option maxRecDepth 100000
set_option linter.unusedSimpArgs false
theorem splitK_at (p : UInt8) (k : Nat) (x y : List UInt8) (h : ∀ c ∈ x, c ≠ p) : splitK [p] 0 (k + 1) (x ++ p :: y) = x :: splitK [p] 0 k y := by
  have h0 : index (p :: y) [p] = 0 := index_here _ _ _ (by simp [List.isPrefixOf])
  have hi : index (x ++ p :: y) [p] = x.length := by
    rw [index_skip p [] x (p :: y) h (by omega), h0]
    simp
  rw [splitK, hi, if_neg (by simp)]
  have e1 : (x ++ p :: y).take ((x.length : Int).toNat + 0) = x := by simp
  have e3 : (x ++ p :: y).drop (x.length + [p].length) = y := by rw [← List.drop_drop]; simp
  rw [e1, Int.toNat_natCast, e3]
theorem splitK_no (p : UInt8) (k : Nat) (x : List UInt8) (h : ∀ c ∈ x, c ≠ p) : splitK [p] 0 k x = [x] := by
  cases k with
  | zero => rfl
  | succ k => rw [splitK, index_none p [] x h]; rfl
theorem split3 (r : List UInt8) : ∃ P : List (List UInt8), splitK [32] 0 (min 3 (r.length + 1) - 1) r = P ∧ ((P = [(cut r [32]).1, (cut (cut r [32]).2.1 [32]).1, (cut (cut r [32]).2.1 [32]).2.1] ∧ (cut (cut r [32]).2.1 [32]).2.2 = true) ∨ (P.length ≠ 3 ∧ (cut (cut r [32]).2.1 [32]).2.2 = false)) := by
  refine ⟨_, rfl, ?_⟩
  rcases at_or 32 r with ⟨x, y, rfl, hx⟩ | hn
  · rw [cut_at' 32 x y hx]
    simp only
    rcases at_or 32 y with ⟨x2, y2, rfl, hx2⟩ | hn2
    · left
      rw [show min 3 ((x ++ 32 :: (x2 ++ 32 :: y2)).length + 1) - 1 = 1 + 1 by simp only [List.length_append, List.length_cons]; omega, splitK_at 32 1 x _ hx, splitK_at 32 0 x2 y2 hx2, cut_at' 32 x2 y2 hx2]
      exact ⟨rfl, rfl⟩
    · right
      obtain ⟨k, hk⟩ : ∃ k, min 3 ((x ++ 32 :: y).length + 1) - 1 = k + 1 := ⟨min 3 ((x ++ 32 :: y).length + 1) - 2, by simp only [List.length_append, List.length_cons]; omega⟩
      rw [hk, splitK_at 32 k x y hx, splitK_no 32 k y hn2, cut_no' 32 y hn2]
      exact ⟨by simp, rfl⟩
  · right
    rw [splitK_no 32 _ r hn, cut_no' 32 r hn]
    simp only
    rw [cut_no' 32 [] (by simp)]
    exact ⟨by simp, rfl⟩
theorem split3_f (r : List UInt8) (hr : r.length ≤ 8192) : strings_SplitN.f ⟨r.toArray⟩ (⟨#[32]⟩ : ByteArray) 3 = some ((splitK [32] 0 (min 3 (r.length + 1) - 1) r).map fun (l : List UInt8) => (⟨l.toArray⟩ : ByteArray)) := by
  have hz : (⟨r.toArray⟩ : ByteArray).size = r.length := by rw [size_eq, mk_l]
  unfold strings_SplitN.f
  rw [if_pos ⟨by rw [hz]; omega, by decide, by decide, by decide⟩, hz, show Int.toNat 3 = 3 from rfl]
  congr 1
  have h1 : (splitB ⟨#[32]⟩ 0 (min 3 (r.length + 1) - 1) ⟨r.toArray⟩).map (·.data.toList) = splitK [32] 0 (min 3 (r.length + 1) - 1) r := splitB_data _ _ _ _
  have h2 := congrArg (List.map fun l : List UInt8 => (⟨l.toArray⟩ : ByteArray)) h1
  rw [List.map_map] at h2
  rw [← h2]
  conv => lhs; rw [← List.map_id (splitB ⟨#[32]⟩ 0 (min 3 (r.length + 1) - 1) ⟨r.toArray⟩)]
  exact List.map_congr_left fun x _ => (Lib.mk_data x).symm
/-- A response's first row? -/
def respOk (r : List UInt8) : Bool :=
  (cut (cut r [32]).2.1 [32]).2.2 && (((cut r [32]).1 == http11) && (decide ((cut (cut r [32]).2.1 [32]).1.length = 3) && (decide (49 ≤ ((cut (cut r [32]).2.1 [32]).1.getD 0 0).toNat) && (decide (((cut (cut r [32]).2.1 [32]).1.getD 0 0).toNat ≤ 53) && (((cut (cut r [32]).2.1 [32]).1.all fun c => decide (48 ≤ c.toNat) && decide (c.toNat ≤ 57)) && ((cut (cut r [32]).2.1 [32]).2.1.all fun c => decide (32 ≤ c.toNat) && decide (c.toNat ≤ 126)))))))
theorem row2_any (r : List UInt8) (hr : r.length ≤ 8192) (k : Nat) (hk : 8300 ≤ k) : http_ParseResponse_1.f k ⟨r.toArray⟩ = some (respOk r) := by
  obtain ⟨P, hP, h⟩ := split3 r
  have hl := cut_le2 r hr
  unfold http_ParseResponse_1.f
  rw [split3_f r hr, hP]
  simp only [Option.bind_some, List.length_map]
  unfold respOk
  rcases h with ⟨rfl, hok⟩ | ⟨h3, hno⟩
  · rw [hok, Bool.true_and]
    generalize (cut r [32]).1 = m at hl ⊢
    generalize (cut (cut r [32]).2.1 [32]).1 = t at hl ⊢
    generalize (cut (cut r [32]).2.1 [32]).2.1 = v at hl ⊢
    have e0 : rdOf ByteArray.empty ([m, t, v].map fun (l : List UInt8) => (⟨l.toArray⟩ : ByteArray)) 0 = ⟨m.toArray⟩ := rfl
    have e1 : rdOf ByteArray.empty ([m, t, v].map fun (l : List UInt8) => (⟨l.toArray⟩ : ByteArray)) 1 = ⟨t.toArray⟩ := rfl
    have e2 : rdOf ByteArray.empty ([m, t, v].map fun (l : List UInt8) => (⟨l.toArray⟩ : ByteArray)) 2 = ⟨v.toArray⟩ := rfl
    have zt : (⟨t.toArray⟩ : ByteArray).size = t.length := by rw [size_eq, mk_l]
    have hb : bt ⟨t.toArray⟩ 0 = ((t.getD 0 0).toNat : Int) := btN ⟨t.toArray⟩ 0
    have o1 := only_all ⟨t.toArray⟩ 48 57 (by rw [zt]; omega) k (by rw [zt]; omega)
    have o2 := only_all ⟨v.toArray⟩ 32 126 (by rw [size_eq, mk_l]; omega) k (by rw [size_eq, mk_l]; omega)
    rw [mk_l] at o1 o2
    change http_only.f k _ 48 57 = _ at o1
    change http_only.f k _ 32 126 = _ at o2
    rw [show [m, t, v].length = 3 from rfl, if_pos (by rfl), if_pos (by omega), e0, e1, e2, Lib.toList_data, mk_l, zt, hb, o1, o2, show ([72, 84, 84, 80, 47, 49, 46, 49] : List UInt8) = http11 from rfl]
    simp only [Option.bind_some]
    generalize (t.all fun c => decide (48 ≤ c.toNat) && decide (c.toNat ≤ 57)) = D
    generalize (v.all fun c => decide (32 ≤ c.toNat) && decide (c.toNat ≤ 126)) = V
    by_cases h1 : m = http11
    · rw [if_pos h1, if_pos (by omega), beq_iff_eq.2 h1]
      by_cases h2 : t.length = 3
      · rw [if_pos (by omega), if_pos (by omega), decide_eq_true h2]
        by_cases h3 : 49 ≤ (t.getD 0 0).toNat
        · rw [if_pos (by omega), decide_eq_true h3]
          by_cases h4 : (t.getD 0 0).toNat ≤ 53
          · rw [if_pos (by omega), decide_eq_true h4]
            cases D with
            | false => rw [if_neg (by simp)]; rfl
            | true => rw [if_pos rfl, if_pos (by omega)]; rfl
          · rw [if_neg (by omega), decide_eq_false h4]; rfl
        · rw [if_neg (by omega), decide_eq_false h3]; rfl
      · rw [if_neg (by omega), decide_eq_false h2]; rfl
    · rw [if_neg h1, beq_eq_false_iff_ne.2 h1]; rfl
  · rw [if_neg (by omega), hno]
    rfl
end Go.Proofs.YtipfekjmcddelaaGreatDoor.PureHttpReads
