/- HttpWrites, the plain law, part G. -/
import Derived.Test.YtipfekjmcddelaaGreatDoorHwA
namespace Go.Proofs.YtipfekjmcddelaaGreatDoor.PureHttpWrites
open Go.RowKit Go.Lib Go.Proofs.YtipfekjmcddelaaGreatDoor.XHttpWrites Go.Proofs.YtipfekjmcddelaaGreatDoorW.zgo Go.Proofs.YtipfekjmcddelaaGreatDoorW.zgp Go.Proofs.YtipfekjmcddelaaGreatDoorW.zgq
set_option maxRecDepth 100000
set_option linter.unusedSimpArgs false
theorem zfw (p : UInt8) (x y : List UInt8) (h : ∀ c ∈ x, c ≠ p) : cut (x ++ p :: y) [p] = (x, y, true) := by
  have h0 : index (p :: y) [p] = 0 := zdo _ _ _ (by simp [List.isPrefixOf])
  have hi : index (x ++ p :: y) [p] = x.length := by
    rw [zdr p [] x (p :: y) h (by omega), h0]
    simp
  unfold cut
  rw [hi, if_pos (by omega)]
  simp
theorem zgd (p : UInt8) (x : List UInt8) (h : ∀ c ∈ x, c ≠ p) : cut x [p] = (x, [], false) := by
  unfold cut
  rw [index_none p [] x h]
  rfl
theorem at_or (p : UInt8) (l : List UInt8) : (∃ x y, l = x ++ p :: y ∧ (∀ c ∈ x, c ≠ p)) ∨ (∀ c ∈ l, c ≠ p) := by
  induction l with
  | nil => exact .inr (by simp)
  | cons a l ih =>
    by_cases h : a = p
    · subst h; exact .inl ⟨[], l, rfl, by simp⟩
    · rcases ih with ⟨x, y, rfl, hx⟩ | ih
      · refine .inl ⟨a :: x, y, rfl, ?_⟩
        intro c hc
        rcases List.mem_cons.1 hc with rfl | hc
        · exact h
        · exact hx c hc
      · refine .inr ?_
        intro c hc
        rcases List.mem_cons.1 hc with rfl | hc
        · exact h
        · exact ih c hc
theorem cut_le2 (r : List UInt8) (hr : r.length ≤ 8192) : (cut r [32]).1.length ≤ 8192 ∧ (cut r [32]).2.1.length ≤ 8192 ∧ (cut (cut r [32]).2.1 [32]).1.length ≤ 8192 ∧ (cut (cut r [32]).2.1 [32]).2.1.length ≤ 8192 := by
  have h1 := zgi r [32]
  have h2 := zgi (cut r [32]).2.1 [32]
  omega
theorem zfd (p : UInt8) (k : Nat) (x y : List UInt8) (h : ∀ c ∈ x, c ≠ p) : splitK [p] 0 (k + 1) (x ++ p :: y) = x :: splitK [p] 0 k y := by
  have h0 : index (p :: y) [p] = 0 := zdo _ _ _ (by simp [List.isPrefixOf])
  have hi : index (x ++ p :: y) [p] = x.length := by
    rw [zdr p [] x (p :: y) h (by omega), h0]
    simp
  rw [splitK, hi, if_neg (by simp)]
  have e1 : (x ++ p :: y).take ((x.length : Int).toNat + 0) = x := by simp
  have e3 : (x ++ p :: y).drop (x.length + [p].length) = y := by rw [← List.drop_drop]; simp
  rw [e1, Int.toNat_natCast, e3]
theorem splitK_no (p : UInt8) (k : Nat) (x : List UInt8) (h : ∀ c ∈ x, c ≠ p) : splitK [p] 0 k x = [x] := by
  cases k with
  | zero => rfl
  | succ k => rw [splitK, index_none p [] x h]; rfl
theorem split3 (r : List UInt8) : ∃ P : List (List UInt8), splitK [32] 0 (min 3 (r.length + 1) - 1) r = P ∧ ((P = [(cut r [32]).1, (cut (cut r [32]).2.1 [32]).1, (cut (cut r [32]).2.1 [32]).2.1] ∧ (cut (cut r [32]).2.1 [32]).2.2 = true) ∨ (P.length ≠ 3 ∧ (cut (cut r [32]).2.1 [32]).2.2 = false)) := by
  refine ⟨_, rfl, ?_⟩
  rcases at_or 32 r with ⟨x, y, rfl, hx⟩ | hn
  · rw [zfw 32 x y hx]
    simp only
    rcases at_or 32 y with ⟨x2, y2, rfl, hx2⟩ | hn2
    · left
      rw [show min 3 ((x ++ 32 :: (x2 ++ 32 :: y2)).length + 1) - 1 = 1 + 1 by simp only [List.length_append, List.length_cons]; omega, zfd 32 1 x _ hx, zfd 32 0 x2 y2 hx2, zfw 32 x2 y2 hx2]
      exact ⟨rfl, rfl⟩
    · right
      obtain ⟨k, hk⟩ : ∃ k, min 3 ((x ++ 32 :: y).length + 1) - 1 = k + 1 := ⟨min 3 ((x ++ 32 :: y).length + 1) - 2, by simp only [List.length_append, List.length_cons]; omega⟩
      rw [hk, zfd 32 k x y hx, splitK_no 32 k y hn2, zgd 32 y hn2]
      exact ⟨by simp, rfl⟩
  · right
    rw [splitK_no 32 _ r hn, zgd 32 r hn]
    simp only
    rw [zgd 32 [] (by simp)]
    exact ⟨by simp, rfl⟩
theorem split3_f (r : List UInt8) (hr : r.length ≤ 8192) : strings_SplitN.f ⟨r.toArray⟩ (⟨#[32]⟩ : ByteArray) 3 = some ((splitK [32] 0 (min 3 (r.length + 1) - 1) r).map fun (l : List UInt8) => (⟨l.toArray⟩ : ByteArray)) := by
  have hz : (⟨r.toArray⟩ : ByteArray).size = r.length := by rw [size_eq, mk_l]
  unfold strings_SplitN.f
  rw [if_pos ⟨by rw [hz]; omega, by decide, by decide, by decide⟩, hz, show Int.toNat 3 = 3 from rfl]
  congr 1
  have h1 : (splitB ⟨#[32]⟩ 0 (min 3 (r.length + 1) - 1) ⟨r.toArray⟩).map (·.data.toList) = splitK [32] 0 (min 3 (r.length + 1) - 1) r := splitB_data _ _ _ _
  have h2 := congrArg (List.map fun l : List UInt8 => (⟨l.toArray⟩ : ByteArray)) h1
  rw [List.map_map] at h2
  rw [← h2]
  conv => lhs; rw [← List.map_id (splitB ⟨#[32]⟩ 0 (min 3 (r.length + 1) - 1) ⟨r.toArray⟩)]
  exact List.map_congr_left fun x _ => (Lib.mk_data x).symm
/-- A response's first row? -/
def respOk (r : List UInt8) : Bool :=
  (cut (cut r [32]).2.1 [32]).2.2 && (((cut r [32]).1 == http11) && (decide ((cut (cut r [32]).2.1 [32]).1.length = 3) && (decide (49 ≤ ((cut (cut r [32]).2.1 [32]).1.getD 0 0).toNat) && (decide (((cut (cut r [32]).2.1 [32]).1.getD 0 0).toNat ≤ 53) && (((cut (cut r [32]).2.1 [32]).1.all fun c => decide (48 ≤ c.toNat) && decide (c.toNat ≤ 57)) && ((cut (cut r [32]).2.1 [32]).2.1.all fun c => decide (32 ≤ c.toNat) && decide (c.toNat ≤ 126)))))))
theorem row2_any (r : List UInt8) (hr : r.length ≤ 8192) (k : Nat) (hk : 8300 ≤ k) : zcd.f k ⟨r.toArray⟩ = some (respOk r) := by
  obtain ⟨P, hP, h⟩ := split3 r
  have hl := cut_le2 r hr
  unfold zcd.f
  rw [split3_f r hr, hP]
  simp only [Option.bind_some, List.length_map]
  unfold respOk
  rcases h with ⟨rfl, hok⟩ | ⟨h3, hno⟩
  · rw [hok, Bool.true_and]
    generalize (cut r [32]).1 = m at hl ⊢
    generalize (cut (cut r [32]).2.1 [32]).1 = t at hl ⊢
    generalize (cut (cut r [32]).2.1 [32]).2.1 = v at hl ⊢
    have e0 : rdOf ByteArray.empty ([m, t, v].map fun (l : List UInt8) => (⟨l.toArray⟩ : ByteArray)) 0 = ⟨m.toArray⟩ := rfl
    have e1 : rdOf ByteArray.empty ([m, t, v].map fun (l : List UInt8) => (⟨l.toArray⟩ : ByteArray)) 1 = ⟨t.toArray⟩ := rfl
    have e2 : rdOf ByteArray.empty ([m, t, v].map fun (l : List UInt8) => (⟨l.toArray⟩ : ByteArray)) 2 = ⟨v.toArray⟩ := rfl
    have zt : (⟨t.toArray⟩ : ByteArray).size = t.length := by rw [size_eq, mk_l]
    have hb : bt ⟨t.toArray⟩ 0 = ((t.getD 0 0).toNat : Int) := btN ⟨t.toArray⟩ 0
    have o1 := zes ⟨t.toArray⟩ 48 57 (by rw [zt]; omega) k (by rw [zt]; omega)
    have o2 := zes ⟨v.toArray⟩ 32 126 (by rw [size_eq, mk_l]; omega) k (by rw [size_eq, mk_l]; omega)
    rw [mk_l] at o1 o2
    change zbm.f k _ 48 57 = _ at o1
    change zbm.f k _ 32 126 = _ at o2
    rw [show [m, t, v].length = 3 from rfl, if_pos (by rfl), if_pos (by omega), e0, e1, e2, Lib.toList_data, mk_l, zt, hb, o1, o2, show ([72, 84, 84, 80, 47, 49, 46, 49] : List UInt8) = http11 from rfl]
    simp only [Option.bind_some]
    generalize (t.all fun c => decide (48 ≤ c.toNat) && decide (c.toNat ≤ 57)) = D
    generalize (v.all fun c => decide (32 ≤ c.toNat) && decide (c.toNat ≤ 126)) = V
    by_cases h1 : m = http11
    · rw [if_pos h1, if_pos (by omega), beq_iff_eq.2 h1]
      by_cases h2 : t.length = 3
      · rw [if_pos (by omega), if_pos (by omega), decide_eq_true h2]
        by_cases h3 : 49 ≤ (t.getD 0 0).toNat
        · rw [if_pos (by omega), decide_eq_true h3]
          by_cases h4 : (t.getD 0 0).toNat ≤ 53
          · rw [if_pos (by omega), decide_eq_true h4]
            cases D with
            | false => rw [if_neg (by simp)]; rfl
            | true => rw [if_pos rfl, if_pos (by omega)]; rfl
          · rw [if_neg (by omega), decide_eq_false h4]; rfl
        · rw [if_neg (by omega), decide_eq_false h3]; rfl
      · rw [if_neg (by omega), decide_eq_false h2]; rfl
    · rw [if_neg h1, beq_eq_false_iff_ne.2 h1]; rfl
  · rw [if_neg (by omega), hno]
    rfl
theorem fields_any (rs : List (List UInt8)) (hr : ∀ r ∈ rs, r.length ≤ 8192) (k : Nat) (hk : 8300 ≤ k) :
    zau.f k (rs.map fun (l : List UInt8) => (⟨l.toArray⟩ : ByteArray)) = some (if rs.length ≤ 32 then outF (foldV rs [] 0 false) else ([], 0, false)) := by
  by_cases h : rs.length ≤ 32
  · rw [if_pos h]
    exact fields_f rs hr h k hk
  · rw [if_neg h]
    unfold zau.f
    rw [List.length_map, if_pos (by omega)]
end Go.Proofs.YtipfekjmcddelaaGreatDoor.PureHttpWrites
