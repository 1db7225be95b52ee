/- HttpReads, the plain law, part G. -/
import Derived.Test.YtipfekjmcddelaaGreatDoorHrA
namespace Go.Proofs.YtipfekjmcddelaaGreatDoor.PureHttpReads
open Go.RowKit Go.Lib Go.Proofs.YtipfekjmcddelaaGreatDoor.XHttpReads Go.Proofs.YtipfekjmcddelaaGreatDoorW.PrintWords Go.Proofs.YtipfekjmcddelaaGreatDoorW.PrintLast Go.Proofs.YtipfekjmcddelaaGreatDoorW.PrintMore
set_option maxRecDepth 100000
set_option linter.unusedSimpArgs false
theorem cut_at' (p : UInt8) (x y : List UInt8) (h : ∀ c ∈ x, c ≠ p) : cut (x ++ p :: y) [p] = (x, y, true) := by
  have h0 : index (p :: y) [p] = 0 := index_here _ _ _ (by simp [List.isPrefixOf])
  have hi : index (x ++ p :: y) [p] = x.length := by
    rw [index_skip p [] x (p :: y) h (by omega), h0]
    simp
  unfold cut
  rw [hi, if_pos (by omega)]
  simp
theorem cut_no' (p : UInt8) (x : List UInt8) (h : ∀ c ∈ x, c ≠ p) : cut x [p] = (x, [], false) := by
  unfold cut
  rw [index_none p [] x h]
  rfl
theorem at_or (p : UInt8) (l : List UInt8) : (∃ x y, l = x ++ p :: y ∧ (∀ c ∈ x, c ≠ p)) ∨ (∀ c ∈ l, c ≠ p) := by
  induction l with
  | nil => exact .inr (by simp)
  | cons a l ih =>
    by_cases h : a = p
    · subst h; exact .inl ⟨[], l, rfl, by simp⟩
    · rcases ih with ⟨x, y, rfl, hx⟩ | ih
      · refine .inl ⟨a :: x, y, rfl, ?_⟩
        intro c hc
        rcases List.mem_cons.1 hc with rfl | hc
        · exact h
        · exact hx c hc
      · refine .inr ?_
        intro c hc
        rcases List.mem_cons.1 hc with rfl | hc
        · exact h
        · exact ih c hc
/-- A request's first row? -/
def reqOk (r : List UInt8) : Bool := askedL (cut r [32]).1 (cut (cut r [32]).2.1 [32]).1 && ((cut (cut r [32]).2.1 [32]).2.1 == http11)
theorem split32 (r : List UInt8) : ∃ P : List (List UInt8), splitK [32] 0 (count r [32]) r = P ∧ ((P.length = 3 ∧ P = [(cut r [32]).1, (cut (cut r [32]).2.1 [32]).1, (cut (cut r [32]).2.1 [32]).2.1]) ∨ (P.length ≠ 3 ∧ reqOk r = false)) := by
  refine ⟨_, rfl, ?_⟩
  rcases at_or 32 r with ⟨x, y, rfl, hx⟩ | hn
  · rw [split_at1 32 x y hx]
    unfold reqOk
    rw [cut_at' 32 x y hx]
    simp only
    rcases at_or 32 y with ⟨x2, y2, rfl, hx2⟩ | hn2
    · rw [split_at1 32 x2 y2 hx2, cut_at' 32 x2 y2 hx2]
      simp only
      rcases at_or 32 y2 with ⟨x3, y3, rfl, hx3⟩ | hn3
      · right
        rw [split_at1 32 x3 y3 hx3]
        constructor
        · have : splitK [32] 0 (count y3 [32]) y3 ≠ [] := by
            cases count y3 [32] with
            | zero => simp [splitK]
            | succ k => rw [splitK]; split <;> simp
          have := List.length_pos_iff.2 this
          simp only [List.length_cons]
          omega
        · rw [show ((x3 ++ 32 :: y3) == http11) = false from beq_eq_false_iff_ne.2 (fun h => by
            have h1 : (32 : UInt8) ∈ http11 := by rw [← h]; simp
            revert h1
            decide)]
          simp
      · left
        rw [split_no1 32 y2 hn3]
        exact ⟨rfl, rfl⟩
    · right
      rw [split_no1 32 y hn2, cut_no' 32 y hn2]
      exact ⟨by simp, by simp [http11]⟩
  · right
    rw [split_no1 32 r hn]
    unfold reqOk
    rw [cut_no' 32 r hn]
    simp only
    rw [cut_no' 32 [] (by simp)]
    exact ⟨by simp, by simp [http11]⟩
theorem split32_f (r : List UInt8) (hr : r.length ≤ 8192) : strings_Split.f ⟨r.toArray⟩ (⟨#[32]⟩ : ByteArray) = some ((splitK [32] 0 (count r [32]) r).map fun (l : List UInt8) => (⟨l.toArray⟩ : ByteArray)) := by
  unfold strings_Split.f
  rw [if_pos ⟨by rw [size_eq, mk_l]; omega, by decide⟩, split_data1 ⟨r.toArray⟩ 32 _ rfl]
theorem cut_le2 (r : List UInt8) (hr : r.length ≤ 8192) : (cut r [32]).1.length ≤ 8192 ∧ (cut r [32]).2.1.length ≤ 8192 ∧ (cut (cut r [32]).2.1 [32]).1.length ≤ 8192 ∧ (cut (cut r [32]).2.1 [32]).2.1.length ≤ 8192 := by
  have h1 := cut_le r [32]
  have h2 := cut_le (cut r [32]).2.1 [32]
  omega
theorem row1_any (r : List UInt8) (hr : r.length ≤ 8192) (k : Nat) (hk : 8300 ≤ k) : http_ParseRequest_1.f k ⟨r.toArray⟩ = some (reqOk r) := by
  obtain ⟨P, hP, h⟩ := split32 r
  have hl := cut_le2 r hr
  unfold http_ParseRequest_1.f
  rw [split32_f r hr, hP]
  simp only [Option.bind_some, List.length_map]
  rcases h with ⟨h3, rfl⟩ | ⟨h3, hno⟩
  · unfold reqOk
    generalize (cut r [32]).1 = m at hl ⊢
    generalize (cut (cut r [32]).2.1 [32]).1 = t at hl ⊢
    generalize (cut (cut r [32]).2.1 [32]).2.1 = v at hl ⊢
    have e0 : rdOf ByteArray.empty ([m, t, v].map fun (l : List UInt8) => (⟨l.toArray⟩ : ByteArray)) 0 = ⟨m.toArray⟩ := rfl
    have e1 : rdOf ByteArray.empty ([m, t, v].map fun (l : List UInt8) => (⟨l.toArray⟩ : ByteArray)) 1 = ⟨t.toArray⟩ := rfl
    have e2 : rdOf ByteArray.empty ([m, t, v].map fun (l : List UInt8) => (⟨l.toArray⟩ : ByteArray)) 2 = ⟨v.toArray⟩ := rfl
    rw [show [m, t, v].length = 3 from rfl, if_pos (by rfl), if_pos (by omega), if_pos (by omega), e0, e1, e2, asked_f _ _ (by rw [size_eq, mk_l]; omega) (by rw [size_eq, mk_l]; omega) k (by omega), mk_l, mk_l]
    simp only [Option.bind_some]
    cases askedL m t with
    | false => rw [if_neg (by simp)]; simp
    | true =>
      rw [if_pos rfl, if_pos (by omega), Lib.toList_data]
      show some (v == http11) = _
      rw [Bool.true_and]
  · rw [if_neg (by omega), hno]
end Go.Proofs.YtipfekjmcddelaaGreatDoor.PureHttpReads
