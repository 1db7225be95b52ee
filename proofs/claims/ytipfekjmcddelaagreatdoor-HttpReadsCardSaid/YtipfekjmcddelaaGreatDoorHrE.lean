/- HttpReads, the plain law, part E. -/
import Derived.Test.YtipfekjmcddelaaGreatDoorHrD
namespace Go.Proofs.YtipfekjmcddelaaGreatDoor.PureHttpReads
open Go.RowKit Go.Lib Go.Proofs.YtipfekjmcddelaaGreatDoor.XHttpReads Go.Proofs.YtipfekjmcddelaaGreatDoorW.PrintWords Go.Proofs.YtipfekjmcddelaaGreatDoorW.PrintLast Go.Proofs.YtipfekjmcddelaaGreatDoorW.PrintMore
set_option maxRecDepth 100000
set_option linter.unusedSimpArgs false
theorem refresponse_j (s : ByteArray) (hs : s.size ≤ 140737488351232) (A n : Nat) (hA : A ≤ s.size) (hn : n ≤ 65536) (t : List UInt8) (fs : List S62) (b : Bool) (ht : b = false → t.length = 3 ∧ 49 ≤ (t.getD 0 0).toNat ∧ (t.getD 0 0).toNat ≤ 53 ∧ (t.all fun c => decide (48 ≤ c.toNat) && decide (c.toNat ≤ 57)) = true) (k : Nat) :
    calepinref08_Response.j0 (k + 1) s (A : Int) ⟨t.toArray⟩ fs (n : Int) b = some (if b = true then err4 80 else if s.size - A < n then err4 91 else ((codeL t : Int), fs, ⟨((s.data.toList.drop A).take n).toArray⟩, ((A + n : Nat) : Int), 0)) := by
  rw [calepinref08_Response.j0]
  cases b with
  | true => rw [if_pos rfl]; rfl
  | false =>
    obtain ⟨k3, k4, k5, k6⟩ := ht rfl
    obtain ⟨_, b1, c1, b2, c2⟩ := code_num t k3 k4 k5 k6
    have zt : (⟨t.toArray⟩ : ByteArray).size = t.length := by rw [size_eq, mk_l]
    have h0 : bt ⟨t.toArray⟩ 0 = ((t.getD 0 0).toNat : Int) := btN ⟨t.toArray⟩ 0
    have h1 : bt ⟨t.toArray⟩ 1 = ((t.getD 1 0).toNat : Int) := btN ⟨t.toArray⟩ 1
    have h2 : bt ⟨t.toArray⟩ 2 = ((t.getD 2 0).toNat : Int) := btN ⟨t.toArray⟩ 2
    rw [if_neg (by simp), wrapE ((s.size : Int) - (A : Int)) (s.size - A) (by omega) (by omega), wrapE ((A : Int) + (n : Int)) (A + n) (by omega) (by omega), zt, k3]
    by_cases h : s.size - A < n
    · rw [if_pos (by omega), if_neg (by simp), if_pos h]; rfl
    · have e : 100 * ((((t.getD 0 0).toNat : Int) - 48) % 256) + 10 * ((((t.getD 1 0).toNat : Int) - 48) % 256) + (((t.getD 2 0).toNat : Int) - 48) % 256 = (codeL t : Int) := by
        unfold codeL
        omega
      rw [if_neg (by omega), if_pos (by omega), if_pos (by omega), if_pos (by omega), if_pos (by omega), if_pos (by omega), if_pos (by omega), Int.toNat_natCast, Int.toNat_natCast, ext_mk, if_neg (by simp), if_neg h, Nat.add_sub_cancel_left, h0, h1, h2, e]
theorem ansY_bad (s : ByteArray) (r : List UInt8) (rs : List (List UInt8)) (rest : List UInt8) (h : rs.length ≤ 32 → ∀ x, foldV rs [] 0 false = some x → respOk r = false) : ansY s (some (r :: rs, rest)) = err4 80 := by
  rw [ansY]
  by_cases h32 : rs.length ≤ 32
  · rw [if_pos h32]
    cases hF : foldV rs [] 0 false with
    | none => rfl
    | some x =>
      simp only
      rw [if_neg (by rw [h h32 x hF]; simp)]
  · rw [if_neg h32]
theorem outG_n (rs : List (List UInt8)) : ∃ (fs : List S62) (n : Nat) (b : Bool), outG rs.length (foldV rs [] 0 false) = (fs, (n : Int), b) ∧ n ≤ 65536 ∧ (b = true → rs.length ≤ 32 ∧ ∃ x, foldV rs [] 0 false = some x ∧ fs = x.1.map mkS ∧ n = x.2) ∧ (b = false → rs.length ≤ 32 → foldV rs [] 0 false = none) := by
  have hle := foldV_le rs [] 0 false
  cases hF : foldV rs [] 0 false with
  | none => exact ⟨[], 0, false, rfl, by omega, (fun h => nomatch h), fun _ _ => rfl⟩
  | some x => exact ⟨x.1.map mkS, x.2, decide (rs.length ≤ 32), rfl, hle x (Nat.zero_le _) hF, fun h => ⟨of_decide_eq_true h, x, rfl, rfl, rfl⟩, fun h h2 => absurd h2 (of_decide_eq_false h)⟩
theorem refresponse (s : ByteArray) (hs : s.size ≤ 140737488351232) (k : Nat) (hk : 50000 ≤ k) : calepinref08_Response.f k s = some (ansY s (hd (s.data.toList.take (min s.size 8192)))) := by
  obtain ⟨k, rfl⟩ : ∃ k', k = k' + 1 := ⟨k - 1, by omega⟩
  have hsz := size_eq s
  have hl' : (s.data.toList.take (min s.size 8192)).length ≤ 8192 := by rw [List.length_take]; omega
  unfold calepinref08_Response.f
  rw [refhead s hs (k + 1) (by omega), Option.bind_some]
  cases hH : hd (s.data.toList.take (min s.size 8192)) with
  | none =>
    rw [outH, ansY]
    by_cases h8 : s.size < 8192
    · rw [if_pos h8, decide_eq_true h8]; rfl
    · rw [if_neg h8, decide_eq_false h8]; rfl
  | some x =>
    obtain ⟨rows, rest⟩ := x
    obtain ⟨hne, hrl, hrest, hlens⟩ := hd_lens _ hl' _ _ hH
    rw [List.length_take] at hrest
    cases rows with
    | nil => exact absurd rfl hne
    | cons r rs =>
      have hr := hlens r List.mem_cons_self
      have hcl := cut_le2 r hr
      have hl1 : (((r :: rs).map fun (l : List UInt8) => (⟨l.toArray⟩ : ByteArray)).length : Int) = rs.length + 1 := by simp
      have h0 : rdOf ByteArray.empty ((r :: rs).map fun (l : List UInt8) => (⟨l.toArray⟩ : ByteArray)) 0 = ⟨r.toArray⟩ := rfl
      have hrs : rs.length ≤ 8193 := by simp only [List.length_cons] at hrl; omega
      rw [outH]
      simp only
      rw [if_pos trivial, hl1, if_pos (by omega), h0, refcut r 32 (by omega) (k + 1) (by omega) 32 rfl, Option.bind_some]
      simp only
      rw [refcut _ 32 (by omega) (k + 1) (by omega) 32 rfl, Option.bind_some, if_pos (by omega), show ((r :: rs).map fun (l : List UInt8) => (⟨l.toArray⟩ : ByteArray)).drop 1 = rs.map fun (l : List UInt8) => (⟨l.toArray⟩ : ByteArray) from rfl,
        reffields rs (fun x h => hlens x (List.mem_cons_of_mem _ h)) hrs (k + 1) (by omega), Option.bind_some]
      obtain ⟨fs, n, B, hG, hn, hB1, hB2⟩ := outG_n rs
      rw [hG]
      have hok := respOk_iff r
      have hno : ∀ z : respOk r = true → False, respOk r = false := fun z => Bool.eq_false_iff.2 z
      obtain ⟨A, hA⟩ : ∃ A, min s.size 8192 - rest.length = A := ⟨_, rfl⟩
      have hAs : A ≤ s.size := by omega
      have hy : ansY s (some (r :: rs, rest)) = ansY s (some (r :: rs, rest)) := rfl
      have o1 := refrange (cut (cut r [32]).2.1 [32]).1 48 57 false (by omega) (k + 1) (by omega) 48 57 rfl rfl
      have o2 := refrange (cut (cut r [32]).2.1 [32]).2.1 32 126 false (by omega) (k + 1) (by omega) 32 126 rfl rfl
      simp only [Bool.false_and, Bool.false_or] at o1 o2
      have hbt : bt ⟨(cut (cut r [32]).2.1 [32]).1.toArray⟩ 0 = (((cut (cut r [32]).2.1 [32]).1.getD 0 0).toNat : Int) := btN _ 0
      have zt : (⟨(cut (cut r [32]).2.1 [32]).1.toArray⟩ : ByteArray).size = (cut (cut r [32]).2.1 [32]).1.length := by rw [size_eq, mk_l]
      have hbad : (respOk r = true → False) → calepinref08_Response.j0 (k + 1) s (A : Int) ⟨(cut (cut r [32]).2.1 [32]).1.toArray⟩ fs (n : Int) true = some (ansY s (some (r :: rs, rest))) := fun z => by
        rw [refresponse_j s hs A n hAs hn _ fs true (fun h => by cases h), if_pos rfl, ansY_bad s r rs rest fun _ _ _ => hno z]
      have hbad2 : B = false → calepinref08_Response.j0 (k + 1) s (A : Int) ⟨(cut (cut r [32]).2.1 [32]).1.toArray⟩ fs (n : Int) true = some (ansY s (some (r :: rs, rest))) := fun z => by
        rw [refresponse_j s hs A n hAs hn _ fs true (fun h => by cases h), if_pos rfl, ansY_bad s r rs rest fun h x hx => by rw [hB2 z h] at hx; cases hx]
      simp only
      rw [hA, Lib.toList_data, mk_l, zt, hbt, o1, o2, show ([72, 84, 84, 80, 47, 49, 46, 49] : List UInt8) = http11 from rfl]
      simp only [Option.bind_some]
      by_cases k1 : (cut (cut r [32]).2.1 [32]).2.2 = true
      · rw [if_pos k1]
        cases B with
        | false =>
          rw [if_neg (by simp)]
          exact hbad2 rfl
        | true =>
          rw [if_pos rfl]
          by_cases k2 : (cut r [32]).1 = http11
          · rw [if_pos k2]
            by_cases k3 : (cut (cut r [32]).2.1 [32]).1.length = 3
            · rw [if_pos (by omega), if_pos (by omega)]
              by_cases k4 : 49 ≤ ((cut (cut r [32]).2.1 [32]).1.getD 0 0).toNat
              · rw [if_neg (by omega)]
                by_cases k5 : ((cut (cut r [32]).2.1 [32]).1.getD 0 0).toNat ≤ 53
                · rw [if_neg (by omega)]
                  by_cases k6 : ((cut (cut r [32]).2.1 [32]).1.all fun c => decide (48 ≤ c.toNat) && decide (c.toNat ≤ 57)) = true
                  · rw [if_pos k6]
                    by_cases k7 : ((cut (cut r [32]).2.1 [32]).2.1.all fun c => decide (32 ≤ c.toNat) && decide (c.toNat ≤ 126)) = true
                    · obtain ⟨h32, x, hF, rfl, rfl⟩ := hB1 rfl
                      rw [k7, refresponse_j s hs A x.2 hAs hn _ _ _ (fun _ => ⟨k3, k4, k5, k6⟩), if_neg (by simp), ansY, if_pos h32, hF]
                      simp only
                      rw [if_pos (hok.2 ⟨k1, k2, k3, k4, k5, k6, k7⟩), hA]
                    · rw [Bool.eq_false_iff.2 k7]
                      exact hbad fun z => k7 (hok.1 z).2.2.2.2.2.2
                  · rw [if_neg k6]
                    exact hbad fun z => k6 (hok.1 z).2.2.2.2.2.1
                · rw [if_pos (by omega)]
                  exact hbad fun z => k5 (hok.1 z).2.2.2.2.1
              · rw [if_pos (by omega)]
                exact hbad fun z => k4 (hok.1 z).2.2.2.1
            · rw [if_neg (by omega)]
              exact hbad fun z => k3 (hok.1 z).2.2.1
          · rw [if_neg k2]
            exact hbad fun z => k2 (hok.1 z).2.1
      · rw [if_neg k1]
        exact hbad fun z => k1 (hok.1 z).1
theorem same_l0 (l : List S62) (hl : l.length ≤ 4000000) : ∀ (j k i : Nat), i + j = l.length → j + 1 ≤ k → calepinref08_Same.l0 k l l (l.length : Int) (i : Int) = some true := by
  intro j
  induction j with
  | zero =>
    intro k i hi hk
    obtain ⟨k, rfl⟩ : ∃ k', k = k' + 1 := ⟨k - 1, by omega⟩
    rw [calepinref08_Same.l0, if_neg (by omega)]
  | succ j ih =>
    intro k i hi hk
    obtain ⟨k, rfl⟩ : ∃ k', k = k' + 1 := ⟨k - 1, by omega⟩
    rw [calepinref08_Same.l0, if_pos (by omega), if_pos (by omega), if_pos (by omega), if_pos (by omega), if_neg (by simp), wrapE ((i : Int) + 1) (i + 1) (by omega) (by omega)]
    exact ih k (i + 1) (by omega) (by omega)
theorem same_self (l : List S62) (hl : l.length ≤ 4000000) (k : Nat) (hk : l.length + 1 ≤ k) : calepinref08_Same.f k l l = some true := by
  unfold calepinref08_Same.f
  rw [if_pos rfl]
  exact same_l0 l hl l.length k 0 (by omega) hk
theorem foldV_len : ∀ (rs : List (List UInt8)) (acc : List (List UInt8 × List UInt8)) (n : Nat) (had : Bool) (x : List (List UInt8 × List UInt8) × Nat), foldV rs acc n had = some x → x.1.length ≤ acc.length + rs.length
  | [], acc, n, _, x, h => by
    rw [foldV] at h
    cases h
    exact Nat.le_add_right _ _
  | r :: rs, acc, n, had, x, h => by
    rw [foldV] at h
    simp only [List.length_cons]
    cases hr : rowV r with
    | bad => rw [hr] at h; cases h
    | len m =>
      rw [hr] at h
      simp only at h
      split at h
      · cases h
      · have := foldV_len rs acc m true x h
        omega
    | fld a b =>
      rw [hr] at h
      have := foldV_len rs _ n had x h
      simp only [List.length_append, List.length_cons, List.length_nil] at this
      omega
theorem ansX_len (s : ByteArray) (H : Option (List (List UInt8) × List UInt8)) : (ansX s H).2.2.1.length ≤ 32 := by
  unfold ansX
  split
  · split
    · split
      · rename_i h32 x hF
        have := foldV_len _ _ _ _ _ hF
        split
        · split
          · simp [err3]
          · simp only [List.length_map, List.length_nil] at this ⊢
            omega
        · simp [err3]
      · simp [err3]
    · simp [err3]
  · simp [err3]
  · simp [err3]
theorem ansY_len (s : ByteArray) (H : Option (List (List UInt8) × List UInt8)) : (ansY s H).2.1.length ≤ 32 := by
  unfold ansY
  split
  · split
    · split
      · rename_i h32 x hF
        have := foldV_len _ _ _ _ _ hF
        split
        · split
          · simp [err4]
          · simp only [List.length_map, List.length_nil] at this ⊢
            omega
        · simp [err4]
      · simp [err4]
    · simp [err4]
  · simp [err4]
  · simp [err4]
theorem HttpReadsP : calepinlaw08_HttpReads.Pure := by
  intro s hs
  refine ⟨60001, ?_⟩
  unfold calepinlaw08_HttpReads.f
  rw [first_ge 60001 (by omega), Option.bind_some, if_pos rfl, request_any s hs 60001 (by omega), Option.bind_some, refrequest s hs 60001 (by omega), Option.bind_some]
  have h1 := ansX_len s (hd (s.data.toList.take (min s.size 8192)))
  generalize ansX s (hd (s.data.toList.take (min s.size 8192))) = X at h1 ⊢
  rw [if_pos rfl, if_pos rfl, if_pos rfl, if_pos rfl, if_pos rfl, same_self _ (by omega) 60001 (by omega), Option.bind_some, show (60001 : Nat) = 60000 + 1 from rfl, calepinlaw08_HttpReads.j0, if_neg (by simp), response_any s hs 60000 (by omega), Option.bind_some, refresponse s hs 60000 (by omega), Option.bind_some]
  have h2 := ansY_len s (hd (s.data.toList.take (min s.size 8192)))
  generalize ansY s (hd (s.data.toList.take (min s.size 8192))) = Y at h2 ⊢
  rw [if_pos rfl, if_pos rfl, if_pos rfl, if_pos rfl, same_self _ (by omega) 60000 (by omega), Option.bind_some]
end Go.Proofs.YtipfekjmcddelaaGreatDoor.PureHttpReads
