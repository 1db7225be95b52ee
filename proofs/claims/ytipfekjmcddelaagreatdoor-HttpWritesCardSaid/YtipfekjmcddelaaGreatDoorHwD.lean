/- HttpWrites, the plain law, part D. -/
import Derived.Test.YtipfekjmcddelaaGreatDoorHwG
namespace Go.Proofs.YtipfekjmcddelaaGreatDoor.PureHttpWrites
open Go.RowKit Go.Lib Go.Proofs.YtipfekjmcddelaaGreatDoor.XHttpWrites Go.Proofs.YtipfekjmcddelaaGreatDoorW.zgo Go.Proofs.YtipfekjmcddelaaGreatDoorW.zgp Go.Proofs.YtipfekjmcddelaaGreatDoorW.zgq
set_option maxRecDepth 100000
set_option linter.unusedSimpArgs false
def err2 (e : Int) : ByteArray × List S62 × ByteArray × Int × Int := (⟨#[]⟩, [], ⟨#[]⟩, 0, e)
def ansQ (s : ByteArray) (ok : List UInt8 → Bool) : Option (List (List UInt8) × List UInt8) → ByteArray × List S62 × ByteArray × Int × Int
  | some (r :: rs, rest) => if rs.length ≤ 32 then (match foldV rs [] 0 false with
      | some x => if ok r = true then (if s.size - (min s.size 8192 - rest.length) < x.2 then err2 91 else (⟨r.toArray⟩, x.1.map mkS, ⟨((s.data.toList.drop (min s.size 8192 - rest.length)).take x.2).toArray⟩, ((min s.size 8192 - rest.length + x.2 : Nat) : Int), 0)) else err2 80
      | none => err2 80) else err2 80
  | some ([], _) => err2 80
  | none => err2 (if s.size < 8192 then 91 else 80)
theorem hd_lens (l : List UInt8) (hl : l.length ≤ 8192) (rows : List (List UInt8)) (rest : List UInt8) (h : hd l = some (rows, rest)) : rows ≠ [] ∧ rows.length ≤ 8193 ∧ rest.length ≤ l.length ∧ ∀ r ∈ rows, r.length ≤ 8192 := by
  obtain ⟨J, e1, _, e3⟩ := zfg _ _ _ h
  have hJ : J.length ≤ 8192 := by rw [e1, List.length_append] at hl; omega
  refine ⟨by rw [← e3]; exact zga J, by rw [← e3]; have := zfp J; omega, by rw [e1, List.length_append, List.length_append]; omega, fun r hr => ?_⟩
  rw [← e3] at hr
  have := zfq J r hr
  omega
theorem parseb_any (s : ByteArray) (hs : s.size ≤ 140737488351232) (k : Nat) (hk : 9000 ≤ k) : zbe.f k s = some (ansQ s respOk (hd (s.data.toList.take (min s.size 8192)))) := by
  obtain ⟨k, rfl⟩ : ∃ k', k = k' + 2 := ⟨k - 2, by omega⟩
  have hsz := size_eq s
  obtain ⟨N, hN⟩ : ∃ N : Nat, N = min s.size 8192 := ⟨_, rfl⟩
  have hmn : mn (s.size : Int) 8192 = (N : Int) := by unfold mn; split <;> omega
  have hl' : (s.data.toList.take N).length = N := by rw [List.length_take]; omega
  have hext : s.extract 0 N = ⟨(s.data.toList.take N).toArray⟩ := by rw [zet, List.drop_zero, Nat.sub_zero]
  have hidx : ∀ z, index (s.data.toList.take N) crlf2 = z → strings_Index.f (s.extract 0 N) ⟨#[13, 10, 13, 10]⟩ = some z := by
    intro z hz
    unfold strings_Index.f
    rw [hext, if_pos ⟨by rw [size_eq, mk_l, hl']; omega, by decide⟩]
    exact congrArg some hz
  rw [← hN]
  unfold zbe.f
  rw [hmn]
  clear hmn
  rw [if_pos (by omega), if_pos (by omega), Int.toNat_natCast]
  cases hH : hd (s.data.toList.take N) with
  | none =>
    rw [hidx _ (zfu _ hH), Option.bind_some, if_pos (by omega), zbe.j0, ansQ]
    by_cases h8 : s.size < 8192
    · rw [if_pos (by rw [decide_eq_true_eq]; omega), if_pos h8]
      rfl
    · rw [if_neg (by rw [decide_eq_true_eq]; omega), if_pos (by omega), if_neg h8]
      rfl
  | some x =>
    obtain ⟨rows, rest⟩ := x
    obtain ⟨J, e1, e2, e3⟩ := zfg _ _ _ hH
    have hJ : J.length + 4 + rest.length = N := by rw [← hl', e1, List.length_append, List.length_append]; show _ = J.length + (4 + _); omega
    have hhead : s.extract 0 J.length = ⟨J.toArray⟩ := by
      have h1 : s.data.toList.take J.length = (s.data.toList.take N).take J.length := by rw [List.take_take, Nat.min_eq_left (by omega)]
      rw [zet, List.drop_zero, Nat.sub_zero, h1, e1, List.take_left']
      rfl
    have hspl : strings_Split.f ⟨J.toArray⟩ (⟨#[13, 10]⟩ : ByteArray) = some (rows.map fun (l : List UInt8) => (⟨l.toArray⟩ : ByteArray)) := by
      unfold strings_Split.f
      rw [if_pos ⟨by rw [size_eq, mk_l]; omega, by decide⟩, rows_any, mk_l, e3]
    have hlens : ∀ r ∈ rows, r.length ≤ 8192 := fun r h => by
      rw [← e3] at h
      have := zfq J r h
      omega
    have hne : rows ≠ [] := by rw [← e3]; exact zga J
    rw [hidx _ e2, Option.bind_some, if_neg (by omega), zbe.j0, if_neg (by simp), if_neg (by omega), if_pos (by omega), if_pos (by omega), Int.toNat_natCast, hhead, hspl, Option.bind_some]
    have hat : min s.size 8192 - rest.length = J.length + 4 := by omega
    cases rows with
    | nil => exact absurd rfl hne
    | cons r rs =>
      have hl1 : (((r :: rs).map fun (l : List UInt8) => (⟨l.toArray⟩ : ByteArray)).length : Int) = rs.length + 1 := by simp
      have h0 : rdOf ByteArray.empty ((r :: rs).map fun (l : List UInt8) => (⟨l.toArray⟩ : ByteArray)) 0 = ⟨r.toArray⟩ := rfl
      have hrow := row2_any r (hlens r List.mem_cons_self) (k + 1) (by omega)
      rw [hl1, if_pos (by omega), show ((r :: rs).map fun (l : List UInt8) => (⟨l.toArray⟩ : ByteArray)).drop 1 = rs.map fun (l : List UInt8) => (⟨l.toArray⟩ : ByteArray) from rfl, fields_any rs (fun x h => hlens x (List.mem_cons_of_mem _ h)) (k + 1) (by omega), Option.bind_some]
      rw [ansQ, hat]
      by_cases h32 : rs.length ≤ 32
      · rw [if_pos h32, if_pos h32]
        have hle := zfb rs [] 0 false
        cases hF : foldV rs [] 0 false with
        | none =>
          simp only [outF, Bool.false_eq_true, if_false]
          rw [zbe.j1, if_pos rfl]
          rfl
        | some x =>
          obtain ⟨fs, n⟩ := x
          have hn : n ≤ 65536 := hle (fs, n) (Nat.zero_le _) hF
          clear hle
          simp only [outF]
          rw [if_pos trivial, if_pos (by omega), h0, hrow, Option.bind_some, zbe.j1]
          cases respOk r with
          | false =>
            rw [if_pos (by rfl), if_neg (by simp)]
            rfl
          | true =>
            rw [if_neg (by simp), if_pos rfl, wrapE ((J.length : Int) + 4) (J.length + 4) (by omega) (by omega), wrapE ((s.size : Int) - ((J.length + 4 : Nat) : Int)) (s.size - (J.length + 4)) (by omega) (by omega), wrapE (((J.length + 4 : Nat) : Int) + (n : Int)) (J.length + 4 + n) (by omega) (by omega), hl1, h0]
            by_cases h : s.size - (J.length + 4) < n
            · rw [if_pos (by omega), if_pos h]
              rfl
            · rw [if_neg (by omega), if_pos (by omega), if_pos (by omega), if_pos (by omega), if_pos (by omega), Int.toNat_natCast, Int.toNat_natCast, zet, if_neg h, Nat.add_sub_cancel_left]
      · rw [if_neg h32, if_neg h32]
        simp only [Bool.false_eq_true, if_false]
        rw [zbe.j1, if_pos rfl]
        rfl
def codeL (t : List UInt8) : Nat := 100 * ((t.getD 0 0).toNat - 48) + 10 * ((t.getD 1 0).toNat - 48) + ((t.getD 2 0).toNat - 48)
theorem dec3 : ∀ (x : Fin 5) (y z : Fin 10), decDigits (100 * (x.val + 1) + 10 * y.val + z.val) = [UInt8.ofNat (49 + x.val), UInt8.ofNat (48 + y.val), UInt8.ofNat (48 + z.val)] := by decide +kernel
theorem code_num (t : List UInt8) (h : t.length = 3) (h1 : 49 ≤ (t.getD 0 0).toNat) (h2 : (t.getD 0 0).toNat ≤ 53) (hd : (t.all fun c => decide (48 ≤ c.toNat) && decide (c.toNat ≤ 57)) = true) :
    numV ⟨t.toArray⟩ 599 = (codeL t, true) ∧ 48 ≤ (t.getD 1 0).toNat ∧ 48 ≤ (t.getD 2 0).toNat ∧ (t.getD 1 0).toNat ≤ 57 ∧ (t.getD 2 0).toNat ≤ 57 := by
  match t, h with
  | [a, b, c], _ =>
    simp only [List.all_cons, List.all_nil, Bool.and_true, Bool.and_eq_true, decide_eq_true_eq] at hd
    obtain ⟨_, ⟨b1, b2⟩, c1, c2⟩ := hd
    change 49 ≤ a.toNat at h1
    change a.toNat ≤ 53 at h2
    have h3 := dec3 ⟨a.toNat - 49, by omega⟩ ⟨b.toNat - 48, by omega⟩ ⟨c.toNat - 48, by omega⟩
    simp only at h3
    rw [show 49 + (a.toNat - 49) = a.toNat by omega, show 48 + (b.toNat - 48) = b.toNat by omega, show 48 + (c.toNat - 48) = c.toNat by omega, UInt8.ofNat_toNat, UInt8.ofNat_toNat, UInt8.ofNat_toNat] at h3
    refine ⟨?_, b1, c1, b2, c2⟩
    have hc : codeL [a, b, c] = 100 * (a.toNat - 49 + 1) + 10 * (b.toNat - 48) + (c.toNat - 48) := by
      show 100 * (a.toNat - 48) + 10 * (b.toNat - 48) + (c.toNat - 48) = _
      omega
    rw [hc, ← h3, zfs _ 599 (by omega), if_pos (by omega)]
def err4 (e : Int) : Int × List S62 × ByteArray × Int × Int := (0, [], ⟨#[]⟩, 0, e)
def ansY (s : ByteArray) : Option (List (List UInt8) × List UInt8) → Int × List S62 × ByteArray × Int × Int
  | some (r :: rs, rest) => if rs.length ≤ 32 then (match foldV rs [] 0 false with
      | some x => if respOk r = true then (if s.size - (min s.size 8192 - rest.length) < x.2 then err4 91 else ((codeL (cut (cut r [32]).2.1 [32]).1 : Int), x.1.map mkS, ⟨((s.data.toList.drop (min s.size 8192 - rest.length)).take x.2).toArray⟩, ((min s.size 8192 - rest.length + x.2 : Nat) : Int), 0)) else err4 80
      | none => err4 80) else err4 80
  | some ([], _) => err4 80
  | none => err4 (if s.size < 8192 then 91 else 80)
theorem respOk_iff (r : List UInt8) : respOk r = true ↔ (cut (cut r [32]).2.1 [32]).2.2 = true ∧ (cut r [32]).1 = http11 ∧ (cut (cut r [32]).2.1 [32]).1.length = 3 ∧ 49 ≤ ((cut (cut r [32]).2.1 [32]).1.getD 0 0).toNat ∧ ((cut (cut r [32]).2.1 [32]).1.getD 0 0).toNat ≤ 53 ∧ ((cut (cut r [32]).2.1 [32]).1.all fun c => decide (48 ≤ c.toNat) && decide (c.toNat ≤ 57)) = true ∧ ((cut (cut r [32]).2.1 [32]).2.1.all fun c => decide (32 ≤ c.toNat) && decide (c.toNat ≤ 126)) = true := by
  unfold respOk
  simp only [Bool.and_eq_true, beq_iff_eq, decide_eq_true_eq]
theorem response_any (s : ByteArray) (hs : s.size ≤ 140737488351232) (k : Nat) (hk : 9000 ≤ k) : zcc.f k s = some (ansY s (hd (s.data.toList.take (min s.size 8192)))) := by
  have hsz := size_eq s
  have hl' : (s.data.toList.take (min s.size 8192)).length ≤ 8192 := by rw [List.length_take]; omega
  unfold zcc.f
  rw [parseb_any s hs k hk, Option.bind_some]
  cases hH : hd (s.data.toList.take (min s.size 8192)) with
  | none =>
    rw [ansQ, ansY]
    by_cases h8 : s.size < 8192
    · rw [if_pos h8]; rfl
    · rw [if_neg h8]; rfl
  | some x =>
    obtain ⟨rows, rest⟩ := x
    obtain ⟨hne, _, _, hlens⟩ := hd_lens _ hl' _ _ hH
    cases rows with
    | nil => exact absurd rfl hne
    | cons r rs =>
      have hrl := hlens r List.mem_cons_self
      have hcl := cut_le2 r hrl
      rw [ansQ, ansY]
      by_cases h32 : rs.length ≤ 32
      · rw [if_pos h32, if_pos h32]
        cases foldV rs [] 0 false with
        | none => rfl
        | some x =>
          simp only
          by_cases hok : respOk r = true
          · rw [if_pos hok, if_pos hok]
            by_cases h : s.size - (min s.size 8192 - rest.length) < x.2
            · rw [if_pos h, if_pos h]; rfl
            · rw [if_neg h, if_neg h]
              simp only
              obtain ⟨k1, _, k3, k4, k5, k6, _⟩ := (respOk_iff r).1 hok
              obtain ⟨P, hP, hc⟩ := split3 r
              rcases hc with ⟨rfl, _⟩ | ⟨_, hno⟩
              · obtain ⟨hnum, b1, c1, b2, c2⟩ := code_num _ k3 k4 k5 k6
                rw [if_pos trivial, split3_f r hrl, hP, Option.bind_some, if_pos (by simp)]
                have e1 : rdOf ByteArray.empty ([(cut r [32]).1, (cut (cut r [32]).2.1 [32]).1, (cut (cut r [32]).2.1 [32]).2.1].map fun (l : List UInt8) => (⟨l.toArray⟩ : ByteArray)) 1 = ⟨(cut (cut r [32]).2.1 [32]).1.toArray⟩ := rfl
                have hn : zcl.f ⟨(cut (cut r [32]).2.1 [32]).1.toArray⟩ 599 = some ((codeL (cut (cut r [32]).2.1 [32]).1 : Int), true) := by
                  unfold zcl.f
                  rw [if_pos ⟨by rw [size_eq, mk_l]; omega, by decide, by decide⟩, show Int.toNat 599 = 599 from rfl, hnum]
                rw [e1, hn, Option.bind_some]
                simp only
                rw [wrapE _ (codeL (cut (cut r [32]).2.1 [32]).1) rfl (by unfold codeL; omega)]
              · rw [k1] at hno; cases hno
          · rw [if_neg hok, if_neg hok]; rfl
      · rw [if_neg h32, if_neg h32]; rfl
end Go.Proofs.YtipfekjmcddelaaGreatDoor.PureHttpWrites
