/- CondTwins, the plain law. -/
import Derived.Test.YtpedfpeokedelaaDoorXCondTwinsx2
import Derived.Test.YtpedfpeokedelaaDoorCl
namespace Go.Proofs.YtpedfpeokedelaaDoor.PureCondTwins
open Go.RowKit Go.Lib Go.Proofs.YtpedfpeokedelaaDoor.XCondTwins Go.Proofs.YtpedfpeokedelaaDoorW.PrintWords Go.Proofs.YtpedfpeokedelaaDoorW.PrintLast Go.Proofs.YtpedfpeokedelaaDoorW.PrintMore
set_option maxRecDepth 100000
set_option linter.unusedSimpArgs false
theorem bt_get (s : ByteArray) (i : Nat) (h : i < s.data.toList.length) : bt s (i : Int) = ((s.data.toList[i]'h).toNat : Int) := by
  have h2 : i < s.size := by rw [size_eq]; exact h
  unfold bt
  rw [dif_pos (by simpa using h2)]
  rfl
theorem bt_some (s : ByteArray) (i : Nat) (h : i < s.data.toList.length) (c : UInt8) : bt s (i : Int) = (c.toNat : Int) ↔ s.data.toList[i]? = some c := by
  rw [bt_get s i h, List.getElem?_eq_getElem h]
  constructor
  · intro e
    exact congrArg some (UInt8.toNat_inj.1 (by omega))
  · intro e
    rw [Option.some.inj e]
theorem num_f (s : ByteArray) (h : s.size ≤ 281474976710656) : char_Number.f s 4611686018427387904 = some (((numV s most).1 : Int), (numV s most).2) := by
  unfold char_Number.f
  rw [if_pos ⟨h, by omega, by omega⟩]
  rfl
theorem parse_f (s : ByteArray) (hs : s.size ≤ 281474976710656) : cond_Parse.f s = some ((tagL s.data.toList : Int), decide (0 < tagL s.data.toList)) := by
  have hsz := size_eq s
  unfold cond_Parse.f tagL
  by_cases h3 : (s.size : Int) < 3
  · rw [if_pos h3, if_neg (fun h => by omega)]; rfl
  · have hw : wrap64 ((s.size : Int) - 1) = ((s.size - 1 : Nat) : Int) := by unfold wrap64; omega
    have hb0 := bt_some s 0 (by omega) 34
    have hb1 := bt_some s (s.size - 1) (by omega) 34
    simp only [Int.natCast_zero] at hb0
    rw [if_neg h3, if_pos (by omega), hw]
    by_cases h0 : bt s 0 = 34
    · rw [if_pos h0, if_pos (by omega), if_pos (by omega)]
      by_cases h1 : bt s ((s.size - 1 : Nat) : Int) = 34
      · rw [if_pos h1, if_pos (by omega), if_pos (by omega), Int.toNat_natCast, num_f _ (by rw [ByteArray.size_extract]; omega), ext_mk, if_pos ⟨by omega, hb0.1 h0, by rw [← hsz]; exact hb1.1 h1⟩]
        rw [show s.size - 1 - 1 = s.data.toList.length - 2 by omega]
        simp only [Option.bind_some]
        rcases numV_o ⟨((s.data.toList.drop 1).take (s.data.toList.length - 2)).toArray⟩ most (by unfold most; omega) with ⟨n, hn, _, e⟩ | ⟨_, e⟩
        · rw [e]
          unfold most at hn
          have hwn : wrap64 (n : Int) = (n : Int) := by unfold wrap64; omega
          simp only [if_true, hwn]
          congr 2
          exact decide_eq_decide.2 (by omega)
        · rw [e]
          simp only [Bool.false_eq_true, if_false]
          rw [show wrap64 ((0 : Nat) : Int) = ((0 : Nat) : Int) from by unfold wrap64; omega]
          rfl
      · rw [if_neg h1, if_neg (fun h => h1 (hb1.2 (by rw [hsz]; exact h.2.2)))]; rfl
    · rw [if_neg h0, if_neg (fun h => h0 (hb0.2 h.2.1))]; rfl
theorem tag_no (n : Int) (h : ¬ (1 ≤ n ∧ n ≤ 4611686018427387904)) : cond_Tag.f n = some ⟨#[]⟩ := by
  unfold cond_Tag.f
  by_cases h1 : n < 1
  · rw [if_pos h1]
  · rw [if_neg h1, if_pos (by omega)]
theorem dec_f (n : Nat) (h : n < 18446744073709551616) : char_Decimal.f (n : Int) = some ⟨(decDigits n).toArray⟩ := by
  unfold char_Decimal.f
  rw [if_pos ⟨by omega, by omega⟩, Int.toNat_natCast]
theorem tag_ok (n : Nat) (h1 : 1 ≤ n) (h2 : n ≤ most) : cond_Tag.f (n : Int) = some ⟨(tagT n).toArray⟩ := by
  unfold most at h2
  have e1 : IntKind.u64.wrap (n : Int) = (n : Int) := by rw [IntKind.wrap_u64]; omega
  have l1 := dec_len n (by omega)
  unfold cond_Tag.f
  rw [if_neg (by omega), if_neg (by omega), e1, dec_f n (by omega)]
  simp only [Option.bind_some]
  rw [if_pos (by simp [ByteArray.size]; omega), if_pos (by simp [ByteArray.size]; omega)]
  congr 1
theorem trim_f (s : ByteArray) (h : s.size ≤ 281474976710656) : strings_Trim.f s (⟨#[32, 9]⟩ : ByteArray) = some ⟨(trimS s.data.toList blank).toArray⟩ := by
  unfold strings_Trim.f
  rw [if_pos ⟨h, rfl⟩]
  try rfl
theorem trim_size (l : List UInt8) : (trimS l blank).length ≤ l.length := by
  unfold trimS trimLeftS trimRightS
  have h1 := (List.dropWhile_sublist (blank.contains ·) (l := ((l.reverse.dropWhile (blank.contains ·)).reverse))).length_le
  have h2 := (List.dropWhile_sublist (blank.contains ·) (l := l.reverse)).length_le
  simp only [List.length_reverse] at h1 h2
  omega
def outL : Option (List Int × Bool) → List Int × Bool × Int
  | some x => (x.1, x.2, 0)
  | none => ([], false, 31)
def outT (acc : List Int) : Option (List Int) → List Int × Bool × Int
  | some t => (acc ++ t, false, 0)
  | none => ([], false, 31)
theorem list_loop (ps : List ByteArray) (hp : ∀ p ∈ ps, p.size ≤ 281474976710656) (hl : ps.length < 17592186044416) : ∀ (j k i : Nat) (acc : List Int), i + j = ps.length → j + 1 ≤ k → acc.length ≤ i →
    cond_List.l0 k acc ps (ps.length : Int) (i : Int) = some (outT acc (tagsL ((ps.drop i).map (·.data.toList)))) := by
  intro j
  induction j with
  | zero =>
    intro k i acc hi hk ha
    obtain ⟨k, rfl⟩ : ∃ k', k = k' + 1 := ⟨k - 1, by omega⟩
    rw [cond_List.l0, if_neg (by omega), List.drop_of_length_le (by omega)]
    simp [tagsL, outT]
  | succ j ih =>
    intro k i acc hi hk ha
    obtain ⟨k, rfl⟩ : ∃ k', k = k' + 1 := ⟨k - 1, by omega⟩
    have hlt : i < ps.length := by omega
    have hdrop := List.drop_eq_getElem_cons hlt
    obtain ⟨p, hpe⟩ : ∃ p, ps[i] = p := ⟨_, rfl⟩
    rw [hpe] at hdrop
    have hpm : p ∈ ps := by rw [← hpe]; exact List.getElem_mem hlt
    have hrd : rdOf ByteArray.empty ps (i : Int) = p := by
      rw [← hpe]
      simp [rdOf, List.getD_eq_getElem?_getD, List.getElem?_eq_getElem hlt]
    have hps := hp p hpm
    have hts := trim_size p.data.toList
    rw [← size_eq p] at hts
    have hwi : wrap64 ((i : Int) + 1) = ((i + 1 : Nat) : Int) := by unfold wrap64; omega
    rw [cond_List.l0, if_pos (by omega), if_pos (by omega), if_pos (by omega), hrd, trim_f p hps]
    simp only [Option.bind_some]
    rw [parse_f _ (by rw [size_eq, mk_toList]; omega), mk_toList, hdrop, List.map_cons, tagsL]
    simp only [Option.bind_some]
    by_cases h0 : tagL (trimS p.data.toList blank) = 0
    · rw [if_pos h0, h0, if_neg (by simp)]
      rfl
    · rw [if_neg h0, if_pos (by simpa using Nat.pos_of_ne_zero h0), if_pos (by omega), hwi, ih k (i + 1) _ (by omega) (by omega) (by simp; omega)]
      cases tagsL ((ps.drop (i + 1)).map (·.data.toList)) with
      | none => rfl
      | some t => simp [outT]
theorem list_f (s : ByteArray) (hs : s.size ≤ 1073741824) (k : Nat) (hk : s.size + 3 ≤ k) : cond_List.f k s = some (outL (condL s.data.toList)) := by
  have hsz := size_eq s
  unfold cond_List.f condL
  rw [trim_f s (by omega)]
  simp only [Option.bind_some]
  rw [Lib.toList_data, mk_toList]
  by_cases h : trimS s.data.toList blank = [42]
  · rw [if_pos h, if_pos h]; rfl
  · rw [if_neg h, if_neg h]
    have hsp : strings_Split.f s (⟨#[44]⟩ : ByteArray) = some (splitB ⟨#[44]⟩ 0 (countB s ⟨#[44]⟩) s) := by
      unfold strings_Split.f
      rw [if_pos ⟨by omega, rfl⟩]
    rw [hsp]
    simp only [Option.bind_some]
    obtain ⟨ps, hps⟩ : ∃ ps, splitB ⟨#[44]⟩ 0 (countB s ⟨#[44]⟩) s = ps := ⟨_, rfl⟩
    have hpe := pieces_eq s
    rw [hps] at hpe ⊢
    have hlen : ps.length ≤ s.data.toList.length + 1 := by
      have := spl_len s.data.toList []
      rw [← hpe, List.length_map] at this
      exact this
    have hpz : ∀ p ∈ ps, p.size ≤ 281474976710656 := by
      intro p hp
      have h1 : p.data.toList ∈ spl [] s.data.toList := by rw [← hpe]; exact List.mem_map_of_mem hp
      have := spl_mem_len _ _ _ h1
      rw [size_eq p]
      simp only [List.length_nil, Nat.zero_add] at this
      omega
    have := list_loop ps hpz (by omega) ps.length k 0 [] (by omega) (by omega) (by simp)
    simp only [Int.natCast_zero, List.drop_zero] at this
    rw [this, hpe]
    cases tagsL (spl [] s.data.toList) with
    | none => rfl
    | some t => simp [outT, outL]
theorem index_loop (l : List Int) (x : Int) (hl : l.length < 9223372036854775807) : ∀ (j k i : Nat), i + j = l.length → j + 1 ≤ k →
    ∃ r : Int, slices_Index_int_int.l0 k l x (l.length : Int) (i : Int) = some r ∧ (0 ≤ r ↔ (l.drop i).contains x = true) := by
  intro j
  induction j with
  | zero =>
    intro k i hi hk
    obtain ⟨k, rfl⟩ : ∃ k', k = k' + 1 := ⟨k - 1, by omega⟩
    refine ⟨-1, ?_, ?_⟩
    · rw [slices_Index_int_int.l0, if_neg (by omega)]
    · rw [List.drop_of_length_le (by omega)]; simp
  | succ j ih =>
    intro k i hi hk
    obtain ⟨k, rfl⟩ : ∃ k', k = k' + 1 := ⟨k - 1, by omega⟩
    have hlt : i < l.length := by omega
    have hdrop := List.drop_eq_getElem_cons hlt
    have hrd : rd l (i : Int) = l[i] := by simp [rd, List.getElem?_eq_getElem hlt]
    have hwi : wrap64 ((i : Int) + 1) = ((i + 1 : Nat) : Int) := by unfold wrap64; omega
    rw [slices_Index_int_int.l0, if_pos (by omega), if_pos (by omega), if_pos (by omega), hrd, hdrop]
    by_cases h : x = l[i]
    · refine ⟨(i : Int), by rw [if_pos h], fun _ => ?_, fun _ => by omega⟩
      rw [List.contains_cons, h]
      simp
    · obtain ⟨r, h1, h2⟩ := ih k (i + 1) (by omega) (by omega)
      refine ⟨r, by rw [if_neg h, hwi, h1], ?_⟩
      rw [h2, List.contains_cons, show (x == l[i]) = false from beq_eq_false_iff_ne.2 h, Bool.false_or]
theorem contains_f (l : List Int) (x : Int) (hl : l.length < 9223372036854775807) (k : Nat) (hk : l.length + 1 ≤ k) : slices_Contains_int_int.f k l x = some (l.contains x) := by
  obtain ⟨r, h1, h2⟩ := index_loop l x hl l.length k 0 (by omega) (by omega)
  simp only [Int.natCast_zero, List.drop_zero] at h1 h2
  unfold slices_Contains_int_int.f slices_Index_int_int.f
  rw [h1]
  simp only [Option.bind_some]
  congr 1
  rw [Bool.eq_iff_iff, decide_eq_true_eq, ← h2]
def outH : Option Bool → Bool × Int
  | some x => (x, 0)
  | none => (false, 31)
theorem condL_len (l : List UInt8) (x : List Int × Bool) (h : condL l = some x) : x.1.length ≤ l.length + 1 := by
  unfold condL at h
  split at h
  · obtain rfl := Option.some.inj h; simp
  · obtain ⟨t, ht, rfl⟩ := Option.map_eq_some_iff.1 h
    have h1 := tagsL_len _ _ ht
    have h2 := spl_len l []
    simp only
    omega
theorem has_f (s : ByteArray) (tag : Int) (hs : s.size ≤ 1073741824) (k : Nat) (hk : s.size + 3 ≤ k) : cond_has.f k s tag = some (outH (hasL s.data.toList tag)) := by
  have hsz := size_eq s
  unfold cond_has.f hasL
  rw [list_f s hs k hk]
  obtain ⟨o, ho⟩ : ∃ o, outL (condL s.data.toList) = o := ⟨_, rfl⟩
  rw [ho]
  obtain ⟨t, b, e⟩ := o
  simp only [Option.bind_some]
  have hlen : t.length ≤ s.data.toList.length + 1 := by
    cases hc : condL s.data.toList with
    | none => rw [hc] at ho; obtain ⟨rfl, _, _⟩ := ho; simp
    | some x => rw [hc] at ho; obtain ⟨rfl, _, _⟩ := ho; exact condL_len _ _ hc
  have hr : outH ((condL s.data.toList).map fun x => decide (tag ≠ 0) && (x.2 || x.1.contains tag)) = (decide (tag ≠ 0) && (b || t.contains tag), e) := by
    cases hc : condL s.data.toList with
    | none => rw [hc] at ho; obtain ⟨rfl, rfl, rfl⟩ := ho; simp [outH]
    | some x => rw [hc] at ho; obtain ⟨rfl, rfl, rfl⟩ := ho; simp [outH]
  rw [hr]
  by_cases h : tag = 0
  · rw [if_pos h]; simp [h]
  · rw [if_neg h]
    cases b with
    | true => rw [if_pos rfl]; simp [h]
    | false => rw [if_neg (by simp), contains_f _ _ (by omega) _ (by omega)]; simp [h]
theorem holds_f (a b : ByteArray) (tag : Int) (ha : a.size ≤ 1073741824) (hb : b.size ≤ 1073741824) (k : Nat) (hk : a.size + b.size + 6 ≤ k) : cond_Holds.f k a b tag = some (outH (holdsL a.data.toList b.data.toList tag)) := by
  obtain ⟨k, rfl⟩ : ∃ k', k = k' + 1 := ⟨k - 1, by omega⟩
  have hj : ∀ x8 x10, cond_Holds.j0 k b tag x8 false x10 0 = some (if x10 = 0 then outH ((if b.data.toList = [] then some false else hasL b.data.toList tag).map fun y => x8 && !y) else (false, 31)) := by
    intro x8 x10
    obtain ⟨k, rfl⟩ : ∃ k', k = k' + 1 := ⟨k - 1, by omega⟩
    rw [cond_Holds.j0, Lib.toList_data]
    by_cases h : b.data.toList = []
    · rw [if_pos h, if_pos h]
      by_cases h2 : x10 = 0
      · rw [if_pos h2, if_pos rfl, if_pos h2]; cases x8 <;> rfl
      · rw [if_neg h2, if_neg h2]
    · rw [if_neg h, if_neg h, has_f b tag hb k (by omega)]
      simp only [Option.bind_some]
      by_cases h2 : x10 = 0
      · rw [if_pos h2, if_pos h2]
        cases hasL b.data.toList tag with
        | none => simp [outH]
        | some y => cases x8 <;> simp [outH]
      · rw [if_neg h2, if_neg h2]
  have hj' : ∀ x8 x10, cond_Holds.j0 (k + 1) b tag x8 false x10 0 = some (if x10 = 0 then outH ((if b.data.toList = [] then some false else hasL b.data.toList tag).map fun y => x8 && !y) else (false, 31)) := fun x8 x10 => cond_Holds.mono_l k _ _ _ _ _ _ _ (hj x8 x10)
  unfold cond_Holds.f holdsL
  rw [Lib.toList_data]
  by_cases h : a.data.toList = []
  · rw [if_pos h, if_pos h, hj']
    cases (if b.data.toList = [] then some false else hasL b.data.toList tag) with
    | none => rfl
    | some y => rfl
  · rw [if_neg h, if_neg h, has_f a tag ha (k + 1) (by omega)]
    simp only [Option.bind_some]
    rw [hj']
    cases hasL a.data.toList tag with
    | none => simp [outH]
    | some x =>
      cases (if b.data.toList = [] then some false else hasL b.data.toList tag) with
      | none => simp [outH]
      | some y => simp [outH]
theorem first_f (k : Nat) (hk : 20 ≤ k) : calepinlaw10_first.f k = some true := by
  unfold calepinlaw10_first.f
  rw [parse_f _ (by decide), holds_f _ _ _ (by decide) (by decide) k (by show 0 + 1 + 6 ≤ k; omega), holds_f _ _ _ (by decide) (by decide) k (by show 1 + 0 + 6 ≤ k; omega)]
  rw [show tagL (⟨#[34, 51, 34]⟩ : ByteArray).data.toList = 3 from by decide, show holdsL (⟨#[]⟩ : ByteArray).data.toList (⟨#[42]⟩ : ByteArray).data.toList 0 = some true from by decide, show holdsL (⟨#[120]⟩ : ByteArray).data.toList (⟨#[]⟩ : ByteArray).data.toList 1 = none from by decide]
  have t3 := tag_ok 3 (by omega) (by unfold most; omega)
  have t0 := tag_no 0 (by omega)
  rw [show ((3 : Nat) : Int) = 3 from rfl] at t3
  simp only [Option.bind_some]
  rw [if_pos (by rfl), if_pos (by decide), t3]
  simp only [Option.bind_some]
  rw [if_pos (by rw [Lib.toList_data]; show tagT 3 = _; unfold tagT; rw [decDigits_one (by omega)]; rfl), t0]
  simp only [Option.bind_some]
  rw [if_pos (by rw [Lib.toList_data]), if_pos (by rfl), if_pos (by rfl)]
  rfl
theorem holdsL_left (a : List UInt8) (t : Int) (h : a ≠ []) : holdsL a [] t = hasL a t := by rw [holdsL_none, if_neg h]
theorem holdsL_right (a : List UInt8) (t : Int) (h : a ≠ []) : holdsL [] a t = (hasL a t).map (!·) := by
  unfold holdsL
  rw [if_pos rfl, if_neg h]
  cases hasL a t <;> rfl
theorem holdsL_both (a : List UInt8) (t : Int) (h : a ≠ []) : holdsL a a t = (hasL a t).map fun _ => false := by
  unfold holdsL
  rw [if_neg h, if_neg h]
  cases hasL a t <;> simp
theorem CondTwins (a : ByteArray) (t : Int) (ha : a.size ≤ 1073741824) : ∃ k, calepinlaw10_CondTwins.f k a t = some true := by
  refine ⟨2 * a.size + 60 + 1, ?_⟩
  have hT : calepinlaw10_CondTwins.j0 (2 * a.size + 60 + 1) a t true = some true := by rw [calepinlaw10_CondTwins.j0, if_pos rfl]
  unfold calepinlaw10_CondTwins.f
  rw [first_f _ (by omega)]
  simp only [Option.bind_some]
  rw [if_pos trivial]
  by_cases h1 : t < 1
  · rw [if_pos h1, hT]
  · rw [if_neg h1, Lib.toList_data]
    by_cases h2 : a.data.toList = []
    · rw [show (a.data.toList == ([] : List UInt8)) = true from beq_iff_eq.2 h2, hT]
    · rw [show (a.data.toList == ([] : List UInt8)) = false from beq_eq_false_iff_ne.2 h2, calepinlaw10_CondTwins.j0, if_neg (by simp)]
      have e0 : (⟨#[]⟩ : ByteArray).size = 0 := rfl
      have el : (⟨#[]⟩ : ByteArray).data.toList = [] := rfl
      rw [holds_f a _ t ha (by rw [e0]; omega) _ (by rw [e0]; omega), holds_f _ a t (by rw [e0]; omega) ha _ (by rw [e0]; omega), holds_f a a t ha ha _ (by omega), holds_f a _ 0 ha (by rw [e0]; omega) _ (by rw [e0]; omega), holds_f _ a 0 (by rw [e0]; omega) ha _ (by rw [e0]; omega)]
      simp only [Option.bind_some]
      rw [holdsL_left _ _ h2, holdsL_right _ _ h2, holdsL_both _ _ h2, holdsL_left _ _ h2, holdsL_right _ _ h2]
      unfold hasL
      cases condL a.data.toList with
      | none => rfl
      | some x =>
        have ht : t ≠ 0 := by omega
        generalize hb : (x.2 || x.1.contains t) = b
        generalize (x.2 || x.1.contains 0) = b0
        simp only [Option.map_some, hb]
        cases b <;> simp [outH, ht]
end Go.Proofs.YtpedfpeokedelaaDoor.PureCondTwins
