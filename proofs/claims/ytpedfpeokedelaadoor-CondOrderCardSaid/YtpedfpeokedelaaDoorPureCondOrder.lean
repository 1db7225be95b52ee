/- CondOrder, the plain law. -/
import Derived.Test.YtpedfpeokedelaaDoorXCondOrderx3
import Derived.Test.YtpedfpeokedelaaDoorCl
namespace Go.Proofs.YtpedfpeokedelaaDoor.PureCondOrder
open Go.RowKit Go.Lib Go.Proofs.YtpedfpeokedelaaDoor.XCondOrder Go.Proofs.YtpedfpeokedelaaDoorW.PrintWords Go.Proofs.YtpedfpeokedelaaDoorW.PrintLast Go.Proofs.YtpedfpeokedelaaDoorW.PrintMore
set_option maxRecDepth 100000
set_option linter.unusedSimpArgs false
theorem bt_get (s : ByteArray) (i : Nat) (h : i < s.data.toList.length) : bt s (i : Int) = ((s.data.toList[i]'h).toNat : Int) := by
  have h2 : i < s.size := by rw [size_eq]; exact h
  unfold bt
  rw [dif_pos (by simpa using h2)]
  rfl
theorem bt_some (s : ByteArray) (i : Nat) (h : i < s.data.toList.length) (c : UInt8) : bt s (i : Int) = (c.toNat : Int) ↔ s.data.toList[i]? = some c := by
  rw [bt_get s i h, List.getElem?_eq_getElem h]
  constructor
  · intro e
    exact congrArg some (UInt8.toNat_inj.1 (by omega))
  · intro e
    rw [Option.some.inj e]
theorem num_f (s : ByteArray) (h : s.size ≤ 281474976710656) : char_Number.f s 4611686018427387904 = some (((numV s most).1 : Int), (numV s most).2) := by
  unfold char_Number.f
  rw [if_pos ⟨h, by omega, by omega⟩]
  rfl
theorem parse_f (s : ByteArray) (hs : s.size ≤ 281474976710656) : cond_Parse.f s = some ((tagL s.data.toList : Int), decide (0 < tagL s.data.toList)) := by
  have hsz := size_eq s
  unfold cond_Parse.f tagL
  by_cases h3 : (s.size : Int) < 3
  · rw [if_pos h3, if_neg (fun h => by omega)]; rfl
  · have hw : wrap64 ((s.size : Int) - 1) = ((s.size - 1 : Nat) : Int) := by unfold wrap64; omega
    have hb0 := bt_some s 0 (by omega) 34
    have hb1 := bt_some s (s.size - 1) (by omega) 34
    simp only [Int.natCast_zero] at hb0
    rw [if_neg h3, if_pos (by omega), hw]
    by_cases h0 : bt s 0 = 34
    · rw [if_pos h0, if_pos (by omega), if_pos (by omega)]
      by_cases h1 : bt s ((s.size - 1 : Nat) : Int) = 34
      · rw [if_pos h1, if_pos (by omega), if_pos (by omega), Int.toNat_natCast, num_f _ (by rw [ByteArray.size_extract]; omega), ext_mk, if_pos ⟨by omega, hb0.1 h0, by rw [← hsz]; exact hb1.1 h1⟩]
        rw [show s.size - 1 - 1 = s.data.toList.length - 2 by omega]
        simp only [Option.bind_some]
        rcases numV_o ⟨((s.data.toList.drop 1).take (s.data.toList.length - 2)).toArray⟩ most (by unfold most; omega) with ⟨n, hn, _, e⟩ | ⟨_, e⟩
        · rw [e]
          unfold most at hn
          have hwn : wrap64 (n : Int) = (n : Int) := by unfold wrap64; omega
          simp only [if_true, hwn]
          congr 2
          exact decide_eq_decide.2 (by omega)
        · rw [e]
          simp only [Bool.false_eq_true, if_false]
          rw [show wrap64 ((0 : Nat) : Int) = ((0 : Nat) : Int) from by unfold wrap64; omega]
          rfl
      · rw [if_neg h1, if_neg (fun h => h1 (hb1.2 (by rw [hsz]; exact h.2.2)))]; rfl
    · rw [if_neg h0, if_neg (fun h => h0 (hb0.2 h.2.1))]; rfl
theorem tag_no (n : Int) (h : ¬ (1 ≤ n ∧ n ≤ 4611686018427387904)) : cond_Tag.f n = some ⟨#[]⟩ := by
  unfold cond_Tag.f
  by_cases h1 : n < 1
  · rw [if_pos h1]
  · rw [if_neg h1, if_pos (by omega)]
theorem dec_f (n : Nat) (h : n < 18446744073709551616) : char_Decimal.f (n : Int) = some ⟨(decDigits n).toArray⟩ := by
  unfold char_Decimal.f
  rw [if_pos ⟨by omega, by omega⟩, Int.toNat_natCast]
theorem tag_ok (n : Nat) (h1 : 1 ≤ n) (h2 : n ≤ most) : cond_Tag.f (n : Int) = some ⟨(tagT n).toArray⟩ := by
  unfold most at h2
  have e1 : IntKind.u64.wrap (n : Int) = (n : Int) := by rw [IntKind.wrap_u64]; omega
  have l1 := dec_len n (by omega)
  unfold cond_Tag.f
  rw [if_neg (by omega), if_neg (by omega), e1, dec_f n (by omega)]
  simp only [Option.bind_some]
  rw [if_pos (by simp [ByteArray.size]; omega), if_pos (by simp [ByteArray.size]; omega)]
  congr 1
theorem trim_f (s : ByteArray) (h : s.size ≤ 281474976710656) : strings_Trim.f s (⟨#[32, 9]⟩ : ByteArray) = some ⟨(trimS s.data.toList blank).toArray⟩ := by
  unfold strings_Trim.f
  rw [if_pos ⟨h, rfl⟩]
  try rfl
theorem trim_size (l : List UInt8) : (trimS l blank).length ≤ l.length := by
  unfold trimS trimLeftS trimRightS
  have h1 := (List.dropWhile_sublist (blank.contains ·) (l := ((l.reverse.dropWhile (blank.contains ·)).reverse))).length_le
  have h2 := (List.dropWhile_sublist (blank.contains ·) (l := l.reverse)).length_le
  simp only [List.length_reverse] at h1 h2
  omega
def outL : Option (List Int × Bool) → List Int × Bool × Int
  | some x => (x.1, x.2, 0)
  | none => ([], false, 31)
def outT (acc : List Int) : Option (List Int) → List Int × Bool × Int
  | some t => (acc ++ t, false, 0)
  | none => ([], false, 31)
theorem list_loop (ps : List ByteArray) (hp : ∀ p ∈ ps, p.size ≤ 281474976710656) (hl : ps.length < 17592186044416) : ∀ (j k i : Nat) (acc : List Int), i + j = ps.length → j + 1 ≤ k → acc.length ≤ i →
    cond_List.l0 k acc ps (ps.length : Int) (i : Int) = some (outT acc (tagsL ((ps.drop i).map (·.data.toList)))) := by
  intro j
  induction j with
  | zero =>
    intro k i acc hi hk ha
    obtain ⟨k, rfl⟩ : ∃ k', k = k' + 1 := ⟨k - 1, by omega⟩
    rw [cond_List.l0, if_neg (by omega), List.drop_of_length_le (by omega)]
    simp [tagsL, outT]
  | succ j ih =>
    intro k i acc hi hk ha
    obtain ⟨k, rfl⟩ : ∃ k', k = k' + 1 := ⟨k - 1, by omega⟩
    have hlt : i < ps.length := by omega
    have hdrop := List.drop_eq_getElem_cons hlt
    obtain ⟨p, hpe⟩ : ∃ p, ps[i] = p := ⟨_, rfl⟩
    rw [hpe] at hdrop
    have hpm : p ∈ ps := by rw [← hpe]; exact List.getElem_mem hlt
    have hrd : rdOf ByteArray.empty ps (i : Int) = p := by
      rw [← hpe]
      simp [rdOf, List.getD_eq_getElem?_getD, List.getElem?_eq_getElem hlt]
    have hps := hp p hpm
    have hts := trim_size p.data.toList
    rw [← size_eq p] at hts
    have hwi : wrap64 ((i : Int) + 1) = ((i + 1 : Nat) : Int) := by unfold wrap64; omega
    rw [cond_List.l0, if_pos (by omega), if_pos (by omega), if_pos (by omega), hrd, trim_f p hps]
    simp only [Option.bind_some]
    rw [parse_f _ (by rw [size_eq, mk_toList]; omega), mk_toList, hdrop, List.map_cons, tagsL]
    simp only [Option.bind_some]
    by_cases h0 : tagL (trimS p.data.toList blank) = 0
    · rw [if_pos h0, h0, if_neg (by simp)]
      rfl
    · rw [if_neg h0, if_pos (by simpa using Nat.pos_of_ne_zero h0), if_pos (by omega), hwi, ih k (i + 1) _ (by omega) (by omega) (by simp; omega)]
      cases tagsL ((ps.drop (i + 1)).map (·.data.toList)) with
      | none => rfl
      | some t => simp [outT]
theorem list_f (s : ByteArray) (hs : s.size ≤ 1073741824) (k : Nat) (hk : s.size + 3 ≤ k) : cond_List.f k s = some (outL (condL s.data.toList)) := by
  have hsz := size_eq s
  unfold cond_List.f condL
  rw [trim_f s (by omega)]
  simp only [Option.bind_some]
  rw [Lib.toList_data, mk_toList]
  by_cases h : trimS s.data.toList blank = [42]
  · rw [if_pos h, if_pos h]; rfl
  · rw [if_neg h, if_neg h]
    have hsp : strings_Split.f s (⟨#[44]⟩ : ByteArray) = some (splitB ⟨#[44]⟩ 0 (countB s ⟨#[44]⟩) s) := by
      unfold strings_Split.f
      rw [if_pos ⟨by omega, rfl⟩]
    rw [hsp]
    simp only [Option.bind_some]
    obtain ⟨ps, hps⟩ : ∃ ps, splitB ⟨#[44]⟩ 0 (countB s ⟨#[44]⟩) s = ps := ⟨_, rfl⟩
    have hpe := pieces_eq s
    rw [hps] at hpe ⊢
    have hlen : ps.length ≤ s.data.toList.length + 1 := by
      have := spl_len s.data.toList []
      rw [← hpe, List.length_map] at this
      exact this
    have hpz : ∀ p ∈ ps, p.size ≤ 281474976710656 := by
      intro p hp
      have h1 : p.data.toList ∈ spl [] s.data.toList := by rw [← hpe]; exact List.mem_map_of_mem hp
      have := spl_mem_len _ _ _ h1
      rw [size_eq p]
      simp only [List.length_nil, Nat.zero_add] at this
      omega
    have := list_loop ps hpz (by omega) ps.length k 0 [] (by omega) (by omega) (by simp)
    simp only [Int.natCast_zero, List.drop_zero] at this
    rw [this, hpe]
    cases tagsL (spl [] s.data.toList) with
    | none => rfl
    | some t => simp [outT, outL]
theorem index_loop (l : List Int) (x : Int) (hl : l.length < 9223372036854775807) : ∀ (j k i : Nat), i + j = l.length → j + 1 ≤ k →
    ∃ r : Int, slices_Index_int_int.l0 k l x (l.length : Int) (i : Int) = some r ∧ (0 ≤ r ↔ (l.drop i).contains x = true) := by
  intro j
  induction j with
  | zero =>
    intro k i hi hk
    obtain ⟨k, rfl⟩ : ∃ k', k = k' + 1 := ⟨k - 1, by omega⟩
    refine ⟨-1, ?_, ?_⟩
    · rw [slices_Index_int_int.l0, if_neg (by omega)]
    · rw [List.drop_of_length_le (by omega)]; simp
  | succ j ih =>
    intro k i hi hk
    obtain ⟨k, rfl⟩ : ∃ k', k = k' + 1 := ⟨k - 1, by omega⟩
    have hlt : i < l.length := by omega
    have hdrop := List.drop_eq_getElem_cons hlt
    have hrd : rd l (i : Int) = l[i] := by simp [rd, List.getElem?_eq_getElem hlt]
    have hwi : wrap64 ((i : Int) + 1) = ((i + 1 : Nat) : Int) := by unfold wrap64; omega
    rw [slices_Index_int_int.l0, if_pos (by omega), if_pos (by omega), if_pos (by omega), hrd, hdrop]
    by_cases h : x = l[i]
    · refine ⟨(i : Int), by rw [if_pos h], fun _ => ?_, fun _ => by omega⟩
      rw [List.contains_cons, h]
      simp
    · obtain ⟨r, h1, h2⟩ := ih k (i + 1) (by omega) (by omega)
      refine ⟨r, by rw [if_neg h, hwi, h1], ?_⟩
      rw [h2, List.contains_cons, show (x == l[i]) = false from beq_eq_false_iff_ne.2 h, Bool.false_or]
theorem contains_f (l : List Int) (x : Int) (hl : l.length < 9223372036854775807) (k : Nat) (hk : l.length + 1 ≤ k) : slices_Contains_int_int.f k l x = some (l.contains x) := by
  obtain ⟨r, h1, h2⟩ := index_loop l x hl l.length k 0 (by omega) (by omega)
  simp only [Int.natCast_zero, List.drop_zero] at h1 h2
  unfold slices_Contains_int_int.f slices_Index_int_int.f
  rw [h1]
  simp only [Option.bind_some]
  congr 1
  rw [Bool.eq_iff_iff, decide_eq_true_eq, ← h2]
def outH : Option Bool → Bool × Int
  | some x => (x, 0)
  | none => (false, 31)
theorem condL_len (l : List UInt8) (x : List Int × Bool) (h : condL l = some x) : x.1.length ≤ l.length + 1 := by
  unfold condL at h
  split at h
  · obtain rfl := Option.some.inj h; simp
  · obtain ⟨t, ht, rfl⟩ := Option.map_eq_some_iff.1 h
    have h1 := tagsL_len _ _ ht
    have h2 := spl_len l []
    simp only
    omega
theorem has_f (s : ByteArray) (tag : Int) (hs : s.size ≤ 1073741824) (k : Nat) (hk : s.size + 3 ≤ k) : cond_has.f k s tag = some (outH (hasL s.data.toList tag)) := by
  have hsz := size_eq s
  unfold cond_has.f hasL
  rw [list_f s hs k hk]
  obtain ⟨o, ho⟩ : ∃ o, outL (condL s.data.toList) = o := ⟨_, rfl⟩
  rw [ho]
  obtain ⟨t, b, e⟩ := o
  simp only [Option.bind_some]
  have hlen : t.length ≤ s.data.toList.length + 1 := by
    cases hc : condL s.data.toList with
    | none => rw [hc] at ho; obtain ⟨rfl, _, _⟩ := ho; simp
    | some x => rw [hc] at ho; obtain ⟨rfl, _, _⟩ := ho; exact condL_len _ _ hc
  have hr : outH ((condL s.data.toList).map fun x => decide (tag ≠ 0) && (x.2 || x.1.contains tag)) = (decide (tag ≠ 0) && (b || t.contains tag), e) := by
    cases hc : condL s.data.toList with
    | none => rw [hc] at ho; obtain ⟨rfl, rfl, rfl⟩ := ho; simp [outH]
    | some x => rw [hc] at ho; obtain ⟨rfl, rfl, rfl⟩ := ho; simp [outH]
  rw [hr]
  by_cases h : tag = 0
  · rw [if_pos h]; simp [h]
  · rw [if_neg h]
    cases b with
    | true => rw [if_pos rfl]; simp [h]
    | false => rw [if_neg (by simp), contains_f _ _ (by omega) _ (by omega)]; simp [h]
theorem holds_f (a b : ByteArray) (tag : Int) (ha : a.size ≤ 1073741824) (hb : b.size ≤ 1073741824) (k : Nat) (hk : a.size + b.size + 6 ≤ k) : cond_Holds.f k a b tag = some (outH (holdsL a.data.toList b.data.toList tag)) := by
  obtain ⟨k, rfl⟩ : ∃ k', k = k' + 1 := ⟨k - 1, by omega⟩
  have hj : ∀ x8 x10, cond_Holds.j0 k b tag x8 false x10 0 = some (if x10 = 0 then outH ((if b.data.toList = [] then some false else hasL b.data.toList tag).map fun y => x8 && !y) else (false, 31)) := by
    intro x8 x10
    obtain ⟨k, rfl⟩ : ∃ k', k = k' + 1 := ⟨k - 1, by omega⟩
    rw [cond_Holds.j0, Lib.toList_data]
    by_cases h : b.data.toList = []
    · rw [if_pos h, if_pos h]
      by_cases h2 : x10 = 0
      · rw [if_pos h2, if_pos rfl, if_pos h2]; cases x8 <;> rfl
      · rw [if_neg h2, if_neg h2]
    · rw [if_neg h, if_neg h, has_f b tag hb k (by omega)]
      simp only [Option.bind_some]
      by_cases h2 : x10 = 0
      · rw [if_pos h2, if_pos h2]
        cases hasL b.data.toList tag with
        | none => simp [outH]
        | some y => cases x8 <;> simp [outH]
      · rw [if_neg h2, if_neg h2]
  have hj' : ∀ x8 x10, cond_Holds.j0 (k + 1) b tag x8 false x10 0 = some (if x10 = 0 then outH ((if b.data.toList = [] then some false else hasL b.data.toList tag).map fun y => x8 && !y) else (false, 31)) := fun x8 x10 => cond_Holds.mono_l k _ _ _ _ _ _ _ (hj x8 x10)
  unfold cond_Holds.f holdsL
  rw [Lib.toList_data]
  by_cases h : a.data.toList = []
  · rw [if_pos h, if_pos h, hj']
    cases (if b.data.toList = [] then some false else hasL b.data.toList tag) with
    | none => rfl
    | some y => rfl
  · rw [if_neg h, if_neg h, has_f a tag ha (k + 1) (by omega)]
    simp only [Option.bind_some]
    rw [hj']
    cases hasL a.data.toList tag with
    | none => simp [outH]
    | some x =>
      cases (if b.data.toList = [] then some false else hasL b.data.toList tag) with
      | none => simp [outH]
      | some y => simp [outH]
theorem first_f (k : Nat) (hk : 20 ≤ k) : calepinlaw10_first.f k = some true := by
  unfold calepinlaw10_first.f
  rw [parse_f _ (by decide), holds_f _ _ _ (by decide) (by decide) k (by show 0 + 1 + 6 ≤ k; omega), holds_f _ _ _ (by decide) (by decide) k (by show 1 + 0 + 6 ≤ k; omega)]
  rw [show tagL (⟨#[34, 51, 34]⟩ : ByteArray).data.toList = 3 from by decide, show holdsL (⟨#[]⟩ : ByteArray).data.toList (⟨#[42]⟩ : ByteArray).data.toList 0 = some true from by decide, show holdsL (⟨#[120]⟩ : ByteArray).data.toList (⟨#[]⟩ : ByteArray).data.toList 1 = none from by decide]
  have t3 := tag_ok 3 (by omega) (by unfold most; omega)
  have t0 := tag_no 0 (by omega)
  rw [show ((3 : Nat) : Int) = 3 from rfl] at t3
  simp only [Option.bind_some]
  rw [if_pos (by rfl), if_pos (by decide), t3]
  simp only [Option.bind_some]
  rw [if_pos (by rw [Lib.toList_data]; show tagT 3 = _; unfold tagT; rw [decDigits_one (by omega)]; rfl), t0]
  simp only [Option.bind_some]
  rw [if_pos (by rw [Lib.toList_data]), if_pos (by rfl), if_pos (by rfl)]
  rfl
theorem app_mk (a b : List UInt8) : (⟨a.toArray⟩ : ByteArray) ++ (⟨b.toArray⟩ : ByteArray) = ⟨(a ++ b).toArray⟩ := by
  apply ByteArray.ext
  apply Array.toList_inj.1
  simp
theorem mk_size (a : List UInt8) : (⟨a.toArray⟩ : ByteArray).size = a.length := by rw [size_eq, mk_toList]
theorem tagT_len (n : Nat) (h : n ≤ most) : (tagT n).length ≤ 22 := by
  have := dec_len n (by unfold most at h; omega)
  simp [tagT]
  omega
theorem order_fin (t : Int) (A B : List UInt8) (has : Bool) (n : Int) (k : Nat) (hk : 12000 ≤ k) (hA : A.length ≤ 5000) (hB : B.length ≤ 5000) (h : n = 0 ∨ ∃ ts, Tags ts A B ∧ has = ts.contains t) :
    calepinlaw10_CondOrder.j3 k t ⟨A.toArray⟩ ⟨B.toArray⟩ has n = some true := by
  obtain ⟨k, rfl⟩ : ∃ k', k = k' + 2 := ⟨k - 2, by omega⟩
  have hT : calepinlaw10_CondOrder.j4 (k + 1) t ⟨A.toArray⟩ ⟨B.toArray⟩ has true = some true := by rw [calepinlaw10_CondOrder.j4, if_pos rfl]
  rw [calepinlaw10_CondOrder.j3]
  by_cases h0 : n = 0
  · rw [if_pos h0, hT]
  · rw [if_neg h0]
    rcases h with h | ⟨ts, T, hh⟩
    · exact absurd h h0
    · by_cases h1 : t < 1
      · rw [decide_eq_true h1, hT]
      · have ht : t ≠ 0 := by omega
        have zA := mk_size A
        have zB := mk_size B
        have z0 : (⟨#[]⟩ : ByteArray).size = 0 := rfl
        have neA : A ≠ [] := fun e => by have := T.ha; rw [e] at this; cases this
        have neB : B ≠ [] := fun e => by have := T.hb; rw [e] at this; cases this
        rw [decide_eq_false h1, calepinlaw10_CondOrder.j4, if_neg (by simp), holds_f _ _ t (by omega) (by omega) k (by omega), holds_f _ _ t (by omega) (by omega) k (by omega), holds_f _ _ t (by omega) (by omega) k (by omega)]
        simp only [Option.bind_some]
        have e1 : holdsL A [] t = some (ts.contains t) := by rw [holdsL_none, if_neg neA]; exact (T.has t ht).1
        have e2 : holdsL B [] t = some (ts.contains t) := by rw [holdsL_none, if_neg neB]; exact (T.has t ht).2
        have e3 : holdsL [] B t = some (!(ts.contains t)) := by
          unfold holdsL
          rw [if_pos rfl, if_neg neB, (T.has t ht).2]
          rfl
        rw [e1, e2, e3, hh]
        simp [outH]
theorem order_j2 (t : Int) (A B : List UInt8) (has : Bool) (n m : Nat) (l : List Int) (k : Nat) (h1 : 1 ≤ m) (h : m ≤ most) (hA : A.length ≤ 5000) (hB : B.length ≤ 5000) (hn : n ≤ 20) :
    calepinlaw10_CondOrder.j2 (k + 1) t ⟨A.toArray⟩ ⟨B.toArray⟩ has (n : Int) (m : Int) l (l.length : Int) (n : Int) =
      if 0 < n then calepinlaw10_CondOrder.l0 k t ⟨(A ++ 44 :: tagT m).toArray⟩ ⟨(tagT m ++ 44 :: (tagT m ++ [9]) ++ 44 :: 32 :: B).toArray⟩ has ((n + 1 : Nat) : Int) l (l.length : Int) ((n + 1 : Nat) : Int)
      else calepinlaw10_CondOrder.l0 k t ⟨(A ++ tagT m).toArray⟩ ⟨((tagT m ++ 44 :: tagT m) ++ B).toArray⟩ has ((n + 1 : Nat) : Int) l (l.length : Int) ((n + 1 : Nat) : Int) := by
  have hw : wrap64 ((n : Int) + 1) = ((n + 1 : Nat) : Int) := by unfold wrap64; omega
  have lT := tagT_len m h
  have c44 : (⟨#[44]⟩ : ByteArray) = ⟨([44] : List UInt8).toArray⟩ := rfl
  have c9 : (⟨#[9, 44, 32]⟩ : ByteArray) = ⟨([9, 44, 32] : List UInt8).toArray⟩ := rfl
  rw [calepinlaw10_CondOrder.j2, tag_ok m h1 h, hw, c44, c9]
  simp only [Option.bind_some, app_mk, mk_size]
  by_cases h0 : 0 < n
  · rw [if_pos (by omega), if_pos h0]
    simp only [List.length_append, List.length_cons, List.length_nil]
    rw [if_pos (by omega), if_pos (by omega), if_pos (by omega), if_pos (by omega), if_pos (by omega), if_pos (by omega)]
    congr 3 <;> simp
  · rw [if_neg (by omega), if_neg h0]
    simp only [List.length_append, List.length_cons, List.length_nil]
    rw [if_pos (by omega), if_pos (by omega), if_pos (by omega), if_pos (by omega)]
    congr 3 <;> simp
theorem order_loop (t : Int) (l : List Int) (hl : l.length < 4611686018427387904) : ∀ (d n k : Nat) (ts : List Int) (A B : List UInt8) (has : Bool), n + d = 20 → A.length ≤ 30 * n → B.length ≤ 60 * n → 3 * d + 12010 ≤ k →
    ((n = 0 ∧ A = [] ∧ B = [] ∧ has = false ∧ ts = []) ∨ (0 < n ∧ Tags ts A B ∧ has = ts.contains t)) →
    calepinlaw10_CondOrder.l0 k t ⟨A.toArray⟩ ⟨B.toArray⟩ has (n : Int) l (l.length : Int) (n : Int) = some true := by
  intro d
  induction d with
  | zero =>
    intro n k ts A B has hn hA hB hk hI
    obtain ⟨k, rfl⟩ : ∃ k', k = k' + 2 := ⟨k - 2, by omega⟩
    have hF : ∀ k, 12000 ≤ k → calepinlaw10_CondOrder.j3 k t ⟨A.toArray⟩ ⟨B.toArray⟩ has (n : Int) = some true := fun k hk => order_fin t A B has n k hk (by omega) (by omega) (by
      rcases hI with h | h
      · omega
      · exact .inr ⟨ts, h.2⟩)
    rw [calepinlaw10_CondOrder.l0]
    by_cases h : (n : Int) < (l.length : Int)
    · rw [if_pos h, if_pos (by omega), if_pos (by omega), if_pos (by omega), calepinlaw10_CondOrder.j1, if_pos rfl, hF k (by omega)]
    · rw [if_neg h, hF _ (by omega)]
  | succ d ih =>
    intro n k ts A B has hn hA hB hk hI
    obtain ⟨k, rfl⟩ : ∃ k', k = k' + 3 := ⟨k - 3, by omega⟩
    have hF : ∀ k, 12000 ≤ k → calepinlaw10_CondOrder.j3 k t ⟨A.toArray⟩ ⟨B.toArray⟩ has (n : Int) = some true := fun k hk => order_fin t A B has n k hk (by omega) (by omega) (by
      rcases hI with h | h
      · exact .inl (by omega)
      · exact .inr ⟨ts, h.2⟩)
    have hS : ∀ m, calepinlaw10_CondOrder.j1 (k + 2) t ⟨A.toArray⟩ ⟨B.toArray⟩ has (n : Int) m l (l.length : Int) (n : Int) true = some true := fun m => by rw [calepinlaw10_CondOrder.j1, if_pos rfl, hF _ (by omega)]
    rw [calepinlaw10_CondOrder.l0]
    by_cases h : (n : Int) < (l.length : Int)
    · rw [if_pos h, if_pos (by omega), if_pos (by omega), if_neg (by omega)]
      by_cases h1 : rd l (n : Int) < 1
      · rw [if_pos h1, hS]
      · rw [if_neg h1]
        by_cases h2 : rd l (n : Int) > 4611686018427387904
        · rw [decide_eq_true h2, hS]
        · rw [decide_eq_false h2, calepinlaw10_CondOrder.j1, if_neg (by simp)]
          obtain ⟨m, hm⟩ : ∃ m : Nat, rd l (n : Int) = m := ⟨(rd l (n : Int)).toNat, by omega⟩
          rw [hm] at h1 h2 ⊢
          have m1 : 1 ≤ m := by omega
          have m2 : m ≤ most := by unfold most; omega
          have lT := tagT_len m m2
          obtain ⟨has', hh'⟩ : ∃ has', has' = (has || ((m : Int) == t)) := ⟨_, rfl⟩
          have hsel : (if has = true then calepinlaw10_CondOrder.j2 (k + 1) t ⟨A.toArray⟩ ⟨B.toArray⟩ true (n : Int) (m : Int) l (l.length : Int) (n : Int) else calepinlaw10_CondOrder.j2 (k + 1) t ⟨A.toArray⟩ ⟨B.toArray⟩ ((m : Int) == t) (n : Int) (m : Int) l (l.length : Int) (n : Int)) = calepinlaw10_CondOrder.j2 (k + 1) t ⟨A.toArray⟩ ⟨B.toArray⟩ has' (n : Int) (m : Int) l (l.length : Int) (n : Int) := by
            rw [hh']
            cases has <;> simp
          rw [hsel, order_j2 t A B has' n m l k m1 m2 (by omega) (by omega) (by omega)]
          rcases hI with ⟨rfl, rfl, rfl, rfl, rfl⟩ | ⟨h0, T, hh⟩
          · rw [if_neg (by omega)]
            refine ih 1 k [(m : Int)] _ _ has' (by omega) (by simp; omega) (by simp; omega) (by omega) (.inr ⟨by omega, by simpa using Tags.one m m1 m2, ?_⟩)
            rw [hh']
            simp only [Bool.false_or, List.contains_cons, List.contains_nil, Bool.or_false]
            rw [Bool.eq_iff_iff, beq_iff_eq, beq_iff_eq]
            exact eq_comm
          · rw [if_pos h0]
            refine ih (n + 1) k (ts ++ [(m : Int)]) _ _ has' (by omega) (by simp; omega) (by simp; omega) (by omega) (.inr ⟨by omega, T.more m m1 m2, ?_⟩)
            rw [hh', hh, Bool.eq_iff_iff]
            simp only [Bool.or_eq_true, beq_iff_eq, List.contains_iff_mem, List.mem_append, List.mem_singleton]
            exact or_congr Iff.rfl eq_comm
    · rw [if_neg h, hF _ (by omega)]
theorem CondOrder (l : List Int) (t : Int) (hl : l.length < 4611686018427387904) : calepinlaw10_CondOrder.f 20000 l t = some true := by
  unfold calepinlaw10_CondOrder.f
  rw [first_f _ (by omega)]
  simp only [Option.bind_some]
  rw [if_pos trivial]
  exact order_loop t l hl 20 0 20000 [] [] [] false (by omega) (by simp) (by simp) (by omega) (.inl ⟨rfl, rfl, rfl, rfl, rfl⟩)
theorem CondOrderP : calepinlaw10_CondOrder.Pure := fun l t h1 h2 _ _ => ⟨20000, CondOrder l t (by omega)⟩
end Go.Proofs.YtpedfpeokedelaaDoor.PureCondOrder
