/- CondHolds, the plain law. -/
import Derived.Test.YtpedfpeokedelaaDoorXCondHoldsx4
import Derived.Test.YtpedfpeokedelaaDoorCl
namespace Go.Proofs.YtpedfpeokedelaaDoor.PureCondHolds
open Go.RowKit Go.Lib Go.Proofs.YtpedfpeokedelaaDoor.XCondHolds Go.Proofs.YtpedfpeokedelaaDoorW.PrintWords Go.Proofs.YtpedfpeokedelaaDoorW.PrintLast Go.Proofs.YtpedfpeokedelaaDoorW.PrintMore
set_option maxRecDepth 100000
set_option linter.unusedSimpArgs false
theorem bt_get (s : ByteArray) (i : Nat) (h : i < s.data.toList.length) : bt s (i : Int) = ((s.data.toList[i]'h).toNat : Int) := by
  have h2 : i < s.size := by rw [size_eq]; exact h
  unfold bt
  rw [dif_pos (by simpa using h2)]
  rfl
theorem bt_some (s : ByteArray) (i : Nat) (h : i < s.data.toList.length) (c : UInt8) : bt s (i : Int) = (c.toNat : Int) ↔ s.data.toList[i]? = some c := by
  rw [bt_get s i h, List.getElem?_eq_getElem h]
  constructor
  · intro e
    exact congrArg some (UInt8.toNat_inj.1 (by omega))
  · intro e
    rw [Option.some.inj e]
theorem num_f (s : ByteArray) (h : s.size ≤ 281474976710656) : char_Number.f s 4611686018427387904 = some (((numV s most).1 : Int), (numV s most).2) := by
  unfold char_Number.f
  rw [if_pos ⟨h, by omega, by omega⟩]
  rfl
theorem parse_f (s : ByteArray) (hs : s.size ≤ 281474976710656) : cond_Parse.f s = some ((tagL s.data.toList : Int), decide (0 < tagL s.data.toList)) := by
  have hsz := size_eq s
  unfold cond_Parse.f tagL
  by_cases h3 : (s.size : Int) < 3
  · rw [if_pos h3, if_neg (fun h => by omega)]; rfl
  · have hw : wrap64 ((s.size : Int) - 1) = ((s.size - 1 : Nat) : Int) := by unfold wrap64; omega
    have hb0 := bt_some s 0 (by omega) 34
    have hb1 := bt_some s (s.size - 1) (by omega) 34
    simp only [Int.natCast_zero] at hb0
    rw [if_neg h3, if_pos (by omega), hw]
    by_cases h0 : bt s 0 = 34
    · rw [if_pos h0, if_pos (by omega), if_pos (by omega)]
      by_cases h1 : bt s ((s.size - 1 : Nat) : Int) = 34
      · rw [if_pos h1, if_pos (by omega), if_pos (by omega), Int.toNat_natCast, num_f _ (by rw [ByteArray.size_extract]; omega), ext_mk, if_pos ⟨by omega, hb0.1 h0, by rw [← hsz]; exact hb1.1 h1⟩]
        rw [show s.size - 1 - 1 = s.data.toList.length - 2 by omega]
        simp only [Option.bind_some]
        rcases numV_o ⟨((s.data.toList.drop 1).take (s.data.toList.length - 2)).toArray⟩ most (by unfold most; omega) with ⟨n, hn, _, e⟩ | ⟨_, e⟩
        · rw [e]
          unfold most at hn
          have hwn : wrap64 (n : Int) = (n : Int) := by unfold wrap64; omega
          simp only [if_true, hwn]
          congr 2
          exact decide_eq_decide.2 (by omega)
        · rw [e]
          simp only [Bool.false_eq_true, if_false]
          rw [show wrap64 ((0 : Nat) : Int) = ((0 : Nat) : Int) from by unfold wrap64; omega]
          rfl
      · rw [if_neg h1, if_neg (fun h => h1 (hb1.2 (by rw [hsz]; exact h.2.2)))]; rfl
    · rw [if_neg h0, if_neg (fun h => h0 (hb0.2 h.2.1))]; rfl
theorem tag_no (n : Int) (h : ¬ (1 ≤ n ∧ n ≤ 4611686018427387904)) : cond_Tag.f n = some ⟨#[]⟩ := by
  unfold cond_Tag.f
  by_cases h1 : n < 1
  · rw [if_pos h1]
  · rw [if_neg h1, if_pos (by omega)]
theorem dec_f (n : Nat) (h : n < 18446744073709551616) : char_Decimal.f (n : Int) = some ⟨(decDigits n).toArray⟩ := by
  unfold char_Decimal.f
  rw [if_pos ⟨by omega, by omega⟩, Int.toNat_natCast]
theorem tag_ok (n : Nat) (h1 : 1 ≤ n) (h2 : n ≤ most) : cond_Tag.f (n : Int) = some ⟨(tagT n).toArray⟩ := by
  unfold most at h2
  have e1 : IntKind.u64.wrap (n : Int) = (n : Int) := by rw [IntKind.wrap_u64]; omega
  have l1 := dec_len n (by omega)
  unfold cond_Tag.f
  rw [if_neg (by omega), if_neg (by omega), e1, dec_f n (by omega)]
  simp only [Option.bind_some]
  rw [if_pos (by simp [ByteArray.size]; omega), if_pos (by simp [ByteArray.size]; omega)]
  congr 1
theorem trim_f (s : ByteArray) (h : s.size ≤ 281474976710656) : strings_Trim.f s (⟨#[32, 9]⟩ : ByteArray) = some ⟨(trimS s.data.toList blank).toArray⟩ := by
  unfold strings_Trim.f
  rw [if_pos ⟨h, rfl⟩]
  try rfl
theorem trim_size (l : List UInt8) : (trimS l blank).length ≤ l.length := by
  unfold trimS trimLeftS trimRightS
  have h1 := (List.dropWhile_sublist (blank.contains ·) (l := ((l.reverse.dropWhile (blank.contains ·)).reverse))).length_le
  have h2 := (List.dropWhile_sublist (blank.contains ·) (l := l.reverse)).length_le
  simp only [List.length_reverse] at h1 h2
  omega
def outL : Option (List Int × Bool) → List Int × Bool × Int
  | some x => (x.1, x.2, 0)
  | none => ([], false, 31)
def outT (acc : List Int) : Option (List Int) → List Int × Bool × Int
  | some t => (acc ++ t, false, 0)
  | none => ([], false, 31)
theorem list_loop (ps : List ByteArray) (hp : ∀ p ∈ ps, p.size ≤ 281474976710656) (hl : ps.length < 17592186044416) : ∀ (j k i : Nat) (acc : List Int), i + j = ps.length → j + 1 ≤ k → acc.length ≤ i →
    cond_List.l0 k acc ps (ps.length : Int) (i : Int) = some (outT acc (tagsL ((ps.drop i).map (·.data.toList)))) := by
  intro j
  induction j with
  | zero =>
    intro k i acc hi hk ha
    obtain ⟨k, rfl⟩ : ∃ k', k = k' + 1 := ⟨k - 1, by omega⟩
    rw [cond_List.l0, if_neg (by omega), List.drop_of_length_le (by omega)]
    simp [tagsL, outT]
  | succ j ih =>
    intro k i acc hi hk ha
    obtain ⟨k, rfl⟩ : ∃ k', k = k' + 1 := ⟨k - 1, by omega⟩
    have hlt : i < ps.length := by omega
    have hdrop := List.drop_eq_getElem_cons hlt
    obtain ⟨p, hpe⟩ : ∃ p, ps[i] = p := ⟨_, rfl⟩
    rw [hpe] at hdrop
    have hpm : p ∈ ps := by rw [← hpe]; exact List.getElem_mem hlt
    have hrd : rdOf ByteArray.empty ps (i : Int) = p := by
      rw [← hpe]
      simp [rdOf, List.getD_eq_getElem?_getD, List.getElem?_eq_getElem hlt]
    have hps := hp p hpm
    have hts := trim_size p.data.toList
    rw [← size_eq p] at hts
    have hwi : wrap64 ((i : Int) + 1) = ((i + 1 : Nat) : Int) := by unfold wrap64; omega
    rw [cond_List.l0, if_pos (by omega), if_pos (by omega), if_pos (by omega), hrd, trim_f p hps]
    simp only [Option.bind_some]
    rw [parse_f _ (by rw [size_eq, mk_toList]; omega), mk_toList, hdrop, List.map_cons, tagsL]
    simp only [Option.bind_some]
    by_cases h0 : tagL (trimS p.data.toList blank) = 0
    · rw [if_pos h0, h0, if_neg (by simp)]
      rfl
    · rw [if_neg h0, if_pos (by simpa using Nat.pos_of_ne_zero h0), if_pos (by omega), hwi, ih k (i + 1) _ (by omega) (by omega) (by simp; omega)]
      cases tagsL ((ps.drop (i + 1)).map (·.data.toList)) with
      | none => rfl
      | some t => simp [outT]
theorem list_f (s : ByteArray) (hs : s.size ≤ 1073741824) (k : Nat) (hk : s.size + 3 ≤ k) : cond_List.f k s = some (outL (condL s.data.toList)) := by
  have hsz := size_eq s
  unfold cond_List.f condL
  rw [trim_f s (by omega)]
  simp only [Option.bind_some]
  rw [Lib.toList_data, mk_toList]
  by_cases h : trimS s.data.toList blank = [42]
  · rw [if_pos h, if_pos h]; rfl
  · rw [if_neg h, if_neg h]
    have hsp : strings_Split.f s (⟨#[44]⟩ : ByteArray) = some (splitB ⟨#[44]⟩ 0 (countB s ⟨#[44]⟩) s) := by
      unfold strings_Split.f
      rw [if_pos ⟨by omega, rfl⟩]
    rw [hsp]
    simp only [Option.bind_some]
    obtain ⟨ps, hps⟩ : ∃ ps, splitB ⟨#[44]⟩ 0 (countB s ⟨#[44]⟩) s = ps := ⟨_, rfl⟩
    have hpe := pieces_eq s
    rw [hps] at hpe ⊢
    have hlen : ps.length ≤ s.data.toList.length + 1 := by
      have := spl_len s.data.toList []
      rw [← hpe, List.length_map] at this
      exact this
    have hpz : ∀ p ∈ ps, p.size ≤ 281474976710656 := by
      intro p hp
      have h1 : p.data.toList ∈ spl [] s.data.toList := by rw [← hpe]; exact List.mem_map_of_mem hp
      have := spl_mem_len _ _ _ h1
      rw [size_eq p]
      simp only [List.length_nil, Nat.zero_add] at this
      omega
    have := list_loop ps hpz (by omega) ps.length k 0 [] (by omega) (by omega) (by simp)
    simp only [Int.natCast_zero, List.drop_zero] at this
    rw [this, hpe]
    cases tagsL (spl [] s.data.toList) with
    | none => rfl
    | some t => simp [outT, outL]
theorem index_loop (l : List Int) (x : Int) (hl : l.length < 9223372036854775807) : ∀ (j k i : Nat), i + j = l.length → j + 1 ≤ k →
    ∃ r : Int, slices_Index_int_int.l0 k l x (l.length : Int) (i : Int) = some r ∧ (0 ≤ r ↔ (l.drop i).contains x = true) := by
  intro j
  induction j with
  | zero =>
    intro k i hi hk
    obtain ⟨k, rfl⟩ : ∃ k', k = k' + 1 := ⟨k - 1, by omega⟩
    refine ⟨-1, ?_, ?_⟩
    · rw [slices_Index_int_int.l0, if_neg (by omega)]
    · rw [List.drop_of_length_le (by omega)]; simp
  | succ j ih =>
    intro k i hi hk
    obtain ⟨k, rfl⟩ : ∃ k', k = k' + 1 := ⟨k - 1, by omega⟩
    have hlt : i < l.length := by omega
    have hdrop := List.drop_eq_getElem_cons hlt
    have hrd : rd l (i : Int) = l[i] := by simp [rd, List.getElem?_eq_getElem hlt]
    have hwi : wrap64 ((i : Int) + 1) = ((i + 1 : Nat) : Int) := by unfold wrap64; omega
    rw [slices_Index_int_int.l0, if_pos (by omega), if_pos (by omega), if_pos (by omega), hrd, hdrop]
    by_cases h : x = l[i]
    · refine ⟨(i : Int), by rw [if_pos h], fun _ => ?_, fun _ => by omega⟩
      rw [List.contains_cons, h]
      simp
    · obtain ⟨r, h1, h2⟩ := ih k (i + 1) (by omega) (by omega)
      refine ⟨r, by rw [if_neg h, hwi, h1], ?_⟩
      rw [h2, List.contains_cons, show (x == l[i]) = false from beq_eq_false_iff_ne.2 h, Bool.false_or]
theorem contains_f (l : List Int) (x : Int) (hl : l.length < 9223372036854775807) (k : Nat) (hk : l.length + 1 ≤ k) : slices_Contains_int_int.f k l x = some (l.contains x) := by
  obtain ⟨r, h1, h2⟩ := index_loop l x hl l.length k 0 (by omega) (by omega)
  simp only [Int.natCast_zero, List.drop_zero] at h1 h2
  unfold slices_Contains_int_int.f slices_Index_int_int.f
  rw [h1]
  simp only [Option.bind_some]
  congr 1
  rw [Bool.eq_iff_iff, decide_eq_true_eq, ← h2]
def outH : Option Bool → Bool × Int
  | some x => (x, 0)
  | none => (false, 31)
theorem condL_len (l : List UInt8) (x : List Int × Bool) (h : condL l = some x) : x.1.length ≤ l.length + 1 := by
  unfold condL at h
  split at h
  · obtain rfl := Option.some.inj h; simp
  · obtain ⟨t, ht, rfl⟩ := Option.map_eq_some_iff.1 h
    have h1 := tagsL_len _ _ ht
    have h2 := spl_len l []
    simp only
    omega
theorem has_f (s : ByteArray) (tag : Int) (hs : s.size ≤ 1073741824) (k : Nat) (hk : s.size + 3 ≤ k) : cond_has.f k s tag = some (outH (hasL s.data.toList tag)) := by
  have hsz := size_eq s
  unfold cond_has.f hasL
  rw [list_f s hs k hk]
  obtain ⟨o, ho⟩ : ∃ o, outL (condL s.data.toList) = o := ⟨_, rfl⟩
  rw [ho]
  obtain ⟨t, b, e⟩ := o
  simp only [Option.bind_some]
  have hlen : t.length ≤ s.data.toList.length + 1 := by
    cases hc : condL s.data.toList with
    | none => rw [hc] at ho; obtain ⟨rfl, _, _⟩ := ho; simp
    | some x => rw [hc] at ho; obtain ⟨rfl, _, _⟩ := ho; exact condL_len _ _ hc
  have hr : outH ((condL s.data.toList).map fun x => decide (tag ≠ 0) && (x.2 || x.1.contains tag)) = (decide (tag ≠ 0) && (b || t.contains tag), e) := by
    cases hc : condL s.data.toList with
    | none => rw [hc] at ho; obtain ⟨rfl, rfl, rfl⟩ := ho; simp [outH]
    | some x => rw [hc] at ho; obtain ⟨rfl, rfl, rfl⟩ := ho; simp [outH]
  rw [hr]
  by_cases h : tag = 0
  · rw [if_pos h]; simp [h]
  · rw [if_neg h]
    cases b with
    | true => rw [if_pos rfl]; simp [h]
    | false => rw [if_neg (by simp), contains_f _ _ (by omega) _ (by omega)]; simp [h]
theorem holds_f (a b : ByteArray) (tag : Int) (ha : a.size ≤ 1073741824) (hb : b.size ≤ 1073741824) (k : Nat) (hk : a.size + b.size + 6 ≤ k) : cond_Holds.f k a b tag = some (outH (holdsL a.data.toList b.data.toList tag)) := by
  obtain ⟨k, rfl⟩ : ∃ k', k = k' + 1 := ⟨k - 1, by omega⟩
  have hj : ∀ x8 x10, cond_Holds.j0 k b tag x8 false x10 0 = some (if x10 = 0 then outH ((if b.data.toList = [] then some false else hasL b.data.toList tag).map fun y => x8 && !y) else (false, 31)) := by
    intro x8 x10
    obtain ⟨k, rfl⟩ : ∃ k', k = k' + 1 := ⟨k - 1, by omega⟩
    rw [cond_Holds.j0, Lib.toList_data]
    by_cases h : b.data.toList = []
    · rw [if_pos h, if_pos h]
      by_cases h2 : x10 = 0
      · rw [if_pos h2, if_pos rfl, if_pos h2]; cases x8 <;> rfl
      · rw [if_neg h2, if_neg h2]
    · rw [if_neg h, if_neg h, has_f b tag hb k (by omega)]
      simp only [Option.bind_some]
      by_cases h2 : x10 = 0
      · rw [if_pos h2, if_pos h2]
        cases hasL b.data.toList tag with
        | none => simp [outH]
        | some y => cases x8 <;> simp [outH]
      · rw [if_neg h2, if_neg h2]
  have hj' : ∀ x8 x10, cond_Holds.j0 (k + 1) b tag x8 false x10 0 = some (if x10 = 0 then outH ((if b.data.toList = [] then some false else hasL b.data.toList tag).map fun y => x8 && !y) else (false, 31)) := fun x8 x10 => cond_Holds.mono_l k _ _ _ _ _ _ _ (hj x8 x10)
  unfold cond_Holds.f holdsL
  rw [Lib.toList_data]
  by_cases h : a.data.toList = []
  · rw [if_pos h, if_pos h, hj']
    cases (if b.data.toList = [] then some false else hasL b.data.toList tag) with
    | none => rfl
    | some y => rfl
  · rw [if_neg h, if_neg h, has_f a tag ha (k + 1) (by omega)]
    simp only [Option.bind_some]
    rw [hj']
    cases hasL a.data.toList tag with
    | none => simp [outH]
    | some x =>
      cases (if b.data.toList = [] then some false else hasL b.data.toList tag) with
      | none => simp [outH]
      | some y => simp [outH]
theorem first_f (k : Nat) (hk : 20 ≤ k) : calepinlaw10_first.f k = some true := by
  unfold calepinlaw10_first.f
  rw [parse_f _ (by decide), holds_f _ _ _ (by decide) (by decide) k (by show 0 + 1 + 6 ≤ k; omega), holds_f _ _ _ (by decide) (by decide) k (by show 1 + 0 + 6 ≤ k; omega)]
  rw [show tagL (⟨#[34, 51, 34]⟩ : ByteArray).data.toList = 3 from by decide, show holdsL (⟨#[]⟩ : ByteArray).data.toList (⟨#[42]⟩ : ByteArray).data.toList 0 = some true from by decide, show holdsL (⟨#[120]⟩ : ByteArray).data.toList (⟨#[]⟩ : ByteArray).data.toList 1 = none from by decide]
  have t3 := tag_ok 3 (by omega) (by unfold most; omega)
  have t0 := tag_no 0 (by omega)
  rw [show ((3 : Nat) : Int) = 3 from rfl] at t3
  simp only [Option.bind_some]
  rw [if_pos (by rfl), if_pos (by decide), t3]
  simp only [Option.bind_some]
  rw [if_pos (by rw [Lib.toList_data]; show tagT 3 = _; unfold tagT; rw [decDigits_one (by omega)]; rfl), t0]
  simp only [Option.bind_some]
  rw [if_pos (by rw [Lib.toList_data]), if_pos (by rfl), if_pos (by rfl)]
  rfl
/-- What the reference's loop answers from place i on. -/
theorem refNum_l (s : ByteArray) (m : Nat) (hm : m < 18446744073709551616) (hs : s.size ≤ 281474976710656) : ∀ (j k i n : Nat), i + j = s.data.toList.length → n ≤ m → 2 * j + 1 ≤ k →
    calepinref01_Number.l0 k s (m : Int) (n : Int) (i : Int) = some (if (∀ c ∈ s.data.toList.drop i, isDig c) ∧ valD n (s.data.toList.drop i) ≤ m then ((valD n (s.data.toList.drop i) : Nat) : Int) else 0, decide ((∀ c ∈ s.data.toList.drop i, isDig c) ∧ valD n (s.data.toList.drop i) ≤ m)) := by
  have hsz := size_eq s
  intro j
  induction j with
  | zero =>
    intro k i n hi hn hk
    obtain ⟨k, rfl⟩ : ∃ k', k = k' + 1 := ⟨k - 1, by omega⟩
    rw [calepinref01_Number.l0, if_neg (by omega), List.drop_of_length_le (by omega), valD_nil, if_pos ⟨fun c hc => (by cases hc), hn⟩, decide_eq_true ⟨fun c hc => (by cases hc), hn⟩]
  | succ j ih =>
    intro k i n hi hn hk
    obtain ⟨k, rfl⟩ : ∃ k', k = k' + 2 := ⟨k - 2, by omega⟩
    have hlt : i < s.data.toList.length := by omega
    have hdrop := List.drop_eq_getElem_cons hlt
    obtain ⟨c, hc⟩ : ∃ c, s.data.toList[i] = c := ⟨_, rfl⟩
    have hb : bt s (i : Int) = (c.toNat : Int) := by rw [bt_get s i hlt, hc]
    rw [hc] at hdrop
    have hc256 := c.toNat_lt
    rw [calepinref01_Number.l0, if_pos (by omega), if_pos (by omega), hb, hdrop]
    have hbad : ¬ isDig c → ¬ ((∀ x ∈ c :: s.data.toList.drop (i + 1), isDig x) ∧ valD n (c :: s.data.toList.drop (i + 1)) ≤ m) := fun h1 h2 => h1 (h2.1 c List.mem_cons_self)
    by_cases h1 : (c.toNat : Int) < 48
    · have hb2 := hbad (fun h => by unfold isDig at h; omega)
      rw [if_pos h1, calepinref01_Number.j2, if_pos rfl, if_neg hb2, decide_eq_false hb2]
    · rw [if_neg h1]
      by_cases h2 : (c.toNat : Int) > 57
      · have hb2 := hbad (fun h => by unfold isDig at h; omega)
        rw [decide_eq_true h2, calepinref01_Number.j2, if_pos rfl, if_neg hb2, decide_eq_false hb2]
      · have hd : isDig c := by unfold isDig; omega
        have hv := valD_ge (n * 10 + (c.toNat - 48)) (s.data.toList.drop (i + 1))
        have hp : 0 < 10 ^ (s.data.toList.drop (i + 1)).length := Nat.pow_pos (by decide)
        have hv' : n * 10 + (c.toNat - 48) ≤ valD (n * 10 + (c.toNat - 48)) (s.data.toList.drop (i + 1)) := Nat.le_trans (Nat.le_mul_of_pos_right _ hp) hv
        have hdg : ((c.toNat : Int) - 48) % 256 = ((c.toNat - 48 : Nat) : Int) := by omega
        have hq : IntKind.u64.wrap (Int.tdiv (m : Int) 10) = ((m / 10 : Nat) : Int) := by
          rw [IntKind.wrap_u64, Int.tdiv_eq_ediv_of_nonneg (by omega)]; omega
        rw [decide_eq_false h2, calepinref01_Number.j2, if_neg (by simp), if_pos (by omega), if_pos (by omega), hb, hdg, hq]
        have hover : m < n * 10 + (c.toNat - 48) → ¬ ((∀ x ∈ c :: s.data.toList.drop (i + 1), isDig x) ∧ valD n (c :: s.data.toList.drop (i + 1)) ≤ m) := fun h1 h2 => by
          rw [valD_cons] at h2
          omega
        by_cases g1 : (n : Int) > ((m / 10 : Nat) : Int)
        · have ho := hover (by omega)
          rw [if_pos g1, if_neg ho, decide_eq_false ho]
        · rw [if_neg g1]
          have hw10 : IntKind.u64.wrap (10 * (n : Int)) = ((n * 10 : Nat) : Int) := by rw [IntKind.wrap_u64]; omega
          have hmn : mn (m : Int) ((c.toNat - 48 : Nat) : Int) = ((min m (c.toNat - 48) : Nat) : Int) := by
            unfold mn; split <;> omega
          have hws : IntKind.u64.wrap ((m : Int) - ((min m (c.toNat - 48) : Nat) : Int)) = ((m - min m (c.toNat - 48) : Nat) : Int) := by rw [IntKind.wrap_u64]; omega
          rw [hw10, hmn, hws]
          by_cases g2 : ((n * 10 : Nat) : Int) > ((m - min m (c.toNat - 48) : Nat) : Int)
          · have ho := hover (by omega)
            rw [if_pos g2, if_neg ho, decide_eq_false ho]
          · rw [if_neg g2]
            by_cases g3 : ((c.toNat - 48 : Nat) : Int) > (m : Int)
            · have ho := hover (by omega)
              rw [if_pos g3, if_neg ho, decide_eq_false ho]
            · have hwn : IntKind.u64.wrap (((n * 10 : Nat) : Int) + ((c.toNat - 48 : Nat) : Int)) = ((n * 10 + (c.toNat - 48) : Nat) : Int) := by rw [IntKind.wrap_u64]; omega
              have hwi : wrap64 ((i : Int) + 1) = ((i + 1 : Nat) : Int) := by unfold wrap64; omega
              rw [if_neg g3, hwn, hwi, ih k (i + 1) (n * 10 + (c.toNat - 48)) (by omega) (by omega) (by omega)]
              have hiff : ((∀ x ∈ s.data.toList.drop (i + 1), isDig x) ∧ valD (n * 10 + (c.toNat - 48)) (s.data.toList.drop (i + 1)) ≤ m) ↔ ((∀ x ∈ c :: s.data.toList.drop (i + 1), isDig x) ∧ valD n (c :: s.data.toList.drop (i + 1)) ≤ m) := by
                rw [valD_cons]
                simp [hd]
              by_cases g4 : (∀ x ∈ s.data.toList.drop (i + 1), isDig x) ∧ valD (n * 10 + (c.toNat - 48)) (s.data.toList.drop (i + 1)) ≤ m
              · rw [if_pos g4, decide_eq_true g4, if_pos (hiff.1 g4), decide_eq_true (hiff.1 g4), valD_cons]
              · rw [if_neg g4, decide_eq_false g4, if_neg (fun h => g4 (hiff.2 h)), decide_eq_false (fun h => g4 (hiff.2 h))]
theorem refNum (s : ByteArray) (m : Nat) (hm : m < 18446744073709551616) (hs : s.size ≤ 281474976710656) (k : Nat) (hk : 2 * s.size + 3 ≤ k) :
    calepinref01_Number.f k s (m : Int) = some (((numV s m).1 : Int), (numV s m).2) := by
  have hsz := size_eq s
  have hn := numV_eq s m hm
  obtain ⟨k, rfl⟩ : ∃ k', k = k' + 1 := ⟨k - 1, by omega⟩
  have hl := refNum_l s m hm hs s.data.toList.length k 0 0 (by omega) (Nat.zero_le _) (by omega)
  simp only [List.drop_zero, Int.natCast_zero] at hl
  unfold calepinref01_Number.f
  by_cases h0 : (s.size : Int) = 0
  · rw [if_pos h0, calepinref01_Number.j0, if_pos rfl]
    have he : s.data.toList = [] := List.length_eq_zero_iff.1 (by omega)
    rcases hn with ⟨hc, _⟩ | ⟨_, hn⟩
    · exact absurd he hc.1
    · rw [hn]; rfl
  · rw [if_neg h0]
    have hne : s.data.toList ≠ [] := fun he => h0 (by rw [he, List.length_nil] at hsz; omega)
    by_cases h1 : (s.size : Int) > 1
    · rw [if_pos h1, if_pos (by omega)]
      have hl0 : 0 < s.data.toList.length := by omega
      have hb := bt_get s 0 hl0
      simp only [Int.natCast_zero] at hb
      rw [hb]
      have hhead : s.data.toList.head? = some (s.data.toList[0]'hl0) := by rw [List.head?_eq_getElem?, List.getElem?_eq_getElem hl0]
      obtain ⟨c, hc⟩ : ∃ c, s.data.toList[0]'hl0 = c := ⟨_, rfl⟩
      rw [hc] at hhead ⊢
      by_cases h2 : c = 48
      · subst h2
        rw [show (((48 : UInt8).toNat : Int) == 48) = true from rfl, calepinref01_Number.j0, if_pos rfl]
        rcases hn with ⟨hcn, _⟩ | ⟨_, hn⟩
        · exact absurd ⟨hhead, by omega⟩ hcn.2.2
        · rw [hn]; rfl
      · have h3 : ((c.toNat : Int) == 48) = false := beq_eq_false_iff_ne.2 fun h => h2 (UInt8.toNat_inj.1 (by show c.toNat = 48; omega))
        have hcan : Canon s.data.toList ↔ ∀ x ∈ s.data.toList, isDig x := ⟨fun h => h.2.1, fun h => ⟨hne, h, fun h4 => h2 (by have := hhead.symm.trans h4.1; exact Option.some.inj this)⟩⟩
        rw [h3, calepinref01_Number.j0, if_neg (by simp), hl]
        rcases hn with ⟨hcn, hv, hn⟩ | ⟨hcn, hn⟩
        · rw [hn, if_pos ⟨hcan.1 hcn, hv⟩, decide_eq_true ⟨hcan.1 hcn, hv⟩]
        · have : ¬ ((∀ x ∈ s.data.toList, isDig x) ∧ valD 0 s.data.toList ≤ m) := fun h => hcn ⟨hcan.2 h.1, h.2⟩
          rw [hn, if_neg this, decide_eq_false this]; rfl
    · rw [if_neg h1, calepinref01_Number.j0, if_neg (by simp), hl]
      have hcan : Canon s.data.toList ↔ ∀ x ∈ s.data.toList, isDig x := ⟨fun h => h.2.1, fun h => ⟨hne, h, fun h4 => by omega⟩⟩
      rcases hn with ⟨hcn, hv, hn⟩ | ⟨hcn, hn⟩
      · rw [hn, if_pos ⟨hcan.1 hcn, hv⟩, decide_eq_true ⟨hcan.1 hcn, hv⟩]
      · have : ¬ ((∀ x ∈ s.data.toList, isDig x) ∧ valD 0 s.data.toList ≤ m) := fun h => hcn ⟨hcan.2 h.1, h.2⟩
        rw [hn, if_neg this, decide_eq_false this]; rfl
theorem rparse_f (s : ByteArray) (hs : s.size ≤ 281474976710656) (k : Nat) (hk : 2 * s.size + 4 ≤ k) : calepinref10_Parse.f k s = some (tagL s.data.toList : Int) := by
  have hsz := size_eq s
  obtain ⟨k, rfl⟩ : ∃ k', k = k' + 1 := ⟨k - 1, by omega⟩
  have hT : ∀ m, calepinref10_Parse.j0 (k + 1) s m true = some 0 := fun m => by rw [calepinref10_Parse.j0, if_pos rfl]
  unfold calepinref10_Parse.f tagL
  by_cases h3 : (s.size : Int) < 3
  · rw [if_pos h3, if_neg (fun h => by omega), hT]; rfl
  · have hw : wrap64 ((s.size : Int) - 1) = ((s.size - 1 : Nat) : Int) := by unfold wrap64; omega
    have hb0 := bt_some s 0 (by omega) 34
    have hb1 := bt_some s (s.size - 1) (by omega) 34
    simp only [Int.natCast_zero] at hb0
    rw [if_neg h3, if_pos (by omega), hw]
    by_cases h0 : bt s 0 = 34
    · rw [if_pos h0, if_pos (by omega), if_pos (by omega)]
      by_cases h1 : bt s ((s.size - 1 : Nat) : Int) = 34
      · rw [h1, show ((34 : Int) != 34) = false from rfl, calepinref10_Parse.j0, if_neg (by simp), hw, if_pos (by omega), if_pos (by omega), Int.toNat_natCast, ext_mk, if_pos ⟨by omega, hb0.1 h0, by rw [← hsz]; exact hb1.1 h1⟩]
        rw [show s.size - 1 - 1 = s.data.toList.length - 2 by omega]
        obtain ⟨m, hm⟩ : ∃ m : ByteArray, (⟨((s.data.toList.drop 1).take (s.data.toList.length - 2)).toArray⟩ : ByteArray) = m := ⟨_, rfl⟩
        have hml : m.size ≤ s.size := by
          rw [← hm, size_eq, mk_toList]
          simp
          omega
        rw [hm]
        have n1 := refNum m most (by unfold most; omega) (by omega) k (by omega)
        rw [show ((most : Nat) : Int) = 4611686018427387904 from rfl] at n1
        rw [n1]
        simp only [Option.bind_some]
        rcases numV_o m most (by unfold most; omega) with ⟨n, hn, _, e⟩ | ⟨_, e⟩
        · rw [e]
          unfold most at hn
          have hwn : wrap64 (n : Int) = (n : Int) := by unfold wrap64; omega
          simp only [if_true, hwn]
        · rw [e]; rfl
      · rw [show (bt s ((s.size - 1 : Nat) : Int) != 34) = true from bne_iff_ne.2 h1, hT, if_neg (fun h => h1 (hb1.2 (by rw [hsz]; exact h.2.2)))]; rfl
    · rw [if_neg h0, hT, if_neg (fun h => h0 (hb0.2 h.2.1))]; rfl
theorem blank_bt (c : UInt8) : blank.contains c = true ↔ (c.toNat : Int) = 32 ∨ (c.toNat : Int) = 9 := by
  rw [blank_yes]
  constructor
  · rintro (rfl | rfl)
    · exact .inl rfl
    · exact .inr rfl
  · rintro (h | h)
    · exact .inl (UInt8.toNat_inj.1 (by show c.toNat = 32; omega))
    · exact .inr (UInt8.toNat_inj.1 (by show c.toNat = 9; omega))
theorem rtrim_l1 (s : ByteArray) (hs : s.size ≤ 281474976710656) (i : Nat) (hi : i < s.data.toList.length) (hc : blank.contains (s.data.toList[i]) = false) : ∀ (j k : Nat), i + j + 1 ≤ s.data.toList.length → j + 1 ≤ k →
    calepinref10_trim.l1 k s (i : Int) ((i + j + 1 : Nat) : Int) = some ⟨(trimS ((s.data.toList.drop i).take (j + 1)) blank).toArray⟩ := by
  have hsz := size_eq s
  intro j
  induction j with
  | zero =>
    intro k hj hk
    obtain ⟨k, rfl⟩ : ∃ k', k = k' + 1 := ⟨k - 1, by omega⟩
    have hw : wrap64 (((i + 0 + 1 : Nat) : Int) - 1) = ((i : Nat) : Int) := by unfold wrap64; omega
    have hb := bt_get s i hi
    have hn1 : ¬ bt s (i : Int) = 32 := fun h => by have := (blank_bt (s.data.toList[i])).2 (.inl (by omega)); rw [hc] at this; cases this
    have hn2 : ¬ bt s (i : Int) = 9 := fun h => by have := (blank_bt (s.data.toList[i])).2 (.inr (by omega)); rw [hc] at this; cases this
    have hd := List.drop_eq_getElem_cons hi
    rw [calepinref10_trim.l1, if_pos (by omega), hw, if_pos (by omega), if_pos (by omega), if_neg hn1, if_neg hn2, if_pos (by omega), if_pos (by omega), if_pos (by omega), ext_mk]
    simp only [Int.toNat_natCast, Nat.zero_add, Nat.add_zero, Nat.add_sub_cancel_left]
    rw [hd]
    simp only [List.take_succ_cons, List.take_zero]
    rw [trim_id (l := [s.data.toList[i]]) (fun c h => by simp at h; rw [← h]; exact hc) (fun c h => by simp at h; rw [← h]; exact hc)]
  | succ j ih =>
    intro k hj hk
    obtain ⟨k, rfl⟩ : ∃ k', k = k' + 1 := ⟨k - 1, by omega⟩
    have hw : wrap64 (((i + (j + 1) + 1 : Nat) : Int) - 1) = ((i + j + 1 : Nat) : Int) := by unfold wrap64; omega
    have hlt : i + j + 1 < s.data.toList.length := by omega
    have hb := bt_get s (i + j + 1) hlt
    have htk : (s.data.toList.drop i).take (j + 1 + 1) = (s.data.toList.drop i).take (j + 1) ++ [s.data.toList[i + j + 1]] := by
      rw [List.take_succ_eq_append_getElem (by simp; omega)]
      simp [Nat.add_assoc]
    rw [calepinref10_trim.l1, if_pos (by omega), hw, if_pos (by omega), if_pos (by omega), hb, htk]
    by_cases h : blank.contains (s.data.toList[i + j + 1]) = true
    · rw [trim_snoc h, ← ih k (by omega) (by omega)]
      rcases (blank_bt _).1 h with h1 | h1
      · rw [if_pos h1]
      · rw [h1, if_neg (by omega), if_pos rfl]
    · have hn1 : ¬ ((s.data.toList[i + j + 1]).toNat : Int) = 32 := fun h1 => h ((blank_bt _).2 (.inl h1))
      have hn2 : ¬ ((s.data.toList[i + j + 1]).toNat : Int) = 9 := fun h1 => h ((blank_bt _).2 (.inr h1))
      rw [if_neg hn1, if_neg hn2, if_pos (by omega), if_pos (by omega), if_pos (by omega), ext_mk, ← htk]
      simp only [Int.toNat_natCast]
      rw [show i + (j + 1) + 1 - i = j + 1 + 1 by omega, trim_id]
      · intro c h1
        rw [List.drop_eq_getElem_cons hi, List.take_succ_cons, List.head?_cons] at h1
        rw [← Option.some.inj h1]; exact hc
      · intro c h1
        rw [htk, List.getLast?_concat] at h1
        rw [← Option.some.inj h1]; exact Bool.eq_false_iff.2 h
theorem rtrim_l0 (s : ByteArray) (hs : s.size ≤ 281474976710656) : ∀ (j k i : Nat), i + j = s.data.toList.length → 2 * j + 4 ≤ k →
    calepinref10_trim.l0 k s (i : Int) (s.size : Int) = some ⟨(trimS (s.data.toList.drop i) blank).toArray⟩ := by
  have hsz := size_eq s
  intro j
  induction j with
  | zero =>
    intro k i hi hk
    obtain ⟨k, rfl⟩ : ∃ k', k = k' + 3 := ⟨k - 3, by omega⟩
    rw [calepinref10_trim.l0, if_neg (by omega), calepinref10_trim.j1, calepinref10_trim.l1, if_neg (by omega), if_pos (by omega), if_pos (by omega), if_pos (by omega), ext_mk, List.drop_of_length_le (by omega)]
    rw [List.drop_of_length_le (l := s.data.toList) (by simp; omega), List.take_nil]
    rfl
  | succ j ih =>
    intro k i hi hk
    obtain ⟨k, rfl⟩ : ∃ k', k = k' + 2 := ⟨k - 2, by omega⟩
    have hlt : i < s.data.toList.length := by omega
    have hb := bt_get s i hlt
    have hd := List.drop_eq_getElem_cons hlt
    have hwi : wrap64 ((i : Int) + 1) = ((i + 1 : Nat) : Int) := by unfold wrap64; omega
    rw [calepinref10_trim.l0, if_pos (by omega), if_pos (by omega), if_pos (by omega), hb, hwi]
    by_cases h : blank.contains (s.data.toList[i]) = true
    · rw [hd, trim_cons h, ← ih (k + 1) (i + 1) (by omega) (by omega)]
      rcases (blank_bt _).1 h with h1 | h1
      · rw [if_pos h1]
      · rw [h1, if_neg (by omega), if_pos rfl]
    · have hn1 : ¬ ((s.data.toList[i]).toNat : Int) = 32 := fun h1 => h ((blank_bt _).2 (.inl h1))
      have hn2 : ¬ ((s.data.toList[i]).toNat : Int) = 9 := fun h1 => h ((blank_bt _).2 (.inr h1))
      rw [if_neg hn1, if_neg hn2, calepinref10_trim.j1]
      have := rtrim_l1 s hs i hlt (Bool.eq_false_iff.2 h) j k (by omega) (by omega)
      rw [show ((i + j + 1 : Nat) : Int) = (s.size : Int) by omega] at this
      rw [this, List.take_of_length_le (by simp; omega)]
theorem rtrim_f (s : ByteArray) (hs : s.size ≤ 281474976710656) (k : Nat) (hk : 2 * s.size + 4 ≤ k) : calepinref10_trim.f k s = some ⟨(trimS s.data.toList blank).toArray⟩ := by
  have hsz := size_eq s
  have := rtrim_l0 s hs s.data.toList.length k 0 (by omega) (by omega)
  unfold calepinref10_trim.f
  simpa using this
def outQ (acc : List Int) : Option (List Int) → List Int × Bool × Bool
  | some t => (acc ++ t, false, true)
  | none => ([], false, false)
theorem rlist_step (s : ByteArray) (hs : s.size ≤ 1073741824) (k i a : Nat) (acc : List Int) (ha : a ≤ i) (hi : i ≤ s.data.toList.length) (hk : 2 * s.size + 5 ≤ k) (hl : acc.length < 17592186044416) (W : Option (List Int))
    (hn : calepinref10_List.l0 k s (acc ++ [((tagL (trimS ((s.data.toList.drop a).take (i - a)) blank) : Nat) : Int)]) ((i + 1 : Nat) : Int) ((i + 1 : Nat) : Int) = some (outQ (acc ++ [((tagL (trimS ((s.data.toList.drop a).take (i - a)) blank) : Nat) : Int)]) W)) :
    calepinref10_List.j1 (k + 1) s acc (a : Int) (i : Int) false = some (outQ acc (if tagL (trimS ((s.data.toList.drop a).take (i - a)) blank) = 0 then none else W.map (((tagL (trimS ((s.data.toList.drop a).take (i - a)) blank) : Nat) : Int) :: ·))) := by
  have hsz := size_eq s
  have hwi : wrap64 ((i : Int) + 1) = ((i + 1 : Nat) : Int) := by unfold wrap64; omega
  rw [calepinref10_List.j1, if_neg (by simp), if_pos (by omega), if_pos (by omega), if_pos (by omega), Int.toNat_natCast, Int.toNat_natCast, ext_mk]
  obtain ⟨p, hp⟩ : ∃ p, (s.data.toList.drop a).take (i - a) = p := ⟨_, rfl⟩
  have hpl : p.length ≤ s.size := by rw [← hp]; simp; omega
  rw [hp] at hn ⊢
  have hz : (⟨p.toArray⟩ : ByteArray).size ≤ s.size := by rw [size_eq, mk_toList]; exact hpl
  have ht := trim_size p
  rw [rtrim_f _ (by omega) k (by omega)]
  simp only [Option.bind_some]
  have hz2 : (⟨(trimS p blank).toArray⟩ : ByteArray).size ≤ s.size := by rw [size_eq, mk_toList]; omega
  rw [rparse_f _ (by omega) k (by omega), mk_toList]
  simp only [Option.bind_some]
  by_cases h0 : tagL (trimS p blank) = 0
  · rw [if_pos h0, if_pos (by omega)]; rfl
  · rw [if_neg h0, if_neg (by omega), if_pos hl, hwi, hn]
    cases W with
    | none => rfl
    | some t => simp [outQ]
theorem rlist_l0 (s : ByteArray) (hs : s.size ≤ 1073741824) : ∀ (j k i a : Nat) (acc : List Int), i + j = s.data.toList.length → a ≤ i → 2 * j + 2 * s.size + 10 ≤ k → acc.length ≤ i →
    calepinref10_List.l0 k s acc (a : Int) (i : Int) = some (outQ acc (tagsL (spl ((s.data.toList.drop a).take (i - a)) (s.data.toList.drop i)))) := by
  have hsz := size_eq s
  intro j
  induction j with
  | zero =>
    intro k i a acc hi ha hk hl
    obtain ⟨k, rfl⟩ : ∃ k', k = k' + 3 := ⟨k - 3, by omega⟩
    rw [calepinref10_List.l0, if_pos (by omega), if_neg (by omega)]
    rw [rlist_step s hs (k + 1) i a acc ha (by omega) (by omega) (by omega) (some []) (by
      rw [calepinref10_List.l0, if_neg (by omega)]; simp [outQ])]
    rw [List.drop_of_length_le (l := s.data.toList) (i := i) (by omega), spl, tagsL]
    rfl
  | succ j ih =>
    intro k i a acc hi ha hk hl
    obtain ⟨k, rfl⟩ : ∃ k', k = k' + 2 := ⟨k - 2, by omega⟩
    have hlt : i < s.data.toList.length := by omega
    have hb := bt_get s i hlt
    have hd := List.drop_eq_getElem_cons hlt
    have hwi : wrap64 ((i : Int) + 1) = ((i + 1 : Nat) : Int) := by unfold wrap64; omega
    rw [calepinref10_List.l0, if_pos (by omega), if_pos (by omega), if_pos (by omega), hb, hd, spl]
    by_cases h : s.data.toList[i] = 44
    · rw [if_pos h, h, show (((44 : UInt8).toNat : Int) != 44) = false from rfl, tagsL]
      refine rlist_step s hs k i a acc ha (by omega) (by omega) (by omega) _ ?_
      rw [ih k (i + 1) (i + 1) _ (by omega) (by omega) (by omega) (by simp; omega)]
      simp
    · rw [if_neg h, show (((s.data.toList[i]).toNat : Int) != 44) = true from bne_iff_ne.2 (fun e => h (UInt8.toNat_inj.1 (by show _ = 44; omega))), calepinref10_List.j1, if_pos rfl, hwi, ih k (i + 1) a acc (by omega) (by omega) (by omega) (by omega)]
      congr 4
      rw [show i + 1 - a = (i - a) + 1 by omega, List.take_succ_eq_append_getElem (by simp; omega)]
      simp [show a + (i - a) = i by omega]
def outR : Option (List Int × Bool) → List Int × Bool × Bool
  | some x => (x.1, x.2, true)
  | none => ([], false, false)
theorem rlist_f (s : ByteArray) (hs : s.size ≤ 1073741824) (k : Nat) (hk : 4 * s.size + 20 ≤ k) : calepinref10_List.f k s = some (outR (condL s.data.toList)) := by
  have hsz := size_eq s
  unfold calepinref10_List.f condL
  rw [rtrim_f s (by omega) k (by omega)]
  simp only [Option.bind_some]
  rw [Lib.toList_data, mk_toList]
  by_cases h : trimS s.data.toList blank = [42]
  · rw [if_pos h, if_pos h]; rfl
  · rw [if_neg h, if_neg h]
    have := rlist_l0 s hs s.data.toList.length k 0 0 [] (by omega) (by omega) (by omega) (by simp)
    simp only [Int.natCast_zero, List.drop_zero, Nat.sub_self, List.take_zero] at this
    rw [this]
    cases tagsL (spl [] s.data.toList) with
    | none => rfl
    | some t => simp [outQ, outR]
theorem loop0 (b : ByteArray) (t : Int) (l : List Int) (hl : l.length < 9223372036854775807) : ∀ (j k i : Nat) (x : Bool), i + j = l.length →
    calepinref10_Holds.l0 (k + j + 1) b t x l (l.length : Int) (i : Int) = calepinref10_Holds.j1 k b t (decide (t ≠ 0) && (x || (l.drop i).contains t)) := by
  intro j
  induction j with
  | zero =>
    intro k i x hi
    rw [calepinref10_Holds.l0, if_neg (by omega), List.drop_of_length_le (by omega)]
    have e : (t != 0) = decide (t ≠ 0) := by by_cases ht : t = 0 <;> simp [ht]
    cases x with
    | true => rw [if_pos rfl, e]; simp
    | false => rw [if_neg (by simp)]; simp
  | succ j ih =>
    intro k i x hi
    have hlt : i < l.length := by omega
    have hd := List.drop_eq_getElem_cons hlt
    have hrd : rd l (i : Int) = l[i] := by simp [rd, List.getElem?_eq_getElem hlt]
    have hwi : wrap64 ((i : Int) + 1) = ((i + 1 : Nat) : Int) := by unfold wrap64; omega
    rw [show k + (j + 1) + 1 = (k + j + 1) + 1 by omega, calepinref10_Holds.l0, if_pos (by omega), if_pos (by omega), if_pos (by omega), hrd, hwi, ih k (i + 1) true (by omega), ih k (i + 1) _ (by omega), hd]
    cases x with
    | true => simp
    | false =>
      rw [if_neg (by simp)]
      congr 2
      rw [List.contains_cons, Bool.false_or]
      congr 1
      rw [Bool.eq_iff_iff, beq_iff_eq, beq_iff_eq]
      exact eq_comm
theorem loop1 (t : Int) (x8 : Bool) (l : List Int) (hl : l.length < 9223372036854775807) : ∀ (j k i : Nat) (x : Bool), i + j = l.length → j + 1 ≤ k →
    calepinref10_Holds.l1 k t x8 x l (l.length : Int) (i : Int) = some (x8 && !(decide (t ≠ 0) && (x || (l.drop i).contains t)), true) := by
  intro j
  induction j with
  | zero =>
    intro k i x hi hk
    obtain ⟨k, rfl⟩ : ∃ k', k = k' + 1 := ⟨k - 1, by omega⟩
    rw [calepinref10_Holds.l1, if_neg (by omega), List.drop_of_length_le (by omega)]
    by_cases ht : t = 0 <;> cases x <;> cases x8 <;> simp [ht]
  | succ j ih =>
    intro k i x hi hk
    obtain ⟨k, rfl⟩ : ∃ k', k = k' + 1 := ⟨k - 1, by omega⟩
    have hlt : i < l.length := by omega
    have hd := List.drop_eq_getElem_cons hlt
    have hrd : rd l (i : Int) = l[i] := by simp [rd, List.getElem?_eq_getElem hlt]
    have hwi : wrap64 ((i : Int) + 1) = ((i + 1 : Nat) : Int) := by unfold wrap64; omega
    rw [calepinref10_Holds.l1, if_pos (by omega), if_pos (by omega), if_pos (by omega), hrd, hwi, ih k (i + 1) true (by omega) (by omega), ih k (i + 1) _ (by omega) (by omega), hd]
    cases x with
    | true => simp
    | false =>
      rw [if_neg (by simp)]
      congr 5
      rw [List.contains_cons, Bool.false_or]
      congr 1
      rw [Bool.eq_iff_iff, beq_iff_eq, beq_iff_eq]
      exact eq_comm
def outQ2 : Option Bool → Bool × Bool
  | some x => (x, true)
  | none => (false, false)
theorem rj1 (b : ByteArray) (t : Int) (hb : b.size ≤ 1073741824) (k : Nat) (hk : 4 * b.size + 30 ≤ k) (x : Bool) :
    calepinref10_Holds.j1 k b t x = some (outQ2 (match (if b.data.toList = [] then some false else hasL b.data.toList t) with | some y => some (x && !y) | none => none)) := by
  have hsz := size_eq b
  obtain ⟨k, rfl⟩ : ∃ k', k = k' + 1 := ⟨k - 1, by omega⟩
  rw [calepinref10_Holds.j1]
  by_cases h : b.data.toList = []
  · rw [if_pos h, if_neg (by rw [hsz, h]; simp)]; simp [outQ2]
  · have : 0 < b.data.toList.length := List.length_pos_iff.2 h
    rw [if_neg h, if_pos (by omega), rlist_f b hb k (by omega)]
    simp only [Option.bind_some]
    unfold hasL
    cases hc : condL b.data.toList with
    | none => simp [outR, outQ2]
    | some y =>
      have hl := condL_len _ _ hc
      simp only [outR, if_true, Option.map_some]
      have := loop1 t x y.1 (by omega) y.1.length k 0 y.2 (by omega) (by omega)
      simp only [Int.natCast_zero, List.drop_zero] at this
      rw [this]
      rfl
theorem rholds_f (a b : ByteArray) (t : Int) (ha : a.size ≤ 1073741824) (hb : b.size ≤ 1073741824) (k : Nat) (hk : 4 * b.size + 5 * a.size + 60 ≤ k) :
    calepinref10_Holds.f k a b t = some (outQ2 (holdsL a.data.toList b.data.toList t)) := by
  have hsz := size_eq a
  unfold calepinref10_Holds.f holdsL
  by_cases h : a.data.toList = []
  · rw [if_pos h, if_neg (by rw [hsz, h]; simp), rj1 b t hb k (by omega)]
    cases (if b.data.toList = [] then some false else hasL b.data.toList t) <;> rfl
  · have : 0 < a.data.toList.length := List.length_pos_iff.2 h
    rw [if_neg h, if_pos (by omega), rlist_f a ha k (by omega)]
    simp only [Option.bind_some]
    unfold hasL
    cases hc : condL a.data.toList with
    | none => simp [outR, outQ2]
    | some x =>
      have hl := condL_len _ _ hc
      simp only [outR, if_true, Option.map_some]
      obtain ⟨m, rfl⟩ : ∃ m, k = m + x.1.length + 1 := ⟨k - x.1.length - 1, by omega⟩
      have := loop0 b t x.1 (by omega) x.1.length m 0 x.2 (by omega)
      simp only [Int.natCast_zero, List.drop_zero] at this
      rw [this, rj1 b t hb m (by omega)]
      unfold hasL
      cases (if b.data.toList = [] then some false else (condL b.data.toList).map _) <;> rfl
theorem CondHolds (a b : ByteArray) (t : Int) (ha : a.size ≤ 1073741824) (hb : b.size ≤ 1073741824) : ∃ k, calepinlaw10_CondHolds.f k a b t = some true := by
  refine ⟨4 * b.size + 5 * a.size + 60, ?_⟩
  unfold calepinlaw10_CondHolds.f
  rw [first_f _ (by omega)]
  simp only [Option.bind_some]
  rw [if_pos trivial, holds_f a b t ha hb _ (by omega)]
  simp only [Option.bind_some]
  rw [rholds_f a b t ha hb _ (Nat.le_refl _)]
  simp only [Option.bind_some]
  cases holdsL a.data.toList b.data.toList t with
  | none => rfl
  | some x => cases x <;> rfl
end Go.Proofs.YtpedfpeokedelaaDoor.PureCondHolds
