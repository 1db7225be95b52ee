import Derived.Test.YtpaopeiegaijiaaGreatDoorPw3XmlRemarks
import Derived.Test.YtpaopeiegaijiaaGreatDoorXXmlRemarksx7
import Derived.Test.YtpaopeiegaijiaaGreatDoorXi
/- XmlRemarks: the plain law. -/
namespace Go.Proofs.YtpaopeiegaijiaaGreatDoor.PwXmlRemarks
open Go.RowKit Go.Lib Go.Proofs.YtpaopeiegaijiaaGreatDoor Go.Proofs.YtpaopeiegaijiaaGreatDoor.XXmlRemarks Go.Proofs.YtpaopeiegaijiaaGreatDoorW.PrintWords Go.Proofs.YtpaopeiegaijiaaGreatDoorW.PrintLast
set_option linter.unusedVariables false
set_option linter.unusedSimpArgs false
set_option maxRecDepth 100000 in
theorem first_true : calepinlaw07_first.f 300 = some true := by kernel_rfl
theorem first_more : ∀ m, calepinlaw07_first.f (300 + m) = some true
  | 0 => first_true
  | m + 1 => calepinlaw07_first.mono (300 + m) _ (first_more m)
theorem same_l0 (l0 : List S60) (hl : l0.length ≤ 1000) : ∀ (m i k : Nat), i + m = l0.length → m + 1 ≤ k → calepinref07_Same.l0 k l0 l0 (l0.length : Int) (i : Int) = some true
  | 0, i, k, hi, hk => by
    obtain ⟨k, rfl⟩ : ∃ k', k = k' + 1 := ⟨k - 1, by omega⟩
    rw [calepinref07_Same.l0, if_neg (by omega)]
  | m + 1, i, k, hi, hk => by
    obtain ⟨k, rfl⟩ : ∃ k', k = k' + 1 := ⟨k - 1, by omega⟩
    have hw : wrap64 ((i : Int) + 1) = ((i + 1 : Nat) : Int) := wrapE _ _ (by omega) (by omega)
    have IH := same_l0 l0 hl m (i + 1) k (by omega) (by omega)
    rw [calepinref07_Same.l0, if_pos (by omega), if_pos (by omega), if_pos (by omega), if_pos (by omega), if_neg (by simp), hw]
    exact IH
theorem same_f (l0 : List S60) (hl : l0.length ≤ 1000) (k : Nat) (hk : l0.length + 1 ≤ k) : calepinref07_Same.f k l0 l0 = some true := by
  have h := same_l0 l0 hl l0.length 0 k (by omega) hk
  unfold calepinref07_Same.f
  first | exact h | (rw [if_pos rfl]; exact h) | (simp; exact h)
theorem ent13 : entL [35, 49, 51] = some (some [13]) := by decide +kernel
theorem to_of (l0 : List S60) : (l0.map ofS60).map toS60 = l0 := by
  rw [List.map_map]
  conv => rhs; rw [← List.map_id l0]
  exact List.map_congr_left fun x _ => rfl
/-! ## The text of the remark -/
/-- Two hyphens together somewhere. -/
def adj : List UInt8 → Bool
  | a :: b :: l => (a == 45 && b == 45) || adj (b :: l)
  | _ => false
theorem noDD_of : ∀ (l : List UInt8), adj l = false → l.getLast? ≠ some 45 → noDD l = true
  | [], _, _ => rfl
  | [c], _, h => by
    have hc : c ≠ 45 := fun e => h (by rw [e]; rfl)
    simp [noDD, hc]
  | a :: b :: l, h, h2 => by
    simp only [adj, Bool.or_eq_false_iff] at h
    simp only [noDD, Bool.and_eq_true, Bool.not_eq_true']
    exact ⟨h.1, noDD_of (b :: l) h.2 (by rw [List.getLast?_cons_cons] at h2; exact h2)⟩
theorem l0_go (x0 : List S60) (x1 : Int) (x2 : ByteArray) (hx : x2.size ≤ 1000000000) : ∀ (m i k : Nat), i + m = x2.size → m + 1 ≤ k →
    (adj ((bl x2).drop i) = true ∧ calepinlaw07_XmlRemarks.l0 k x0 x1 x2 (i : Int) = some true) ∨
    (adj ((bl x2).drop i) = false ∧ ∃ k' j, x2.size ≤ j + 1 ∧ j ≤ x2.size ∧ k ≤ k' + m + 1 ∧ calepinlaw07_XmlRemarks.l0 k x0 x1 x2 (i : Int) = calepinlaw07_XmlRemarks.l0 (k' + 1) x0 x1 x2 (j : Int))
  | 0, i, k, hi, hk => by
    right
    have hd : (bl x2).drop i = [] := List.drop_eq_nil_of_le (by rw [bl_size]; omega)
    rw [hd]
    exact ⟨rfl, k - 1, i, by omega, by omega, by omega, by rw [show k - 1 + 1 = k by omega]⟩
  | 1, i, k, hi, hk => by
    right
    have hd : ∃ c, (bl x2).drop i = [c] := by
      have hlen : ((bl x2).drop i).length = 1 := by rw [List.length_drop, bl_size]; omega
      exact List.length_eq_one_iff.1 hlen
    obtain ⟨c, hd⟩ := hd
    rw [hd]
    exact ⟨rfl, k - 1, i, by omega, by omega, by omega, by rw [show k - 1 + 1 = k by omega]⟩
  | m + 2, i, k, hi, hk => by
    obtain ⟨k, rfl⟩ : ∃ k', k = k' + 1 := ⟨k - 1, by omega⟩
    have hw : wrap64 ((i : Int) + 1) = ((i + 1 : Nat) : Int) := wrapE _ _ (by omega) (by omega)
    have hi1 : i < (bl x2).length := by rw [bl_size]; omega
    have hi2 : i + 1 < (bl x2).length := by rw [bl_size]; omega
    have hd : (bl x2).drop i = (bl x2)[i] :: (bl x2)[i + 1] :: (bl x2).drop (i + 2) := by
      rw [List.drop_eq_getElem_cons hi1, List.drop_eq_getElem_cons hi2]
    have hd1 : (bl x2).drop (i + 1) = (bl x2)[i + 1] :: (bl x2).drop (i + 2) := List.drop_eq_getElem_cons hi2
    have g1 : bt x2 (i : Int) = ((bl x2)[i].toNat : Int) := by rw [btN]; show (((bl x2).getD i 0).toNat : Int) = _; rw [List.getD_eq_getElem?_getD, List.getElem?_eq_getElem hi1]; rfl
    have g2 : bt x2 ((i + 1 : Nat) : Int) = ((bl x2)[i + 1].toNat : Int) := by rw [btN]; show (((bl x2).getD (i + 1) 0).toNat : Int) = _; rw [List.getD_eq_getElem?_getD, List.getElem?_eq_getElem hi2]; rfl
    have IH := l0_go x0 x1 x2 hx (m + 1) (i + 1) k (by omega) (by omega)
    rw [hd1] at IH
    rw [calepinlaw07_XmlRemarks.l0, hw, if_pos (by omega), if_pos (by omega), if_pos (by omega), g1, g2, hd]
    generalize (bl x2)[i] = a at *
    generalize (bl x2)[i + 1] = b at *
    by_cases ha : a = 45
    · subst ha
      rw [if_pos (by decide), if_pos (by omega)]
      by_cases hb : b = 45
      · subst hb
        left
        rw [if_pos (by decide)]
        exact ⟨rfl, rfl⟩
      · rw [if_neg (fun e => hb (UInt8.toNat_inj.1 (by show b.toNat = 45; omega)))]
        have e : adj (45 :: b :: (bl x2).drop (i + 2)) = adj (b :: (bl x2).drop (i + 2)) := by simp [adj, hb]
        rw [e]
        rcases IH with h | ⟨h, k', j, h1, h2, h3, h4⟩
        · exact .inl h
        · exact .inr ⟨h, k', j, h1, h2, by omega, h4⟩
    · rw [if_neg (fun e => ha (UInt8.toNat_inj.1 (by show a.toNat = 45; omega)))]
      have e : adj (a :: b :: (bl x2).drop (i + 2)) = adj (b :: (bl x2).drop (i + 2)) := by simp [adj, ha]
      rw [e]
      rcases IH with h | ⟨h, k', j, h1, h2, h3, h4⟩
      · exact .inl h
      · exact .inr ⟨h, k', j, h1, h2, by omega, h4⟩
theorem l1_go (x0 : List S60) (x2 x8 : ByteArray) (hx : x8.size ≤ 1000000000) : ∀ (m i k : Nat), i + m = x8.size → m + 1 ≤ k →
    ∃ k' j, j ≤ x8.size ∧ k ≤ k' + m + 1 ∧ ((bl x8).drop j = [] ∨ ∃ v, (bl x8).drop j = 60 :: v) ∧ calepinlaw07_XmlRemarks.l1 k x0 x2 x8 (i : Int) = calepinlaw07_XmlRemarks.j3 k' x0 x2 x8 (j : Int)
  | 0, i, k, hi, hk => by
    obtain ⟨k, rfl⟩ : ∃ k', k = k' + 1 := ⟨k - 1, by omega⟩
    refine ⟨k, i, by omega, by omega, .inl (List.drop_eq_nil_of_le (by rw [bl_size]; omega)), ?_⟩
    rw [calepinlaw07_XmlRemarks.l1, if_neg (by omega)]
  | m + 1, i, k, hi, hk => by
    obtain ⟨k, rfl⟩ : ∃ k', k = k' + 1 := ⟨k - 1, by omega⟩
    have hw : wrap64 ((i : Int) + 1) = ((i + 1 : Nat) : Int) := wrapE _ _ (by omega) (by omega)
    have hi1 : i < (bl x8).length := by rw [bl_size]; omega
    have hd : (bl x8).drop i = (bl x8)[i] :: (bl x8).drop (i + 1) := List.drop_eq_getElem_cons hi1
    have g1 : bt x8 (i : Int) = ((bl x8)[i].toNat : Int) := by rw [btN]; show (((bl x8).getD i 0).toNat : Int) = _; rw [List.getD_eq_getElem?_getD, List.getElem?_eq_getElem hi1]; rfl
    rw [calepinlaw07_XmlRemarks.l1, if_pos (by omega), if_pos (by omega), g1]
    generalize (bl x8)[i] = a at *
    by_cases ha : a = 60
    · subst ha
      rw [if_pos (by decide)]
      exact ⟨k, i, by omega, by omega, .inr ⟨_, hd⟩, rfl⟩
    · rw [if_neg (fun e => ha (UInt8.toNat_inj.1 (by show a.toNat = 60; omega))), hw]
      obtain ⟨k', j, h1, h2, h3, h4⟩ := l1_go x0 x2 x8 hx m (i + 1) k (by omega) (by omega)
      exact ⟨k', j, h1, by omega, h3, h4⟩
theorem parse_some (s : ByteArray) (h : s.size ≤ 9223372036854775807) : ∃ r, xml_Parse.f s = some r := by
  unfold xml_Parse.f
  rw [if_pos h]
  obtain ⟨R, hR⟩ := parseL_some s.data.toList
  rw [show s.size = s.data.toList.length from rfl, hR]
  exact ⟨_, rfl⟩
theorem bl_app (a b : ByteArray) : bl (a ++ b) = bl a ++ bl b := by simp [bl, ByteArray.data_append]
theorem bl_ext (s : ByteArray) (n : Nat) : bl (s.extract 0 n) = (bl s).take n := by
  have h := ext_l (bl s) 0 n
  rw [bl_mk] at h
  rw [h, bl_of]; simp
theorem bl_ext2 (s : ByteArray) (n : Nat) (h : n ≤ s.size) : bl (s.extract n s.size) = (bl s).drop n := by
  have h2 := ext_l (bl s) n s.size
  rw [bl_mk] at h2
  rw [h2, bl_of, List.take_of_length_le (by rw [List.length_drop, bl_size]; exact Nat.le_refl _)]
theorem cut_ok {l : List UInt8} (h : okL l = true) (n : Nat) (hn : n ≤ l.length) (hv : l.drop n = [] ∨ ∃ v, l.drop n = 60 :: v) : okL (l.take n) = true ∧ okL (l.drop n) = true := by
  have hc := okL_cut l.length l n (Nat.le_refl _) hn h
  rcases hv with e | ⟨v, e⟩
  · have h2 : okL (l.drop n) = true := by rw [e]; rfl
    exact ⟨hc.1.trans (hc.2.symm.trans h2), h2⟩
  · have hs : startAt l n = true := by
      have h3 : l.getD n 0 = 60 := by
        have h4 := congrArg List.head? e
        rw [List.head?_drop] at h4
        rw [List.getD_eq_getElem?_getD, h4]
        rfl
      unfold startAt
      rw [h3]
      simp
    exact ⟨hc.1.trans hs, hc.2.trans hs⟩
theorem parse_rem (l0 : List S60) (hc : chkAll (l0.map ofS60)) (x2 : ByteArray) (hx : noDD (bl x2) = true) (s r : ByteArray) (hs : bl s = printL (l0.map ofS60)) (hss : s.size ≤ 65536) (n : Nat) (hn : n ≤ s.size) (hv : (bl s).drop n = [] ∨ ∃ v, (bl s).drop n = 60 :: v)
    (hr : bl r = (bl s).take n ++ remR (bl x2) ((bl s).drop n)) (hrs : r.size ≤ 1000000000) :
    (65536 < r.size ∧ ∃ p, xml_Parse.f r = some (p, 11)) ∨ (r.size ≤ 65536 ∧ 0 < x2.size ∧ ∃ p, xml_Parse.f r = some (p, 10)) ∨ (r.size ≤ 65536 ∧ xml_Parse.f r = some (l0, 0)) := by
  have hl : r.data.toList.length = r.size := rfl
  by_cases hlong : 65536 < r.size
  · left
    refine ⟨hlong, [], ?_⟩
    unfold xml_Parse.f parseL
    rw [if_pos (by omega), if_pos (by omega)]
    rfl
  right
  cases hvb : validB ⟨r.data.toList.toArray⟩ with
  | false =>
    left
    refine ⟨by omega, ?_, [], ?_⟩
    · by_cases h0 : 0 < x2.size
      · exact h0
      · exfalso
        have hx2 : bl x2 = [] := List.length_eq_zero_iff.1 (by rw [bl_size]; omega)
        rw [validB_eq] at hvb
        have hvb : okL (bl r) = false := hvb
        have hok : okL (bl s) = true := by rw [hs]; exact print_valid hc
        obtain ⟨h1, h2⟩ := cut_ok hok n (by rw [bl_size]; exact hn) hv
        have h3 : okL (bl r) = true := by
          rw [hr, hx2]
          refine ok_app h1 ?_
          have e : remR [] ((bl s).drop n) = [60, 33, 45, 45, 45, 45, 62] ++ (bl s).drop n := rfl
          rw [e]
          exact ok_app (plain_ok _ (by decide)) h2
        rw [h3] at hvb
        cases hvb
    · unfold xml_Parse.f parseL
      rw [if_pos (by omega), if_neg (by omega), if_pos hvb]
      rfl
  | true =>
    right
    refine ⟨by omega, ?_⟩
    have hlen : (printL (l0.map ofS60)).length = s.size := by rw [← hs]; rfl
    have hrl : r.size = s.size + x2.size + 7 := by
      have h1 := congrArg List.length hr
      rw [bl_size, List.length_append, rem_len, List.length_take, List.length_drop, bl_size, bl_size] at h1
      omega
    have hd : docL (r.size + 1) (bl r) = some (some (l0.map ofS60)) := by
      rw [hr]
      cases l0 with
      | nil => exact hc.elim
      | cons p rest => exact rem_print ent13 hc hx _ _ (by rw [List.take_append_drop]; exact hs.symm) hv _ (by have h1 : (printL (ofS60 p :: rest.map ofS60)).length = s.size := hlen; rw [h1, bl_size]; omega)
    unfold xml_Parse.f parseL
    rw [if_pos (by omega), if_neg (by omega), hvb, if_neg (by decide), show r.data.toList = bl r from rfl, hd]
    show some ((l0.map ofS60).map toS60, 0) = _
    rw [to_of]
theorem j3_true (l0 : List S60) (hl : l0.length ≤ 1000) (hc : chkAll (l0.map ofS60)) (x2 : ByteArray) (hx2 : x2.size ≤ 2000) (hx : noDD (bl x2) = true) (s : ByteArray) (hs : bl s = printL (l0.map ofS60)) (hss : s.size ≤ 65536) (n : Nat) (hn : n ≤ s.size) (hv : (bl s).drop n = [] ∨ ∃ v, (bl s).drop n = 60 :: v)
    (k : Nat) (hk : l0.length + 2 ≤ k) : calepinlaw07_XmlRemarks.j3 k l0 x2 s (n : Int) = some true := by
  obtain ⟨k, rfl⟩ : ∃ k', k = k' + 1 := ⟨k - 1, by omega⟩
  have hS := same_f l0 hl k (by omega)
  have e1 : (s.extract 0 n).size = n := by rw [← bl_size, bl_ext, List.length_take, bl_size]; omega
  have e2 : (s.extract n s.size).size = s.size - n := by rw [← bl_size, bl_ext2 s n hn, List.length_drop, bl_size]
  have a1 : ((s.extract 0 n) ++ (⟨#[60, 33, 45, 45]⟩ : ByteArray)).size = n + 4 := by rw [ByteArray.size_append, e1]; rfl
  have a2 : (((s.extract 0 n) ++ (⟨#[60, 33, 45, 45]⟩ : ByteArray)) ++ x2).size = n + 4 + x2.size := by rw [ByteArray.size_append, a1]
  have a3 : ((((s.extract 0 n) ++ (⟨#[60, 33, 45, 45]⟩ : ByteArray)) ++ x2) ++ (⟨#[45, 45, 62]⟩ : ByteArray)).size = n + 4 + x2.size + 3 := by rw [ByteArray.size_append, a2]; rfl
  obtain ⟨r, hrd⟩ : ∃ r, r = (((((s.extract 0 n) ++ (⟨#[60, 33, 45, 45]⟩ : ByteArray)) ++ x2) ++ (⟨#[45, 45, 62]⟩ : ByteArray)) ++ (s.extract n s.size)) := ⟨_, rfl⟩
  have hrs : r.size = n + 4 + x2.size + 3 + (s.size - n) := by rw [hrd, ByteArray.size_append, a3, e2]
  have hr : bl r = (bl s).take n ++ remR (bl x2) ((bl s).drop n) := by
    rw [hrd]
    simp only [bl_app, bl_ext, bl_ext2 s n hn]
    simp [bl, remR]
  have hP := parse_rem l0 hc x2 hx s r hs hss n hn hv hr (by omega)
  have b1 : ((⟨#[60, 97, 62]⟩ : ByteArray) ++ x2).size = 3 + x2.size := by rw [ByteArray.size_append]; rfl
  obtain ⟨q, hq⟩ := parse_some ((⟨#[60, 97, 62]⟩ : ByteArray) ++ x2 ++ (⟨#[60, 47, 97, 62]⟩ : ByteArray)) (by rw [ByteArray.size_append, b1]; show 3 + x2.size + 4 ≤ _; omega)
  rw [calepinlaw07_XmlRemarks.j3, if_pos (by omega), if_pos (by omega), Int.toNat_natCast, if_pos (by omega), if_pos (by omega), if_pos (by omega), if_pos (by omega), ← hrd]
  rcases hP with ⟨h1, p, h2⟩ | ⟨h1, h0, p, h2⟩ | ⟨h1, h2⟩
  · rw [h2, Option.bind_some, if_pos (by omega)]
    rfl
  · rw [h2, Option.bind_some, if_neg (by omega), if_pos (by omega), if_pos (by omega), hq, Option.bind_some, if_neg (by simp), if_pos rfl]
    split
    · rfl
    · rw [decide_eq_true (by omega)]
  · rw [h2, Option.bind_some, if_neg (by omega), if_pos (by omega), if_pos (by omega), hq, Option.bind_some, if_pos rfl, hS, Option.bind_some, if_pos rfl]
theorem j1_skip (k : Nat) (x0 : List S60) (x1 : Int) (x2 : ByteArray) (hk : 1 ≤ k) : calepinlaw07_XmlRemarks.j1 k x0 x1 x2 true = some true := by
  obtain ⟨k, rfl⟩ : ∃ k', k = k' + 1 := ⟨k - 1, by omega⟩
  rw [calepinlaw07_XmlRemarks.j1, if_pos rfl]
theorem j1_true (l0 : List S60) (hl : l0.length ≤ 1000) (hs : ∀ p ∈ l0, sizeOkB 1048576 p) (hok : okB l0 = true) (x1 : Int) (x2 : ByteArray) (hx2 : x2.size ≤ 2000) (hx : noDD (bl x2) = true) (k : Nat) (hk : 4 * l0.length + 1048576 + 66000 ≤ k) :
    calepinlaw07_XmlRemarks.j1 k l0 x1 x2 false = some true := by
  obtain ⟨k, rfl⟩ : ∃ k', k = k' + 1 := ⟨k - 1, by omega⟩
  have hM : 1048576 ≤ 2000000 := by decide
  have hC := check_f l0 1048576 hM hl hs k (by omega)
  rw [hok] at hC
  have hc := okB_chk hok
  have hg := good_all hM hs hc
  have hP : xml_Print.f k l0 = some (resT (l0.map ofS60), resN (l0.map ofS60)) := by
    unfold xml_Print.f
    rw [hC, if_pos rfl, Option.bind_some, if_pos rfl, if_pos ⟨by omega, hg⟩]
  have hout := out_print hc
  have hsz : (⟨(printL (l0.map ofS60)).toArray⟩ : ByteArray).size = (printL (l0.map ofS60)).length := sz_l _
  rw [calepinlaw07_XmlRemarks.j1, if_neg (by decide), hP, Option.bind_some]
  by_cases hlong : (printL (l0.map ofS60)).length > 65536
  · have hN : resN (l0.map ofS60) = 11 ∧ resT (l0.map ofS60) = ⟨#[]⟩ := by
      unfold resN resT
      rw [hout, if_neg (by omega), if_neg (by omega)]
      exact ⟨rfl, rfl⟩
    rw [hN.1, hN.2]
    simp
  · have hN : resN (l0.map ofS60) = 0 ∧ resT (l0.map ofS60) = ⟨(printL (l0.map ofS60)).toArray⟩ := by
      unfold resN resT
      rw [hout, if_pos (by omega), if_pos (by omega)]
      exact ⟨rfl, rfl⟩
    rw [hN.1, hN.2, if_pos rfl]
    dsimp only
    obtain ⟨s, hsd⟩ : ∃ s : ByteArray, s = ⟨(printL (l0.map ofS60)).toArray⟩ := ⟨_, rfl⟩
    rw [← hsd] at hsz ⊢
    have hbs : bl s = printL (l0.map ofS60) := by rw [hsd, bl_of]
    have hpos : 0 < (printL (l0.map ofS60)).length := by
      cases l0 with
      | nil => exact hc.elim
      | cons p rest => simp [printL]
    have hw : IntKind.u64.wrap ((s.size : Nat) : Int) = (s.size : Int) := by rw [IntKind.wrap_u64]; omega
    have hx1 : 0 ≤ IntKind.u64.wrap x1 := by rw [IntKind.wrap_u64]; omega
    obtain ⟨z, hz⟩ := Int.eq_ofNat_of_zero_le hx1
    have hmod : Int.tmod (z : Int) (s.size : Int) = ((z % s.size : Nat) : Int) := by
      rw [Int.tmod_eq_emod_of_nonneg (by omega)]; rfl
    have hlt : z % s.size < s.size := Nat.mod_lt _ (by omega)
    have hww : wrap64 ((z % s.size : Nat) : Int) = ((z % s.size : Nat) : Int) := w64 _ (by omega)
    rw [hw, if_neg (by omega), hz, hmod, hww]
    clear hw hz hx1 hmod hww hP hC hok
    generalize z % s.size = y at *
    obtain ⟨k', j, h1, h2, h3, h4⟩ := l1_go l0 x2 s (by omega) (s.size - y) y k (by omega) (by omega)
    rw [h4]
    exact j3_true l0 hl hc x2 hx2 hx s hbs (by omega) j h1 h3 k' (by omega)
theorem remarks (l0 : List S60) (hs : ∀ p ∈ l0, sizeOkB 1048576 p) (a1 : Int) (a2 : ByteArray) (h2 : a2.size ≤ 1048576) : ∃ k, calepinlaw07_XmlRemarks.f k l0 a1 a2 = some true := by
  obtain ⟨K, hK⟩ : ∃ K, K = 20 * l0.length + 1048576 * 2 + 100000 := ⟨_, rfl⟩
  refine ⟨300 + K, ?_⟩
  rw [calepinlaw07_XmlRemarks.f, first_more, Option.bind_some, if_pos rfl]
  rcases l0_go l0 a1 a2 (by omega) a2.size 0 (300 + K) (by omega) (by omega) with ⟨_, h⟩ | ⟨hadj, k', j, hj, hj2, hk', h⟩
  · exact h
  · have h : calepinlaw07_XmlRemarks.l0 (300 + K) l0 a1 a2 0 = calepinlaw07_XmlRemarks.l0 (k' + 1) l0 a1 a2 (j : Int) := h
    rw [h, calepinlaw07_XmlRemarks.l0, show wrap64 ((j : Int) + 1) = ((j + 1 : Nat) : Int) from wrapE _ _ (by omega) (by omega), if_neg (by omega)]
    by_cases h200 : (l0.length : Int) > 200
    · rw [if_pos h200]; exact j1_skip _ _ _ _ (by omega)
    rw [if_neg h200]
    by_cases h2000 : (a2.size : Int) > 2000
    · rw [if_pos h2000]; exact j1_skip _ _ _ _ (by omega)
    rw [if_neg h2000]
    have hM : 1048576 ≤ 2000000 := by decide
    have hl : l0.length ≤ 1000 := by omega
    have hR := right_ref l0 1048576 hM hl hs k' (by omega)
    rw [hR, Option.bind_some]
    cases hok : okB l0 with
    | false => rw [if_neg (by decide)]; exact j1_skip _ _ _ _ (by omega)
    | true =>
      rw [if_pos rfl]
      by_cases h0 : (a2.size : Int) > 0
      · have hw : wrap64 ((a2.size : Int) - 1) = ((a2.size - 1 : Nat) : Int) := wrapE _ _ (by omega) (by omega)
        rw [if_pos h0, hw, if_pos (by omega), if_pos (by omega)]
        have hi1 : a2.size - 1 < (bl a2).length := by rw [bl_size]; omega
        have g1 : bt a2 ((a2.size - 1 : Nat) : Int) = ((bl a2)[a2.size - 1].toNat : Int) := by rw [btN]; show (((bl a2).getD (a2.size - 1) 0).toNat : Int) = _; rw [List.getD_eq_getElem?_getD, List.getElem?_eq_getElem hi1]; rfl
        have hlast : (bl a2).getLast? = some (bl a2)[a2.size - 1] := by rw [List.getLast?_eq_getElem?, bl_size, List.getElem?_eq_getElem hi1]
        rw [g1]
        by_cases hc : (bl a2)[a2.size - 1] = 45
        · rw [hc]
          exact j1_skip _ _ _ _ (by omega)
        · rw [show ((((bl a2)[a2.size - 1].toNat : Nat) : Int) == 45) = false from beq_eq_false_iff_ne.2 fun e => hc (UInt8.toNat_inj.1 (by show (bl a2)[a2.size - 1].toNat = 45; omega))]
          exact j1_true l0 hl hs hok a1 a2 (by omega) (noDD_of _ (by simpa using hadj) (by rw [hlast]; intro e; injection e with e; exact hc e)) k' (by omega)
      · rw [if_neg h0]
        have hb : bl a2 = [] := List.length_eq_zero_iff.1 (by rw [bl_size]; omega)
        exact j1_true l0 hl hs hok a1 a2 (by omega) (by rw [hb]; rfl) k' (by omega)
end Go.Proofs.YtpaopeiegaijiaaGreatDoor.PwXmlRemarks
