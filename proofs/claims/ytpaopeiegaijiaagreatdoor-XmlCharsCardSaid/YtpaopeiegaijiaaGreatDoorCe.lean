import Derived.Test.YtpaopeiegaijiaaGreatDoorCh
import Derived.Test.YtpaopeiegaijiaaGreatDoorVf
import Derived.Test.YtpaopeiegaijiaaGreatDoorXi
import Derived.Stop.FmtQuoteTie
import Derived.Lib.MapLaws
/- XmlChars: the plain law. -/
namespace Go.Proofs.YtpaopeiegaijiaaGreatDoor.PwXmlChars
open Go.RowKit Go.Lib Go.Proofs.YtpaopeiegaijiaaGreatDoor Go.Proofs.YtpaopeiegaijiaaGreatDoor.XXmlChars Go.Proofs.YtpaopeiegaijiaaGreatDoorW.PrintWords Go.Proofs.YtpaopeiegaijiaaGreatDoorW.PrintLast
set_option linter.unusedVariables false
set_option linter.unusedSimpArgs false
theorem bl_size (s : ByteArray) : (bl s).length = s.size := rfl
theorem dropWhile_nil {p : UInt8 → Bool} : ∀ {l : List UInt8}, l.dropWhile p = [] ↔ ∀ x ∈ l, p x = true
  | [] => by simp
  | c :: l => by
    rw [List.dropWhile_cons]
    by_cases h : p c = true
    · rw [if_pos h, dropWhile_nil]; simp [h]
    · rw [if_neg h]; simp [h]
theorem blank_all (t : List UInt8) : blankL t = t.all isBl := by
  unfold blankL Lib.trimS Lib.trimLeftS Lib.trimRightS
  have hp : (fun c => ([32, 9, 13, 10] : List UInt8).contains c) = isBl := rfl
  rw [hp]
  cases h : t.all isBl with
  | true =>
    have h1 : t.reverse.dropWhile isBl = [] := dropWhile_nil.2 (fun x hx => List.all_eq_true.1 h x (List.mem_reverse.1 hx))
    rw [h1]; rfl
  | false =>
    rw [Bool.eq_false_iff]
    intro he
    have h2 : ((t.reverse.dropWhile isBl).reverse).dropWhile isBl = [] := List.isEmpty_iff.1 he
    have h3 := dropWhile_nil.1 h2
    cases hd : t.reverse.dropWhile isBl with
    | nil =>
      have h4 := dropWhile_nil.1 hd
      have : t.all isBl = true := List.all_eq_true.2 (fun x hx => h4 x (List.mem_reverse.2 hx))
      rw [h] at this; cases this
    | cons c r =>
      have h5 := List.head_dropWhile_not isBl (show t.reverse.dropWhile isBl ≠ [] by rw [hd]; simp)
      have h6 := h3 c (List.mem_reverse.2 (by rw [hd]; simp))
      simp only [hd, List.head_cons] at h5
      rw [h6] at h5; cases h5
theorem rblank_f (c : UInt8) : calepinref07_blank.f (c.toNat : Int) = some (isBl c) := by
  have := Go.Proofs.YtpaopeiegaijiaaGreatDoor.byte_all (p := fun c => calepinref07_blank.f (c.toNat : Int) == some (isBl c)) (by decide +kernel) c
  exact beq_iff_eq.1 this
theorem rblanks_l0 (l : List UInt8) (hl : l.length ≤ 1000000000) : ∀ (j k i : Nat), i + j = l.length → j + 1 ≤ k → calepinref07_Blanks.l0 k ⟨l.toArray⟩ (i : Int) = some ((l.drop i).all isBl) := by
  have hz := sz_l l
  intro j
  induction j with
  | zero =>
    intro k i hi hk
    obtain ⟨k, rfl⟩ : ∃ k', k = k' + 1 := ⟨k - 1, by omega⟩
    rw [calepinref07_Blanks.l0, if_neg (by omega), List.drop_of_length_le (by omega)]
    rfl
  | succ j ih =>
    intro k i hi hk
    obtain ⟨k, rfl⟩ : ∃ k', k = k' + 1 := ⟨k - 1, by omega⟩
    have hlt : i < l.length := by omega
    rw [calepinref07_Blanks.l0, if_pos (by omega), if_pos (by omega), bt_l l i hlt, rblank_f, Option.bind_some, wrapE ((i : Int) + 1) (i + 1) (by omega) (by omega), ih k (i + 1) (by omega) (by omega), List.drop_eq_getElem_cons hlt, List.all_cons]
    cases isBl l[i] <;> simp
theorem rblanks_ba (s : ByteArray) (hs : s.size ≤ 1000000000) (k : Nat) (hk : s.size + 1 ≤ k) : calepinref07_Blanks.f k s = some (blankL (bl s)) := by
  have h := rblanks_l0 (bl s) (by rw [bl_size]; omega) (bl s).length k 0 (by omega) (by rw [bl_size]; omega)
  rw [bl_mk, List.drop_zero, ← blank_all] at h
  exact h
set_option maxRecDepth 100000 in
theorem first_true : calepinlaw07_first.f 300 = some true := by kernel_rfl
theorem first_more : ∀ m, calepinlaw07_first.f (300 + m) = some true
  | 0 => first_true
  | m + 1 => calepinlaw07_first.mono (300 + m) _ (first_more m)
/-! ## Digits read again -/
theorem digF_bound (b : Nat) (hb : 0 < b) : ∀ (m k n : Nat) (s : List UInt8), n < b ^ (m + 1) → (digF b k n s).length ≤ s.length + m + 1
  | m, 0, n, s, h => by simp [digF] <;> omega
  | 0, k + 1, n, s, h => by
    unfold digF
    rw [if_pos (Nat.div_eq_of_lt (by simpa using h))]
    simp
  | m + 1, k + 1, n, s, h => by
    unfold digF
    split
    · simp <;> omega
    · have := digF_bound b hb m k (n / b) (hexC (n % b) :: s) ((Nat.div_lt_iff_lt_mul hb).2 (by rw [← Nat.pow_succ]; exact h))
      simp only [List.length_cons] at this
      omega
theorem hexC_tab : ∀ d : Nat, d < 16 → ([48, 49, 50, 51, 52, 53, 54, 55, 56, 57, 97, 98, 99, 100, 101, 102, 65, 66, 67, 68, 69, 70] : List UInt8).contains (hexC d) = true ∧ plainB (hexC d) = true ∧ hexC d ≠ 59 ∧ hexC d ≠ 120 ∧ hexD (hexC d) = d ∧ (d < 10 → (hexC d).toNat = 48 + d) := by decide +kernel
theorem digF_all (b : Nat) (hb : 0 < b) (hb16 : b ≤ 16) (P : UInt8 → Prop) (hP : ∀ d, d < 16 → P (hexC d)) : ∀ (k n : Nat) (s : List UInt8), (∀ c ∈ s, P c) → ∀ c ∈ digF b k n s, P c
  | 0, n, s, hs => hs
  | k + 1, n, s, hs => by
    have hd : n % b < 16 := Nat.lt_of_lt_of_le (Nat.mod_lt _ hb) hb16
    have hs' : ∀ c ∈ hexC (n % b) :: s, P c := fun c hc => by
      rcases List.mem_cons.1 hc with rfl | hc
      · exact hP _ hd
      · exact hs c hc
    unfold digF
    split
    · exact hs'
    · exact digF_all b hb hb16 P hP k (n / b) _ hs'
theorem digF_ne (b : Nat) : ∀ (k n : Nat) (s : List UInt8), 1 ≤ k → digF b k n s ≠ []
  | 0, _, _, h => by omega
  | k + 1, n, s, _ => by
    unfold digF
    split
    · simp
    · rcases Nat.eq_zero_or_pos k with e | e
      · subst e; simp [digF]
      · exact digF_ne b k _ _ e
theorem read10 : ∀ (k n : Nat) (s : List UInt8), n < 10 ^ k → n ≤ 4294967295 → 1 ≤ k → Lib.parseUintM 4294967295 0 (digF 10 k n s) = Lib.parseUintM 4294967295 n s
  | 0, n, s, _, _, h => by omega
  | k + 1, n, s, hn, hm, _ => by
    have hd : n % 10 < 10 := Nat.mod_lt _ (by decide)
    obtain ⟨_, _, _, _, _, hc⟩ := hexC_tab (n % 10) (by omega)
    have hc := hc hd
    have step : ∀ q, q * 10 + n % 10 = n → Lib.parseUintM 4294967295 q (hexC (n % 10) :: s) = Lib.parseUintM 4294967295 n s := by
      intro q hq
      rw [Lib.parseUintM, if_pos (by omega), if_neg (by omega), hc, if_neg (by omega), show q * 10 + (48 + n % 10 - 48) = n by omega]
    unfold digF
    split
    · rename_i h0
      exact step 0 (by omega)
    · rename_i h0
      have hk : 1 ≤ k := by
        rcases Nat.eq_zero_or_pos k with e | e
        · subst e; rw [Nat.zero_add, Nat.pow_one] at hn; exact absurd (Nat.div_eq_of_lt hn) h0
        · exact e
      rw [read10 k (n / 10) _ ((Nat.div_lt_iff_lt_mul (by decide)).2 (by rw [← Nat.pow_succ]; exact hn)) (by omega) hk]
      exact step (n / 10) (by omega)
theorem read16 : ∀ (k n : Nat) (s : List UInt8), n < 16 ^ k → n ≤ 4294967295 → 1 ≤ k → hexM 0 (digF 16 k n s) = hexM n s
  | 0, n, s, _, _, h => by omega
  | k + 1, n, s, hn, hm, _ => by
    have hd : n % 16 < 16 := Nat.mod_lt _ (by decide)
    obtain ⟨_, _, _, _, hc, _⟩ := hexC_tab (n % 16) hd
    have step : ∀ q, q * 16 + n % 16 = n → hexM q (hexC (n % 16) :: s) = hexM n s := by
      intro q hq
      rw [hexM, hc, hq, if_neg (by omega)]
    unfold digF
    split
    · rename_i h0
      exact step 0 (by omega)
    · rename_i h0
      have hk : 1 ≤ k := by
        rcases Nat.eq_zero_or_pos k with e | e
        · subst e; rw [Nat.zero_add, Nat.pow_one] at hn; exact absurd (Nat.div_eq_of_lt hn) h0
        · exact e
      rw [read16 k (n / 16) _ ((Nat.div_lt_iff_lt_mul (by decide)).2 (by rw [← Nat.pow_succ]; exact hn)) (by omega) hk]
      exact step (n / 16) (by omega)
theorem trim_nil {l cs : List UInt8} (h : ∀ c ∈ l, cs.contains c = true) : Lib.trimS l cs = [] := by
  unfold Lib.trimS Lib.trimLeftS Lib.trimRightS
  rw [(dropWhile_nil (p := (cs.contains ·)) (l := l.reverse)).2 (fun x hx => h x (List.mem_reverse.1 hx))]
  rfl
theorem num_read (tens : Bool) (n : Nat) (hn : n ≤ 1114111) (hs : n < 55296 ∨ 57343 < n) : ∃ a, 59 ∉ a ∧ entR tens n = 38 :: (a ++ [59]) ∧ entL a = some (encV n) := by
  have hb : ∀ (b : Bool) (D : List UInt8), D ≠ [] → (∀ c ∈ D, ([48, 49, 50, 51, 52, 53, 54, 55, 56, 57, 97, 98, 99, 100, 101, 102, 65, 66, 67, 68, 69, 70] : List UInt8).contains c = true) → numL b D = some n → entD b D = encV n := by
    intro b D h1 h2 h3
    unfold entD
    rw [if_neg h1, trim_nil h2, h3]
    show (if _ then _ else _) = _
    rw [if_pos ⟨hn, hs⟩]
  cases tens with
  | true =>
    have h59 := digF_all 10 (by decide) (by decide) (· ≠ 59) (fun d hd => (hexC_tab d hd).2.2.1) 30 n [] (fun c h => by cases h)
    have h120 := digF_all 10 (by decide) (by decide) (· ≠ 120) (fun d hd => (hexC_tab d hd).2.2.2.1) 30 n [] (fun c h => by cases h)
    have hhx := digF_all 10 (by decide) (by decide) (fun c => ([48, 49, 50, 51, 52, 53, 54, 55, 56, 57, 97, 98, 99, 100, 101, 102, 65, 66, 67, 68, 69, 70] : List UInt8).contains c = true) (fun d hd => (hexC_tab d hd).1) 30 n [] (fun c h => by cases h)
    have hne := digF_ne 10 30 n [] (by decide)
    have hrd : Lib.parseUintM 4294967295 0 (digF 10 30 n []) = .ok n := by rw [read10 30 n [] (Nat.lt_of_le_of_lt hn (by decide)) (by omega) (by decide)]; rfl
    refine ⟨35 :: digF 10 30 n [], fun h => ?_, by simp [entR], ?_⟩
    · rcases List.mem_cons.1 h with h | h
      · revert h; decide
      · exact h59 _ h rfl
    · generalize digF 10 30 n [] = D at *
      cases D with
      | nil => exact absurd rfl hne
      | cons c l =>
        have e1 : entL (35 :: c :: l) = some (numE (c :: l)) := by unfold entL; simp
        have e2 : numE (c :: l) = entD false (c :: l) := by
          unfold numE
          split
          · rename_i h; injection h with h _; exact absurd h (h120 c (by simp))
          · rfl
        rw [e1, e2, hb false _ (by simp) hhx (by unfold numL Lib.parseUintB; rw [if_neg (by decide), if_neg (by simp), show (2 ^ 32 - 1 : Nat) = 4294967295 from rfl, hrd])]
  | false =>
    have h59 := digF_all 16 (by decide) (by decide) (· ≠ 59) (fun d hd => (hexC_tab d hd).2.2.1) 30 n [] (fun c h => by cases h)
    have hhx := digF_all 16 (by decide) (by decide) (fun c => ([48, 49, 50, 51, 52, 53, 54, 55, 56, 57, 97, 98, 99, 100, 101, 102, 65, 66, 67, 68, 69, 70] : List UInt8).contains c = true) (fun d hd => (hexC_tab d hd).1) 30 n [] (fun c h => by cases h)
    have hne := digF_ne 16 30 n [] (by decide)
    have hrd : hexM 0 (digF 16 30 n []) = some n := by rw [read16 30 n [] (Nat.lt_of_le_of_lt hn (by decide)) (by omega) (by decide)]; rfl
    refine ⟨35 :: 120 :: digF 16 30 n [], fun h => ?_, by simp [entR], ?_⟩
    · rcases List.mem_cons.1 h with h | h
      · revert h; decide
      · rcases List.mem_cons.1 h with h | h
        · revert h; decide
        · exact h59 _ h rfl
    · generalize digF 16 30 n [] = D at *
      have e1 : entL (35 :: 120 :: D) = some (numE (120 :: D)) := by unfold entL; simp
      have e2 : numE (120 :: D) = entD true D := rfl
      rw [e1, e2, hb true _ hne hhx (by unfold numL; rw [if_pos rfl, hrd])]
theorem enc_eq (r : Nat) : (Utf8.encode (r : Int)).data.toList = Lib.encodeRune (r : Int) := by
  have h := Go.Extern.FmtText.encode_eq r
  unfold Lib.encodeRune
  rw [← h]
  unfold Go.Extern.FmtText.nums
  rw [List.map_map]
  conv => lhs; rw [← List.map_id (Utf8.encode (r : Int)).data.toList]
  exact List.map_congr_left fun x _ => by simp
theorem ent10 (tens : Bool) (n : Nat) (hn : n ≤ 1114111) : (entR tens n).length ≤ 10 := by
  have h1 := digF_bound 10 (by decide) 6 30 n [] (Nat.lt_of_le_of_lt hn (by decide))
  have h2 := digF_bound 16 (by decide) 5 30 n [] (Nat.lt_of_le_of_lt hn (by decide))
  unfold entR
  split <;> simp at h1 h2 ⊢ <;> omega
theorem ent_plain (tens : Bool) (n : Nat) : (entR tens n).all plainB = true := by
  have h1 := digF_all 10 (by decide) (by decide) (fun c => plainB c = true) (fun d hd => (hexC_tab d hd).2.1) 30 n [] (fun c h => by cases h)
  have h2 := digF_all 16 (by decide) (by decide) (fun c => plainB c = true) (fun d hd => (hexC_tab d hd).2.1) 30 n [] (fun c h => by cases h)
  unfold entR
  split
  · rw [List.all_cons, List.all_cons, List.all_append, List.all_eq_true.2 h1]; decide
  · rw [List.all_cons, List.all_cons, List.all_cons, List.all_append, List.all_eq_true.2 h2]; decide
theorem allL_len (tens : Bool) : ∀ (f : Nat) (l : List UInt8), (allL tens f l).length ≤ 10 * l.length
  | 0, l => by simp [allL]
  | f + 1, l => by
    unfold allL
    split
    · simp
    · rename_i hne
      have hl : 0 < l.length := List.length_pos_iff.2 hne
      have hw := decodeL_width l
      have h1 := ent10 tens (decodeL l).1 (decodeL_rune l)
      have h2 := allL_len tens f (l.drop (decodeL l).2)
      rw [List.length_drop] at h2
      rw [List.length_append]
      omega
theorem allL_plain (tens : Bool) : ∀ (f : Nat) (l : List UInt8), (allL tens f l).all plainB = true
  | 0, l => rfl
  | f + 1, l => by
    unfold allL
    split
    · rfl
    · rw [List.all_append, ent_plain, allL_plain tens f]; rfl
theorem body_all (tens : Bool) (A : Sps) : ∀ (f k : Nat) (l r : List UInt8) (ps : List Pc) (t : List UInt8), l.length ≤ f → okL l = true → l.length ≤ k →
    ∃ k', k ≤ k' + l.length ∧ bodyL k 0 A [] [97] 0 (allL tens f l ++ r) ps t = bodyL k' 0 A [] [97] 0 r ps (t ++ l)
  | 0, k, l, r, ps, t, hf, _, _ => by
    obtain rfl : l = [] := List.length_eq_zero_iff.1 (by omega)
    exact ⟨k, by simp, by simp [allL]⟩
  | f + 1, k, l, r, ps, t, hf, hok, hk => by
    by_cases hne : l = []
    · subst hne
      exact ⟨k, by simp, by simp [allL]⟩
    · have hl : 0 < l.length := List.length_pos_iff.2 hne
      have hw := decodeL_width l
      have hst := okL_step l hne
      rw [hok] at hst
      have hnb : ¬ (bad l ∨ ctl (decodeL l).1 = true) := fun h => by rw [if_pos h] at hst; cases hst
      rw [if_neg hnb] at hst
      have hbad : ¬ bad l := fun h => hnb (.inl h)
      have hwl : (decodeL l).2 ≤ l.length := by
        have hbad2 := hbad
        unfold bad at hbad2
        rw [decodeL_N] at hbad2 ⊢
        exact (whole l.length _ _ _ _ (UInt8.toNat_lt _) (UInt8.toNat_lt _) (UInt8.toNat_lt _) (UInt8.toNat_lt _) hl hbad2).2.1
      have hcut := okL_cut l.length l (decodeL l).2 (Nat.le_refl _) hwl hok
      have htk : okL (l.take (decodeL l).2) = true := hcut.1.trans (hcut.2.symm.trans hst.symm)
      have hval : (decodeL l).1 < 55296 ∨ 57343 < (decodeL l).1 := by
        rw [decodeL_N]
        rcases decodeN_valid l.length (l.getD 0 0).toNat (l.getD 1 0).toNat (l.getD 2 0).toNat (l.getD 3 0).toNat (UInt8.toNat_lt _) with h | h
        · exact .inl h
        · exact .inr h.1
      have henc : (Utf8.encode ((decodeL l).1 : Int)).data.toList = l.take (decodeL l).2 := by
        rw [enc_eq]; exact encode_decode l hne hbad
      have hV : encV (decodeL l).1 = some (l.take (decodeL l).2) := by
        unfold encV
        rw [validB_eq, henc, if_pos htk]
      obtain ⟨a, ha, he, hL⟩ := num_read tens (decodeL l).1 (decodeL_rune l) hval
      rw [hV] at hL
      obtain ⟨k, rfl⟩ : ∃ k1, k = k1 + 1 := ⟨k - 1, by omega⟩
      have hdl : (l.drop (decodeL l).2).length = l.length - (decodeL l).2 := List.length_drop
      obtain ⟨k', h1, h2⟩ := body_all tens A f k (l.drop (decodeL l).2) r ps (t ++ l.take (decodeL l).2) (by omega) hst.symm (by omega)
      refine ⟨k', by omega, ?_⟩
      have hA : allL tens (f + 1) l = entR tens (decodeL l).1 ++ allL tens f (l.drop (decodeL l).2) := by
        show (if _ then _ else _) = _
        rw [if_neg hne]
      rw [hA, he, show 38 :: (a ++ [59]) ++ allL tens f (l.drop (decodeL l).2) ++ r = 38 :: (a ++ 59 :: (allL tens f (l.drop (decodeL l).2) ++ r)) by simp, body_amp k 0 A [] [97] 0 a _ _ ps t ha hL, h2, List.append_assoc, List.take_append_drop]
theorem okN_a : okN [97] := by refine ⟨by decide, by decide, by decide⟩
theorem headL_a (U : List UInt8) : headL (fun _ => none) (60 :: 97 :: 62 :: U) = some (([], [97], (fun _ => none), 0), 62 :: U) := by
  unfold headL
  rw [if_pos (by simp [List.isPrefixOf])]
  have hw : writtenL (97 :: 62 :: U) = some (([], [97]), 62 :: U) := written_plain (n := [97]) okN_a (endB_stop (.inl rfl) U) (endB_58 (.inl rfl) U)
  simp only [List.drop_succ_cons, List.drop_zero, hw, declL_end _ (.inl rfl)]
  simp
theorem doc_chars (tens : Bool) (l : List UInt8) (hok : okL l = true) (hbl : blankL l = false) (k : Nat) (hk : l.length + 10 ≤ k) :
    docL k (60 :: 97 :: 62 :: (allL tens l.length l ++ [60, 47, 97, 62])) = some (some [opnP 0 [97], chars l, clsP 0 [97]]) := by
  refine doc_root (z := 0) (n := [97]) (.inl rfl) okN_a (tl := 62 :: (allL tens l.length l ++ [60, 47, 97, 62])) (S := []) (t := []) ?_ misc_end
  show elemF (bodyL k) 0 (fun _ => none) (60 :: 97 :: 62 :: (allL tens l.length l ++ [60, 47, 97, 62])) [] [] = _
  unfold elemF
  rw [if_pos (by decide), headL_a]
  simp only [List.isPrefixOf]
  simp only [List.drop_succ_cons, List.drop_zero, flush_nil, List.nil_append]
  rw [if_neg (by decide), if_pos (by decide)]
  obtain ⟨k', h1, h2⟩ := body_all tens (fun _ => none) l.length k l [60, 47, 97, 62] [opnP 0 [97]] [] (Nat.le_refl _) hok (by omega)
  obtain ⟨k', rfl⟩ : ∃ k2, k' = k2 + 1 := ⟨k' - 1, by omega⟩
  have hc : closeL [] [97] 0 (60 :: 47 :: [97, 62]) [opnP 0 [97]] l = some ([], flushL [opnP 0 [97]] l ++ [clsP 0 [97]], []) := closeL_plain (z := 0) (n := [97]) (.inl rfl) okN_a [] _ _
  rw [h2, bodyL_end, List.nil_append, hc, flush_txt _ hbl]
  rfl
theorem parse_chars (tens : Bool) (s : ByteArray) (hs : s.size ≤ 2000) (hok : okL (bl s) = true) (hbl : blankL (bl s) = false) :
    parseL 3000 (60 :: 97 :: 62 :: (allL tens s.size s.data.toList ++ [60, 47, 97, 62])) = some (0, [opnP 0 [97], ⟨3, 0, ⟨#[]⟩, s⟩, clsP 0 [97]]) := by
  have hlen := allL_len tens s.size s.data.toList
  have hz : s.data.toList.length = s.size := rfl
  have hd := doc_chars tens (bl s) hok hbl 3000 (by rw [bl_size]; omega)
  rw [bl_size, show bl s = s.data.toList from rfl] at hd
  have hv : validB ⟨(60 :: 97 :: 62 :: (allL tens s.size s.data.toList ++ [60, 47, 97, 62])).toArray⟩ = true := by
    rw [validB_eq]
    refine plain_ok _ ?_
    show (60 :: 97 :: 62 :: (allL tens s.size s.data.toList ++ [60, 47, 97, 62])).all plainB = true
    rw [List.all_cons, List.all_cons, List.all_cons, List.all_append, allL_plain]
    decide
  unfold parseL
  rw [if_neg (by simp only [List.length_cons, List.length_append, List.length_nil]; omega), hv, if_neg (by decide), hd]
  have hc : chars s.data.toList = ⟨3, 0, ⟨#[]⟩, s⟩ := by
    show (⟨3, 0, ⟨#[]⟩, ⟨(bl s).toArray⟩⟩ : Pc) = _
    rw [bl_mk]
  rw [hc]
theorem valid_f (s : ByteArray) (hs : s.size ≤ 2000) : ∃ b, calepinlaw07_valid.f s = some b ∧ (b = true → okL (bl s) = true) := by
  have b1 : ((⟨#[60, 97, 62]⟩ : ByteArray) ++ s).size = 3 + s.size := by rw [ByteArray.size_append]; rfl
  have b2 : ((⟨#[60, 97, 62]⟩ : ByteArray) ++ s ++ (⟨#[60, 47, 97, 62]⟩ : ByteArray)).size = 3 + s.size + 4 := by rw [ByteArray.size_append, b1]; rfl
  have b3 : ((⟨#[60, 97, 62]⟩ : ByteArray) ++ s ++ (⟨#[60, 47, 97, 62]⟩ : ByteArray)).data.toList = [60, 97, 62] ++ (bl s ++ [60, 47, 97, 62]) := by simp [ByteArray.data_append, bl]
  obtain ⟨d, hd⟩ : ∃ d, d = ((⟨#[60, 97, 62]⟩ : ByteArray) ++ s ++ (⟨#[60, 47, 97, 62]⟩ : ByteArray)) := ⟨_, rfl⟩
  rw [← hd] at b2 b3
  have hdl : d.data.toList.length = d.size := rfl
  obtain ⟨R, hR⟩ := parseL_some d.data.toList
  have hP : xml_Parse.f d = some (R.2.map toS60, R.1) := by
    unfold xml_Parse.f
    rw [if_pos (by omega), show d.size = d.data.toList.length from rfl, hR]
    rfl
  unfold calepinlaw07_valid.f
  rw [if_pos (by omega), if_pos (by rw [b1]; omega), ← hd, hP, Option.bind_some]
  refine ⟨_, rfl, fun hb => ?_⟩
  have hok : okL d.data.toList = true := by
    cases ho : okL d.data.toList with
    | true => rfl
    | false =>
      exfalso
      have hv : validB ⟨d.data.toList.toArray⟩ = false := by rw [validB_eq]; exact ho
      unfold parseL at hR
      rw [if_neg (by omega), if_pos hv] at hR
      injection hR with hR
      rw [← hR] at hb
      revert hb
      decide
  rw [b3, okL_append 3 [60, 97, 62] _ (by decide) (by decide +kernel)] at hok
  have hcut := okL_cut _ (bl s ++ [60, 47, 97, 62]) (bl s).length (Nat.le_refl _) (by simp) hok
  rw [List.take_left] at hcut
  refine hcut.1.trans ?_
  unfold startAt
  have h60 : (bl s ++ [60, 47, 97, 62]).getD (bl s).length 0 = 60 := by simp [List.getD_eq_getElem?_getD]
  rw [h60]
  simp
/-- The law: true at every text. -/
theorem chars_all (s : ByteArray) (tens : Bool) (w : World) (hT : LaidM w) : Calls Tryz.prog 9 #[.string s, .bool tens] w fun e w' => e = .returned (.bool true) ∧ Below w.heap.size w w' := by
  refine chars_true s tens w hT (300 + 2000) (first_more 2000) fun hs => ?_
  obtain ⟨b, h1, h2⟩ := valid_f s hs
  refine ⟨b, h1, fun hb => ⟨_, rblanks_ba s (by omega) (300 + 2000) (by omega), fun hbl => ⟨3000, _, _, parse_chars tens s hs (h2 hb) hbl⟩⟩⟩
end Go.Proofs.YtpaopeiegaijiaaGreatDoor.PwXmlChars
