/- HttpFields, the plain law. -/
import Derived.Test.YtpedfpeokedelaaDoorXHttpFieldsx7
import Derived.Test.YtpedfpeokedelaaDoorTp
import Derived.Test.YtpedfpeokedelaaDoorHl
import Derived.KernelRfl
namespace Go.Proofs.YtpedfpeokedelaaDoor.PureHttpFields
open Go.RowKit Go.Lib Go.Proofs.YtpedfpeokedelaaDoor.XHttpFields Go.Proofs.YtpedfpeokedelaaDoorW.PrintWords Go.Proofs.YtpedfpeokedelaaDoorW.PrintLast Go.Proofs.YtpedfpeokedelaaDoorW.PrintMore
set_option maxRecDepth 100000
set_option linter.unusedSimpArgs false
theorem btN (s : ByteArray) (i : Nat) : bt s (i : Int) = ((s.data.toList.getD i 0).toNat : Int) := by
  have hsz := size_eq s
  unfold bt
  by_cases h : i < s.size
  · rw [dif_pos (by simpa using h), List.getD_eq_getElem?_getD, List.getElem?_eq_getElem (by omega)]
    rfl
  · rw [dif_neg (by simpa using h), List.getD_eq_getElem?_getD, List.getElem?_eq_none (by omega)]
    rfl
theorem byte_all {p : UInt8 → Bool} (h : ∀ x : Fin 256, p (UInt8.ofNat x.val) = true) (c : UInt8) : p c = true := by
  have := h ⟨c.toNat, c.toNat_lt⟩
  simpa using this
theorem set_at (A : List Int) (z v : Int) (R : List Int) : (A ++ z :: R).set A.length v = A ++ v :: R := by
  induction A with
  | nil => rfl
  | cons a A ih => simp
theorem low_t (s : ByteArray) (h : s.size ≤ 281474976710656) : char_Lower.f s = some (turnS s 65 90) := by
  unfold char_Lower.f char_turned.f
  rw [if_pos ⟨h, by decide⟩]
  rfl
theorem bt_get (s : ByteArray) (i : Nat) (h : i < s.data.toList.length) : bt s (i : Int) = ((s.data.toList[i]'h).toNat : Int) := by
  have h2 : i < s.size := by rw [size_eq]; exact h
  unfold bt
  rw [dif_pos (by simpa using h2)]
  rfl
theorem mk_l (l : List UInt8) : (⟨l.toArray⟩ : ByteArray).data.toList = l := rfl
theorem first_ge : ∀ k, 60 ≤ k → calepinlaw08_first.f k = some true := by
  have h0 : calepinlaw08_first.f 60 = some true := by kernel_rfl
  intro k hk
  obtain ⟨j, rfl⟩ : ∃ j, k = 60 + j := ⟨k - 60, by omega⟩
  clear hk
  induction j with
  | zero => exact h0
  | succ j ih => exact calepinlaw08_first.mono _ _ ih
theorem same_f (a b : ByteArray) (ha : a.size ≤ 281474976710656) (hb : b.size ≤ 281474976710656) : char_Same.f a b = some ((turnS a 65 90).data.toList == (turnS b 65 90).data.toList) := by
  unfold char_Same.f
  rw [low_t a ha, low_t b hb]
  simp only [Option.bind_some, Lib.toList_data]
def mkS (p : List UInt8 × List UInt8) : S74 := ⟨⟨p.1.toArray⟩, ⟨p.2.toArray⟩⟩
theorem only_f (s : ByteArray) (a b : Nat) (hs : s.size ≤ 281474976710656) : ∀ (j k i : Nat), i + j = s.data.toList.length → j + 1 ≤ k →
    http_only.l0 k s (a : Int) (b : Int) (s.size : Int) (i : Int) = some ((s.data.toList.drop i).all fun c => decide (a ≤ c.toNat) && decide (c.toNat ≤ b)) := by
  have hsz := size_eq s
  intro j
  induction j with
  | zero =>
    intro k i hi hk
    obtain ⟨k, rfl⟩ : ∃ k', k = k' + 1 := ⟨k - 1, by omega⟩
    rw [http_only.l0, if_neg (by omega), List.drop_of_length_le (by omega)]
    rfl
  | succ j ih =>
    intro k i hi hk
    obtain ⟨k, rfl⟩ : ∃ k', k = k' + 1 := ⟨k - 1, by omega⟩
    have hlt : i < s.data.toList.length := by omega
    have hb := bt_get s i hlt
    have hd := List.drop_eq_getElem_cons hlt
    have hwi : wrap64 ((i : Int) + 1) = ((i + 1 : Nat) : Int) := by unfold wrap64; omega
    rw [http_only.l0, if_pos (by omega), if_pos (by omega), if_pos (by omega), hb, hd, List.all_cons]
    by_cases h1 : a ≤ s.data.toList[i].toNat
    · rw [if_neg (by omega)]
      by_cases h2 : s.data.toList[i].toNat ≤ b
      · rw [if_neg (by omega), hwi, ih k (i + 1) (by omega) (by omega), decide_eq_true h1, decide_eq_true h2]
        rfl
      · rw [if_pos (by omega), decide_eq_false h2]
        simp
    · rw [if_pos (by omega), decide_eq_false h1]
      rfl
theorem only_all (s : ByteArray) (a b : Nat) (hs : s.size ≤ 281474976710656) (k : Nat) (hk : s.size + 1 ≤ k) :
    http_only.f k s (a : Int) (b : Int) = some (s.data.toList.all fun c => decide (a ≤ c.toNat) && decide (c.toNat ≤ b)) := by
  have := only_f s a b hs s.data.toList.length k 0 (by omega) (by rw [size_eq] at hk; exact hk)
  simpa [http_only.f] using this
theorem tab_text (c : UInt8) : (decide (32 ≤ (tabC c).toNat) && decide ((tabC c).toNat ≤ 126)) = textC c := by
  unfold tabC textC
  by_cases h : c = 9
  · subst h; rfl
  · rw [if_neg h, show (c == 9) = false from beq_eq_false_iff_ne.2 h, Bool.false_or]
theorem content_f (s : ByteArray) (hs : s.size ≤ 140737488355328) (k : Nat) (hk : s.size + 1 ≤ k) : http_content.f k s = some (s.data.toList.all textC) := by
  unfold http_content.f strings_ReplaceAll.f
  rw [if_pos ⟨hs, rfl, rfl⟩]
  simp only [Option.bind_some]
  have hz : (⟨(s.data.toList.map tabC).toArray⟩ : ByteArray).size = s.size := by rw [size_eq, mk_l, List.length_map, size_eq]
  have h := only_all ⟨(s.data.toList.map tabC).toArray⟩ 32 126 (by rw [hz]; omega) k (by rw [hz]; exact hk)
  rw [show ((32 : Nat) : Int) = 32 from rfl, show ((126 : Nat) : Int) = 126 from rfl] at h
  rw [h, mk_l, List.all_map]
  simp only [Option.bind_some]
  congr 2
  funext c
  exact tab_text c
theorem asked_f (m t : ByteArray) (hm : m.size ≤ 281474976710656) (ht : t.size ≤ 281474976710656) (k : Nat) (hk : 300 ≤ k) : http_asked.f k m t = some (askedL m.data.toList t.data.toList) := by
  have zm := size_eq m
  have zt := size_eq t
  unfold http_asked.f askedL
  rw [Lib.toList_data, Lib.toList_data]
  by_cases h1 : m.data.toList = []
  · rw [if_pos h1, h1]; rfl
  · rw [if_neg h1, show m.data.toList.isEmpty = false from Bool.eq_false_iff.2 fun h => h1 (List.isEmpty_iff.1 h)]
    by_cases h2 : (m.size : Int) ≤ 16
    · have h := only_all m 65 90 hm k (by omega)
      rw [show ((65 : Nat) : Int) = 65 from rfl, show ((90 : Nat) : Int) = 90 from rfl] at h
      rw [if_pos h2, h, decide_eq_true (show m.data.toList.length ≤ 16 by omega)]
      simp only [Option.bind_some]
      by_cases h3 : (m.data.toList.all fun c => decide (65 ≤ c.toNat) && decide (c.toNat ≤ 90)) = true
      · rw [if_pos h3, h3]
        by_cases h4 : t.data.toList = []
        · rw [if_pos h4, h4]; rfl
        · rw [if_neg h4, show t.data.toList.isEmpty = false from Bool.eq_false_iff.2 fun h => h4 (List.isEmpty_iff.1 h)]
          by_cases h5 : (t.size : Int) ≤ 256
          · have h' := only_all t 33 126 ht k (by omega)
            rw [show ((33 : Nat) : Int) = 33 from rfl, show ((126 : Nat) : Int) = 126 from rfl] at h'
            rw [if_pos h5, h', decide_eq_true (show t.data.toList.length ≤ 256 by omega)]
            simp
          · rw [if_neg h5, decide_eq_false (show ¬ t.data.toList.length ≤ 256 by omega)]
            simp
      · rw [if_neg h3, Bool.eq_false_iff.2 h3]
        simp
    · rw [if_neg h2, decide_eq_false (show ¬ m.data.toList.length ≤ 16 by omega)]
      simp
theorem mk_inj {a b : List UInt8} (h : (⟨a.toArray⟩ : ByteArray) = ⟨b.toArray⟩) : a = b := by
  have := congrArg (fun z : ByteArray => z.data.toList) h
  exact this
theorem row1_f (m t : List UInt8) (h : askedL m t = true) (k : Nat) (hk : 300 ≤ k) : http_ParseRequest_1.f k ⟨(reqL m t).toArray⟩ = some true := by
  obtain ⟨_, _, lm, lt⟩ := asked_spaces h
  have hz : (⟨(reqL m t).toArray⟩ : ByteArray).size < 4294967281 := by rw [size_eq, mk_l]; simp [reqL, http11]; omega
  unfold http_ParseRequest_1.f strings_Split.f
  rw [if_pos ⟨hz, by decide⟩, split_data1 ⟨(reqL m t).toArray⟩ 32 [m, t, http11] (by rw [mk_l]; exact req_split h)]
  simp only [Option.bind_some, List.map_cons, List.map_nil, List.length_cons, List.length_nil]
  rw [if_pos (by rfl), if_pos (by omega), if_pos (by omega)]
  have e0 : rdOf ByteArray.empty [(⟨m.toArray⟩ : ByteArray), ⟨t.toArray⟩, ⟨http11.toArray⟩] 0 = ⟨m.toArray⟩ := rfl
  have e1 : rdOf ByteArray.empty [(⟨m.toArray⟩ : ByteArray), ⟨t.toArray⟩, ⟨http11.toArray⟩] 1 = ⟨t.toArray⟩ := rfl
  have e2 : rdOf ByteArray.empty [(⟨m.toArray⟩ : ByteArray), ⟨t.toArray⟩, ⟨http11.toArray⟩] 2 = ⟨http11.toArray⟩ := rfl
  rw [e0, e1, e2, asked_f _ _ (by rw [size_eq, mk_l]; omega) (by rw [size_eq, mk_l]; omega) k hk, mk_l, mk_l, h]
  simp only [Option.bind_some]
  rw [if_pos trivial, if_pos (by omega), Lib.toList_data]
  rfl
theorem cut_le (l : List UInt8) (sep : List UInt8) : (cut l sep).1.length ≤ l.length ∧ (cut l sep).2.1.length ≤ l.length := by
  unfold cut
  split
  · exact ⟨List.length_take_le' _ _, by rw [List.length_drop]; omega⟩
  · exact ⟨Nat.le_refl _, Nat.zero_le _⟩
theorem trim_le (l : List UInt8) : (trimS l blank).length ≤ l.length := by
  unfold trimS trimLeftS trimRightS
  have h1 := (List.dropWhile_sublist (blank.contains ·) (l := ((l.reverse.dropWhile (blank.contains ·)).reverse))).length_le
  have h2 := (List.dropWhile_sublist (blank.contains ·) (l := l.reverse)).length_le
  simp only [List.length_reverse] at h1 h2
  omega
theorem same_l (a b : List UInt8) (ha : a.length ≤ 281474976710656) (hb : b.length ≤ 281474976710656) : char_Same.f ⟨a.toArray⟩ ⟨b.toArray⟩ = some (lowL a == lowL b) := by
  rw [same_f _ _ (by rw [size_eq, mk_l]; exact ha) (by rw [size_eq, mk_l]; exact hb)]
  rfl
def outF : Option (List (List UInt8 × List UInt8) × Nat) → List S74 × Int × Bool
  | some x => (x.1.map mkS, (x.2 : Int), true)
  | none => ([], 0, false)
theorem rd_rows (rs : List (List UInt8)) (i : Nat) (h : i < rs.length) : rdOf ByteArray.empty (rs.map fun l => (⟨l.toArray⟩ : ByteArray)) (i : Int) = ⟨rs[i].toArray⟩ := by
  simp [rdOf, List.getElem?_eq_getElem h]
theorem fields_loop (rs : List (List UInt8)) (hr : ∀ r ∈ rs, r.length ≤ 8192) (hl : rs.length ≤ 4000000) : ∀ (j k i : Nat) (acc : List (List UInt8 × List UInt8)) (n : Nat) (had : Bool), i + j = rs.length → 2 * j + 8200 ≤ k → acc.length ≤ i →
    http_fields.l0 k (acc.map mkS) (n : Int) had (rs.map fun l => (⟨l.toArray⟩ : ByteArray)) (rs.length : Int) (i : Int) = some (outF (foldV (rs.drop i) acc n had)) := by
  intro j
  induction j with
  | zero =>
    intro k i acc n had hi hk ha
    obtain ⟨k, rfl⟩ : ∃ k', k = k' + 1 := ⟨k - 1, by omega⟩
    rw [http_fields.l0, if_neg (by omega), List.drop_of_length_le (by omega)]
    rfl
  | succ j ih =>
    intro k i acc n had hi hk ha
    obtain ⟨k, rfl⟩ : ∃ k', k = k' + 2 := ⟨k - 2, by omega⟩
    have hlt : i < rs.length := by omega
    have hd := List.drop_eq_getElem_cons hlt
    have hwi : wrap64 ((i : Int) + 1) = ((i + 1 : Nat) : Int) := by unfold wrap64; omega
    obtain ⟨r, hre⟩ : ∃ r, rs[i] = r := ⟨_, rfl⟩
    have hrl := hr rs[i] (List.getElem_mem hlt)
    rw [hre] at hrl hd
    have hc := cut_le r [58]
    obtain ⟨c, hce⟩ : ∃ c, cut r [58] = c := ⟨_, rfl⟩
    rw [hce] at hc
    have htl := trim_le c.2.1
    obtain ⟨v, hv⟩ : ∃ v, trimS c.2.1 blank = v := ⟨_, rfl⟩
    rw [hv] at htl
    have hcut : strings_Cut.f ⟨r.toArray⟩ (⟨#[58]⟩ : ByteArray) = some (⟨c.1.toArray⟩, ⟨c.2.1.toArray⟩, c.2.2) := by
      unfold strings_Cut.f
      rw [if_pos ⟨by rw [size_eq, mk_l]; omega, rfl⟩, mk_l]
      show some ((⟨(cut r [58]).1.toArray⟩ : ByteArray), (⟨(cut r [58]).2.1.toArray⟩ : ByteArray), (cut r [58]).2.2) = _
      rw [hce]
    have htrim : strings_Trim.f ⟨c.2.1.toArray⟩ (⟨#[32, 9]⟩ : ByteArray) = some ⟨v.toArray⟩ := by
      unfold strings_Trim.f
      rw [if_pos ⟨by rw [size_eq, mk_l]; omega, rfl⟩, mk_l]
      show some (⟨(trimS c.2.1 blank).toArray⟩ : ByteArray) = _
      rw [hv]
    have hbad : rowV r = .bad → http_fields.j1 (k + 1) (acc.map mkS) (n : Int) had ⟨c.1.toArray⟩ ⟨v.toArray⟩ (rs.map fun l => (⟨l.toArray⟩ : ByteArray)) (rs.length : Int) (i : Int) true = some (outF (foldV (r :: rs.drop (i + 1)) acc n had)) := by
      intro h
      rw [http_fields.j1, if_pos rfl, foldV, h]
      rfl
    rw [http_fields.l0, if_pos (by omega), if_pos (by omega), if_pos (by rw [List.length_map]; omega), rd_rows rs i hlt, hre, hcut]
    simp only [Option.bind_some]
    rw [htrim, hd]
    simp only [Option.bind_some]
    unfold rowV at hbad
    rw [hce, hv] at hbad
    by_cases h1 : c.2.2 = true
    · rw [if_pos h1]
      unfold http_name.f
      simp only [Option.bind_some]
      by_cases h2 : nameV ⟨c.1.toArray⟩ = true
      · rw [if_pos h2, content_f _ (by rw [size_eq, mk_l]; omega) (k + 1) (by rw [size_eq, mk_l]; omega), mk_l]
        simp only [Option.bind_some]
        by_cases h3 : v.all textC = true
        · rw [if_pos h3, show (⟨#[84, 114, 97, 110, 115, 102, 101, 114, 45, 69, 110, 99, 111, 100, 105, 110, 103]⟩ : ByteArray) = ⟨tencL.toArray⟩ from rfl, same_l _ _ (by omega) (by decide)]
          simp only [Option.bind_some]
          by_cases h4 : lowL c.1 = lowL tencL
          · rw [show (lowL c.1 == lowL tencL) = true from beq_iff_eq.2 h4]
            exact hbad (by rw [if_neg (fun h => h.2.2.2 h4)])
          · have hrow : rowV r = if lowL c.1 = lowL clenL then (if (numV ⟨v.toArray⟩ 65536).2 = true then .len (numV ⟨v.toArray⟩ 65536).1 else .bad) else .fld c.1 v := by
              unfold rowV
              rw [hce, hv, if_pos ⟨h1, h2, h3, h4⟩]
            rw [show (lowL c.1 == lowL tencL) = false from beq_eq_false_iff_ne.2 h4, http_fields.j1, if_neg (by simp), show (⟨#[67, 111, 110, 116, 101, 110, 116, 45, 76, 101, 110, 103, 116, 104]⟩ : ByteArray) = ⟨clenL.toArray⟩ from rfl, same_l _ _ (by omega) (by decide), foldV, hrow]
            simp only [Option.bind_some]
            by_cases h5 : lowL c.1 = lowL clenL
            · have hnum : char_Number.f ⟨v.toArray⟩ 65536 = some (((numV ⟨v.toArray⟩ 65536).1 : Int), (numV ⟨v.toArray⟩ 65536).2) := by
                unfold char_Number.f
                rw [if_pos ⟨by rw [size_eq, mk_l]; omega, by omega, by omega⟩]
                rfl
              rw [if_pos (beq_iff_eq.2 h5), hnum, if_pos h5]
              simp only [Option.bind_some]
              have hle : (numV ⟨v.toArray⟩ 65536).1 ≤ 65536 := by
                rcases numV_o ⟨v.toArray⟩ 65536 (by omega) with ⟨z, h, _, e⟩ | ⟨_, e⟩ <;> rw [e] <;> omega
              generalize numV ⟨v.toArray⟩ 65536 = q at hle ⊢
              obtain ⟨z, b⟩ := q
              simp only at hle ⊢
              cases had with
              | true =>
                rw [if_pos rfl]
                cases b <;> simp [outF]
              | false =>
                rw [if_neg (by simp)]
                cases b with
                | false => simp [outF]
                | true =>
                  have hwz : wrap64 (z : Int) = (z : Int) := by unfold wrap64; omega
                  rw [if_pos rfl, hwz, hwi, ih k (i + 1) acc z true (by omega) (by omega) (by omega)]
                  rfl
            · rw [if_neg (by rw [beq_iff_eq]; exact h5), if_neg h5, if_pos (by rw [List.length_map]; omega), hwi]
              have := ih k (i + 1) (acc ++ [(c.1, v)]) n had (by omega) (by omega) (by simp; omega)
              rw [List.map_append] at this
              exact this
        · rw [if_neg h3]
          exact hbad (by rw [if_neg (fun h => h3 h.2.2.1)])
      · rw [if_neg h2]
        exact hbad (by rw [if_neg (fun h => h2 h.2.1)])
    · rw [if_neg h1]
      exact hbad (by rw [if_neg (fun h => h1 h.1)])
theorem fields_f (rs : List (List UInt8)) (hr : ∀ r ∈ rs, r.length ≤ 8192) (hl : rs.length ≤ 32) (k : Nat) (hk : 8300 ≤ k) :
    http_fields.f k (rs.map fun l => (⟨l.toArray⟩ : ByteArray)) = some (outF (foldV rs [] 0 false)) := by
  have := fields_loop rs hr (by omega) rs.length k 0 [] 0 false (by omega) (by omega) (by simp)
  unfold http_fields.f
  rw [List.length_map, if_neg (by omega)]
  simpa using this
theorem foldV_le : ∀ (rs : List (List UInt8)) (acc : List (List UInt8 × List UInt8)) (n : Nat) (had : Bool) (x : List (List UInt8 × List UInt8) × Nat), n ≤ 65536 → foldV rs acc n had = some x → x.2 ≤ 65536
  | [], acc, n, _, x, hn, h => by
    rw [foldV] at h
    cases h
    exact hn
  | r :: rs, acc, n, had, x, hn, h => by
    rw [foldV] at h
    have hm : ∀ m, rowV r = .len m → m ≤ 65536 := by
      intro m hm
      unfold rowV at hm
      have hle : (numV ⟨(trimS (cut r [58]).2.1 blank).toArray⟩ 65536).1 ≤ 65536 := by
        rcases numV_o ⟨(trimS (cut r [58]).2.1 blank).toArray⟩ 65536 (by omega) with ⟨z, h, _, e⟩ | ⟨_, e⟩ <;> rw [e] <;> omega
      split at hm
      · split at hm
        · split at hm
          · cases hm
            exact hle
          · cases hm
        · cases hm
      · cases hm
    cases hr : rowV r with
    | bad => rw [hr] at h; cases h
    | len m =>
      rw [hr] at h
      simp only at h
      split at h
      · cases h
      · exact foldV_le rs acc m true x (hm m hr) h
    | fld a b =>
      rw [hr] at h
      exact foldV_le rs _ n had x hn h
theorem joinL_le : ∀ (r : List UInt8) (rs : List (List UInt8)) (x : List UInt8), x ∈ r :: rs → x.length ≤ (joinL r rs).length
  | r, [], x, h => by
    rw [joinL]
    rcases List.mem_cons.1 h with rfl | h
    · exact Nat.le_refl _
    · cases h
  | r, r' :: rs, x, h => by
    rw [joinL, List.length_append, List.length_cons, List.length_cons]
    rcases List.mem_cons.1 h with rfl | h
    · omega
    · have := joinL_le r' rs x h
      omega
theorem wrapE (x : Int) (n : Nat) (hx : x = (n : Int)) (h : n ≤ 9223372036854775807) : wrap64 x = (n : Int) := by
  subst hx
  unfold wrap64
  omega
def ansP (r : List UInt8) (J : Nat) (rest : List UInt8) : Option (List (List UInt8 × List UInt8) × Nat) → ByteArray × List S74 × ByteArray × Int × Int
  | none => (⟨#[]⟩, [], ⟨#[]⟩, 0, 80)
  | some x => if rest.length < x.2 then (⟨#[]⟩, [], ⟨#[]⟩, 0, 91) else (⟨r.toArray⟩, x.1.map mkS, ⟨(rest.take x.2).toArray⟩, ((J + 4 + x.2 : Nat) : Int), 0)
theorem parse_go (s : ByteArray) (m t : List UInt8) (rs : List (List UInt8)) (rest : List UInt8) (hs : s.size ≤ 140737488355328) (hd : s.data.toList = joinL (reqL m t) rs ++ (crlf2 ++ rest)) (ha : askedL m t = true)
    (hr : ∀ x ∈ rs, No13 x ∧ x ≠ []) (hJ : (joinL (reqL m t) rs).length + 4 ≤ 8192) (hl : rs.length ≤ 32) (k : Nat) (hk : 8400 ≤ k) :
    http_parse.f k s = some (ansP (reqL m t) (joinL (reqL m t) rs).length rest (foldV rs [] 0 false)) := by
  obtain ⟨k, rfl⟩ : ∃ k', k = k' + 2 := ⟨k - 2, by omega⟩
  have hsz := size_eq s
  have hend := fun rest' => index_end (reqL m t) rs rest' (req_no13 ha) hr
  have hrows := fun s h => rows_data s (reqL m t) rs (req_no13 ha) (fun x hx => (hr x hx).1) h
  have hlens : ∀ r ∈ rs, r.length ≤ 8192 := fun r h => by
    have := joinL_le (reqL m t) rs r (List.mem_cons_of_mem _ h)
    omega
  obtain ⟨JL, hJL⟩ : ∃ JL, joinL (reqL m t) rs = JL := ⟨_, rfl⟩
  rw [hJL] at hd hJ hend hrows ⊢
  obtain ⟨J, hJe⟩ : ∃ J, JL.length = J := ⟨_, rfl⟩
  have hlen : s.data.toList.length = J + 4 + rest.length := by rw [hd, List.length_append, List.length_append, hJe]; show J + (4 + _) = _; omega
  obtain ⟨N, hN⟩ : ∃ N : Nat, N = min s.size 8192 := ⟨_, rfl⟩
  have hmn : mn (s.size : Int) 8192 = (N : Int) := by unfold mn; split <;> omega
  have htk : (s.data.toList.drop 0).take (N - 0) = JL ++ (crlf2 ++ rest.take (N - J - 4)) := by
    rw [List.drop_zero, hd, Nat.sub_zero, List.take_append, List.take_append, List.take_of_length_le (by omega), List.take_of_length_le (by show 4 ≤ _; omega), hJe]
    rfl
  have hidx : strings_Index.f (s.extract 0 N) ⟨#[13, 10, 13, 10]⟩ = some (J : Int) := by
    unfold strings_Index.f
    rw [if_pos ⟨by rw [size_eq, ext_mk, mk_l, List.length_take, List.length_drop]; omega, by decide⟩, ext_mk, htk]
    congr 1
    rw [← hJe]
    exact hend _
  unfold http_parse.f
  rw [hmn]
  clear hmn
  rw [if_pos (by omega), if_pos (by omega), Int.toNat_natCast, hidx]
  simp only [Option.bind_some]
  rw [if_neg (by omega), http_parse.j0, if_neg (by simp), if_neg (by omega), if_pos (by omega), if_pos (by omega), Int.toNat_natCast]
  have hhead : s.extract 0 J = ⟨JL.toArray⟩ := by
    rw [ext_mk, List.drop_zero, Nat.sub_zero, hd, List.take_append, List.take_of_length_le (by omega), hJe, Nat.sub_self, List.take_zero, List.append_nil]
  have hspl : strings_Split.f ⟨JL.toArray⟩ (⟨#[13, 10]⟩ : ByteArray) = some ((reqL m t :: rs).map fun l => (⟨l.toArray⟩ : ByteArray)) := by
    unfold strings_Split.f
    rw [if_pos ⟨by rw [size_eq, mk_l]; omega, by decide⟩, hrows _ rfl]
  rw [hhead, hspl]
  simp only [Option.bind_some]
  have hl1 : (((reqL m t :: rs).map fun l => (⟨l.toArray⟩ : ByteArray)).length : Int) = rs.length + 1 := by simp
  rw [hl1, if_pos (by omega), show ((reqL m t :: rs).map fun l => (⟨l.toArray⟩ : ByteArray)).drop 1 = rs.map fun l => (⟨l.toArray⟩ : ByteArray) from rfl, fields_f rs hlens hl (k + 1) (by omega)]
  simp only [Option.bind_some]
  have hle := foldV_le rs [] 0 false
  cases hF : foldV rs [] 0 false with
  | none =>
    simp only [outF, ansP, Bool.false_eq_true, if_false]
    rw [http_parse.j1, if_pos rfl]
  | some x =>
    obtain ⟨fs, n⟩ := x
    have hn : n ≤ 65536 := hle (fs, n) (Nat.zero_le _) hF
    clear hle
    simp only [outF]
    have h0 : rdOf ByteArray.empty ((reqL m t :: rs).map fun l => (⟨l.toArray⟩ : ByteArray)) 0 = ⟨(reqL m t).toArray⟩ := rfl
    rw [if_pos trivial, if_pos (by omega), h0, row1_f m t ha (k + 1) (by omega), Option.bind_some, http_parse.j1, if_neg (by simp), wrapE ((J : Int) + 4) (J + 4) (by omega) (by omega), wrapE ((s.size : Int) - ((J + 4 : Nat) : Int)) rest.length (by omega) (by omega), wrapE (((J + 4 : Nat) : Int) + (n : Int)) (J + 4 + n) (by omega) (by omega), hl1, h0]
    by_cases h : rest.length < n
    · rw [if_pos (by omega)]
      exact congrArg some (if_pos h).symm
    · refine Eq.trans ?_ (congrArg some (if_neg h).symm)
      rw [if_neg (by omega), if_pos (by omega), if_pos (by omega), if_pos (by omega), if_pos (by omega), Int.toNat_natCast, Int.toNat_natCast, ext_mk]
      have e : s.data.toList.drop (J + 4) = rest := by
        rw [hd, ← List.append_assoc]
        exact List.drop_left' (by rw [List.length_append, hJe]; rfl)
      rw [e, Nat.add_sub_cancel_left, hJe]
def ansR (m t : List UInt8) (J : Nat) (rest : List UInt8) : Option (List (List UInt8 × List UInt8) × Nat) → ByteArray × ByteArray × List S74 × ByteArray × Int × Int
  | none => (⟨#[]⟩, ⟨#[]⟩, [], ⟨#[]⟩, 0, 80)
  | some x => if rest.length < x.2 then (⟨#[]⟩, ⟨#[]⟩, [], ⟨#[]⟩, 0, 91) else (⟨m.toArray⟩, ⟨t.toArray⟩, x.1.map mkS, ⟨(rest.take x.2).toArray⟩, ((J + 4 + x.2 : Nat) : Int), 0)
theorem request_go (s : ByteArray) (m t : List UInt8) (rs : List (List UInt8)) (rest : List UInt8) (hs : s.size ≤ 140737488355328) (hd : s.data.toList = joinL (reqL m t) rs ++ (crlf2 ++ rest)) (ha : askedL m t = true)
    (hr : ∀ x ∈ rs, No13 x ∧ x ≠ []) (hJ : (joinL (reqL m t) rs).length + 4 ≤ 8192) (hl : rs.length ≤ 32) (k : Nat) (hk : 8400 ≤ k) :
    http_ParseRequest.f k s = some (ansR m t (joinL (reqL m t) rs).length rest (foldV rs [] 0 false)) := by
  unfold http_ParseRequest.f
  rw [parse_go s m t rs rest hs hd ha hr hJ hl k hk]
  simp only [Option.bind_some]
  cases foldV rs [] 0 false with
  | none => rfl
  | some x =>
    by_cases h : rest.length < x.2
    · rw [show ansP (reqL m t) (joinL (reqL m t) rs).length rest (some x) = (⟨#[]⟩, [], ⟨#[]⟩, 0, 91) from if_pos h, show ansR m t (joinL (reqL m t) rs).length rest (some x) = (⟨#[]⟩, ⟨#[]⟩, [], ⟨#[]⟩, 0, 91) from if_pos h]
      rfl
    · obtain ⟨_, _, lm, lt⟩ := asked_spaces ha
      have hspl : strings_Split.f ⟨(reqL m t).toArray⟩ (⟨#[32]⟩ : ByteArray) = some ([m, t, http11].map fun l => (⟨l.toArray⟩ : ByteArray)) := by
        unfold strings_Split.f
        rw [if_pos ⟨by rw [size_eq, mk_l]; simp [reqL, http11]; omega, by decide⟩, split_data1 ⟨(reqL m t).toArray⟩ 32 [m, t, http11] (by rw [mk_l]; exact req_split ha)]
      obtain ⟨J, hJ⟩ : ∃ J, (joinL (reqL m t) rs).length = J := ⟨_, rfl⟩
      rw [hJ, show ansP (reqL m t) J rest (some x) = (⟨(reqL m t).toArray⟩, x.1.map mkS, ⟨(rest.take x.2).toArray⟩, ((J + 4 + x.2 : Nat) : Int), 0) from if_neg h,
        show ansR m t J rest (some x) = (⟨m.toArray⟩, ⟨t.toArray⟩, x.1.map mkS, ⟨(rest.take x.2).toArray⟩, ((J + 4 + x.2 : Nat) : Int), 0) from if_neg h]
      simp only [if_true]
      rw [hspl]
      rfl
theorem request_short (s : ByteArray) (hs : s.size < 8192) (hi : index s.data.toList crlf2 = -1) (k : Nat) (hk : 2 ≤ k) :
    http_ParseRequest.f k s = some (⟨#[]⟩, ⟨#[]⟩, [], ⟨#[]⟩, 0, 91) := by
  obtain ⟨k, rfl⟩ : ∃ k', k = k' + 2 := ⟨k - 2, by omega⟩
  have hsz := size_eq s
  have hmn : mn (s.size : Int) 8192 = (s.size : Int) := by unfold mn; split <;> omega
  have hidx : strings_Index.f (s.extract 0 s.size) ⟨#[13, 10, 13, 10]⟩ = some (-1 : Int) := by
    unfold strings_Index.f
    rw [ext_mk, List.drop_zero, Nat.sub_zero, hsz, List.take_length, if_pos ⟨by rw [size_eq, mk_l]; omega, by decide⟩]
    congr 1
  unfold http_ParseRequest.f http_parse.f
  rw [hmn]
  clear hmn
  rw [if_pos (by omega), if_pos (by omega), Int.toNat_natCast, hidx]
  simp only [Option.bind_some]
  rw [if_pos (by omega), http_parse.j0, if_pos (by rw [decide_eq_true_eq]; omega)]
  rfl
/-! ### Rows of fields -/
theorem index_col (x y : List UInt8) (h : ∀ c ∈ x, c ≠ 58) : indexByte (x ++ 58 :: y) 58 = x.length := by
  induction x with
  | nil => rfl
  | cons c x ih =>
    have hne := h c List.mem_cons_self
    have := ih fun z hz => h z (List.mem_cons_of_mem _ hz)
    rw [List.cons_append, indexByte]
    simp only [this]
    simp [hne]
theorem cut_col (x y : List UInt8) (h : ∀ c ∈ x, c ≠ 58) : cut (x ++ 58 :: y) [58] = (x, y, true) := by
  unfold cut
  rw [index_one, index_col x y h, if_pos (by omega)]
  simp
theorem dec_text (n : Nat) : ∀ c ∈ decDigits n, textC c = true ∧ blank.contains c = false ∧ c ≠ 13 := by
  intro c hc
  have h := dec_dig n c hc
  unfold isDig at h
  have hh : ∀ c : UInt8, ((!(decide (48 ≤ c.toNat) && decide (c.toNat ≤ 57))) || (textC c && !blank.contains c && c != 13)) = true := byte_all (p := fun c => (!(decide (48 ≤ c.toNat) && decide (c.toNat ≤ 57))) || (textC c && !blank.contains c && c != 13)) (by decide +kernel)
  have h1 := hh c
  have h2 : (decide (48 ≤ c.toNat) && decide (c.toNat ≤ 57)) = true := by
    rw [Bool.and_eq_true, decide_eq_true_eq, decide_eq_true_eq]
    exact h
  rw [h2] at h1
  simp only [Bool.not_true, Bool.false_or, Bool.and_eq_true, Bool.not_eq_true', bne_iff_ne] at h1
  exact ⟨h1.1.1, h1.1.2, h1.2⟩
def clenR (n : Nat) : List UInt8 := clenL ++ 58 :: 32 :: decDigits n
theorem clen_name : nameV ⟨clenL.toArray⟩ = true := (nameV_iff _).2 (by rw [mk_l]; decide +kernel)
theorem clen_row (n : Nat) (hn : n < 18446744073709551616) : rowV (clenR n) = if n ≤ 65536 then .len n else .bad := by
  have ht : trimS (32 :: decDigits n) blank = decDigits n := by
    rw [trim_cons rfl]
    exact trim_id (fun c h => (dec_text n c (List.mem_of_mem_head? h)).2.1) (fun c h => (dec_text n c (List.mem_of_getLast? h)).2.1)
  unfold rowV clenR
  rw [cut_col clenL _ (by decide)]
  simp only
  rw [ht, if_pos ⟨trivial, clen_name, List.all_eq_true.2 fun c h => (dec_text n c h).1, by decide⟩, if_pos trivial, numV_dec n 65536 (by omega)]
  by_cases h : n ≤ 65536
  · rw [if_pos h, if_pos h, if_pos rfl]
  · rw [if_neg h, if_neg h, if_neg (by simp)]
theorem clen_13 (n : Nat) : No13 (clenR n) ∧ clenR n ≠ [] := by
  refine ⟨?_, by simp [clenR, clenL]⟩
  intro c hc
  unfold clenR at hc
  rcases List.mem_append.1 hc with hc | hc
  · exact (show ∀ c ∈ clenL, c ≠ 13 by decide) c hc
  · rcases List.mem_cons.1 hc with rfl | hc
    · decide
    · rcases List.mem_cons.1 hc with rfl | hc
      · decide
      · exact (dec_text n c hc).2.2
theorem refDec (x : ByteArray) : ∀ (n k : Nat), n < 18446744073709551616 → nDigits n ≤ k → x.size + nDigits n ≤ 1000 →
    calepinref01_Decimal.l0 k (n : Int) x = some ⟨(decDigits n ++ x.data.toList).toArray⟩ := by
  intro n
  induction n using Nat.strongRecOn generalizing x with
  | _ n ih =>
    intro k hn hk hx
    have hnp := nDigits_pos n
    obtain ⟨k, rfl⟩ : ∃ k', k = k' + 1 := ⟨k - 1, by omega⟩
    have hmod : (IntKind.u64.wrap (48 + (Int.tmod (n : Int) 10))) % 256 = ((48 + n % 10 : Nat) : Int) := by
      rw [IntKind.wrap_u64, Int.tmod_eq_emod_of_nonneg (by omega)]; omega
    have hdiv : IntKind.u64.wrap (Int.tdiv (n : Int) 10) = ((n / 10 : Nat) : Int) := by
      rw [IntKind.wrap_u64, Int.tdiv_eq_ediv_of_nonneg (by omega)]; omega
    have hone : strOfNums [((48 + n % 10 : Nat) : Int)] ++ x = ⟨([UInt8.ofNat (48 + n % 10)] ++ x.data.toList).toArray⟩ := by
      apply ByteArray.ext
      apply Array.toList_inj.1
      simp only [ByteArray.data_append, Array.toList_append, strOfNums_data, List.map_cons, List.map_nil, Int.toNat_natCast]
    rw [calepinref01_Decimal.l0]
    simp only [Option.bind_some]
    rw [hmod, hdiv, hone, if_pos (by rw [strOfNums_size]; simp; omega)]
    by_cases h : n < 10
    · rw [if_pos (by omega), decDigits_one h, show n % 10 = n by omega]
    · rw [if_neg (by omega), ih (n / 10) (by omega) _ k (by omega) (by rw [nDigits_big h] at hk; omega) (by rw [nDigits_big h] at hx; rw [size_eq]; show ([_] ++ x.data.toList).length + _ ≤ _; rw [List.length_append, List.length_singleton, ← size_eq]; omega)]
      conv => rhs; rw [decDigits, dif_neg h]
      rw [List.append_assoc]
theorem dec_r (k n : Nat) (hk : 200 ≤ k) (h : n < 18446744073709551616) : calepinref01_Decimal.f k (n : Int) = some ⟨(decDigits n).toArray⟩ := by
  have hle := dec_len n h
  rw [decDigits_length] at hle
  have := refDec ⟨#[]⟩ n k h (by omega) (by show 0 + nDigits n ≤ 1000; omega)
  simpa [calepinref01_Decimal.f] using this
theorem app_l (a b : List UInt8) : (⟨a.toArray⟩ : ByteArray) ++ (⟨b.toArray⟩ : ByteArray) = ⟨(a ++ b).toArray⟩ := by
  apply ByteArray.ext
  apply Array.toList_inj.1
  simp [ByteArray.data_append]
theorem size_l (l : List UInt8) : (⟨l.toArray⟩ : ByteArray).size = l.length := by rw [size_eq, mk_l]
theorem wrap_u (n : Nat) (h : n < 18446744073709551616) : IntKind.u64.wrap (n : Int) = (n : Int) := by rw [IntKind.wrap_u64]; omega
def goodF (x : S74) : Bool := nameV x.f0 && (x.f1.data.toList.all textC && (decide (trimS x.f1.data.toList blank = x.f1.data.toList) && (!(lowL x.f0.data.toList == lowL clenL) && !(lowL x.f0.data.toList == lowL tencL))))
def rowF (x : S74) : List UInt8 := x.f0.data.toList ++ 58 :: 32 :: x.f1.data.toList
def rowsF (l : List S74) : List UInt8 := l.flatMap fun x => rowF x ++ [13, 10]
def endF (h : List UInt8) (b : ByteArray) : ByteArray × Int :=
  if 65536 < b.size then (⟨#[]⟩, 11) else if 8192 < (h ++ (clenR b.size ++ crlf2)).length then (⟨#[]⟩, 11) else (⟨(h ++ (clenR b.size ++ (crlf2 ++ b.data.toList))).toArray⟩, 0)
theorem rd_at (l : List S74) (i : Nat) (h : i < l.length) : rd_T74 l (i : Int) = l[i] := by simp [rd_T74, List.getElem?_eq_getElem h]
theorem clenR_len (n : Nat) (h : n < 18446744073709551616) : (clenR n).length ≤ 36 := by
  have := dec_len n h
  simp only [clenR, clenL, List.length_append, List.length_cons, List.length_nil]
  omega
theorem end_go (k : Nat) (a : List UInt8) (l : List S74) (h b : ByteArray) (hb : b.size ≤ 140737488351232) (ha : a.length ≤ 9007199254741992) (i : Nat) (hi : i = l.length) :
    http_printed.l0 (k + 1) ⟨a.toArray⟩ l (l.length : Int) (i : Int) h l b = some (endF a b) := by
  have hdec : char_Decimal.f (b.size : Int) = some ⟨(decDigits b.size).toArray⟩ := by
    unfold char_Decimal.f
    rw [if_pos ⟨by omega, by omega⟩, Int.toNat_natCast]
  have hdl := dec_len b.size (by omega)
  have hcl := clenR_len b.size (by omega)
  have hE : (((⟨#[67, 111, 110, 116, 101, 110, 116, 45, 76, 101, 110, 103, 116, 104, 58, 32]⟩ : ByteArray) ++ (⟨(decDigits b.size).toArray⟩ : ByteArray)) ++ (⟨#[13, 10]⟩ : ByteArray)) ++ (⟨#[13, 10]⟩ : ByteArray) = ⟨(clenR b.size ++ crlf2).toArray⟩ := by
    rw [app_l, app_l, app_l]
    simp [clenR, clenL, crlf2]
  have hEl : (clenR b.size ++ crlf2).length = (clenR b.size).length + 4 := by rw [List.length_append]; rfl
  have hds : (⟨(decDigits b.size).toArray⟩ : ByteArray).size = (decDigits b.size).length := size_l _
  have hcs : (⟨#[67, 111, 110, 116, 101, 110, 116, 45, 76, 101, 110, 103, 116, 104, 58, 32]⟩ : ByteArray).size = 16 := rfl
  have h2s : (⟨#[13, 10]⟩ : ByteArray).size = 2 := rfl
  have has : (⟨a.toArray⟩ : ByteArray).size = a.length := size_l _
  have hes : (⟨(clenR b.size ++ crlf2).toArray⟩ : ByteArray).size = (clenR b.size ++ crlf2).length := size_l _
  rw [http_printed.l0, if_neg (by omega), wrap_u _ (by omega), hdec, Option.bind_some, if_pos (by rw [hds]; omega), if_pos (by rw [ByteArray.size_append, hcs, hds]; omega),
    if_pos (by rw [ByteArray.size_append, ByteArray.size_append, hcs, hds, h2s]; omega), hE, if_pos (by rw [has, hes, hEl]; omega), app_l]
  unfold endF
  by_cases h1 : 65536 < b.size
  · rw [if_pos (by omega), if_pos h1]
  · rw [if_neg (by omega), if_neg h1, size_l (a ++ (clenR b.size ++ crlf2))]
    by_cases h2 : 8192 < (a ++ (clenR b.size ++ crlf2)).length
    · rw [if_pos (by omega), if_pos h2]
    · have hbl : (⟨(a ++ (clenR b.size ++ crlf2)).toArray⟩ : ByteArray) ++ b = ⟨(a ++ (clenR b.size ++ (crlf2 ++ b.data.toList))).toArray⟩ := by
        conv => lhs; rw [← Lib.mk_data b, app_l]
        simp only [List.append_assoc]
      rw [if_neg (by omega), if_neg h2, if_pos (by omega), hbl]
theorem printed_loop (l : List S74) (h b : ByteArray) (hb : b.size ≤ 140737488351232) (M : Nat) (hM : M ≤ 140737488351232) (hx : ∀ x ∈ l, x.f0.size ≤ M ∧ x.f1.size ≤ M) (hl : l.length < 32) : ∀ (j k i : Nat) (a : List UInt8), i + j = l.length → j + M + 2 ≤ k → a.length ≤ 1000 + i * 281474976710656 →
    http_printed.l0 k ⟨a.toArray⟩ l (l.length : Int) (i : Int) h l b = some (if (l.drop i).all goodF = true then endF (a ++ rowsF (l.drop i)) b else (⟨#[]⟩, 80)) := by
  intro j
  induction j with
  | zero =>
    intro k i a hi hk ha
    obtain ⟨k, rfl⟩ : ∃ k', k = k' + 1 := ⟨k - 1, by omega⟩
    rw [end_go k a l h b hb (by omega) i (by omega), List.drop_of_length_le (by omega)]
    simp [rowsF]
  | succ j ih =>
    intro k i a hi hk ha
    obtain ⟨k, rfl⟩ : ∃ k', k = k' + 1 := ⟨k - 1, by omega⟩
    have hlt : i < l.length := by omega
    have hd := List.drop_eq_getElem_cons hlt
    have hz := hx l[i] (List.getElem_mem hlt)
    obtain ⟨x, hxe⟩ : ∃ x, l[i] = x := ⟨_, rfl⟩
    rw [hxe] at hd hz
    obtain ⟨hz0, hz1⟩ := hz
    have hbad : goodF x = false → some ((⟨#[]⟩ : ByteArray), (80 : Int)) = some (if (x :: l.drop (i + 1)).all goodF = true then endF (a ++ rowsF (x :: l.drop (i + 1))) b else (⟨#[]⟩, 80)) := fun h => by
      rw [List.all_cons, h, Bool.false_and, if_neg (by simp)]
    have hsame : ∀ c : List UInt8, c.length ≤ 100 → char_Same.f x.f0 ⟨c.toArray⟩ = some (lowL x.f0.data.toList == lowL c) := fun c hc => by
      rw [same_f _ _ (by omega) (by rw [size_l]; omega)]
      rfl
    rw [http_printed.l0, if_pos (by omega), if_pos (by omega), if_pos (by omega), rd_at l i hlt, hxe, hd]
    unfold http_name.f
    rw [Option.bind_some]
    by_cases h1 : nameV x.f0 = true
    · rw [if_pos h1, content_f _ (by omega) k (by omega), Option.bind_some]
      by_cases h2 : x.f1.data.toList.all textC = true
      · have htrim : strings_Trim.f x.f1 (⟨#[32, 9]⟩ : ByteArray) = some ⟨(trimS x.f1.data.toList blank).toArray⟩ := by
          unfold strings_Trim.f
          rw [if_pos ⟨by omega, rfl⟩]
          rfl
        rw [if_pos h2, htrim, Option.bind_some, Lib.toList_data, Lib.toList_data, mk_l]
        by_cases h3 : trimS x.f1.data.toList blank = x.f1.data.toList
        · rw [if_pos h3, show (⟨#[67, 111, 110, 116, 101, 110, 116, 45, 76, 101, 110, 103, 116, 104]⟩ : ByteArray) = ⟨clenL.toArray⟩ from rfl, hsame clenL (by decide), Option.bind_some]
          by_cases h4 : (lowL x.f0.data.toList == lowL clenL) = true
          · rw [if_pos h4]
            exact hbad (by unfold goodF; rw [h4]; simp)
          · rw [if_neg h4, show (⟨#[84, 114, 97, 110, 115, 102, 101, 114, 45, 69, 110, 99, 111, 100, 105, 110, 103]⟩ : ByteArray) = ⟨tencL.toArray⟩ from rfl, hsame tencL (by decide), Option.bind_some]
            by_cases h5 : (lowL x.f0.data.toList == lowL tencL) = true
            · rw [if_pos h5]
              exact hbad (by unfold goodF; rw [h5]; simp)
            · have hg : goodF x = true := by
                unfold goodF
                rw [h1, h2, decide_eq_true h3, Bool.eq_false_iff.2 h4, Bool.eq_false_iff.2 h5]
                rfl
              have hR : ((x.f0 ++ (⟨#[58, 32]⟩ : ByteArray)) ++ x.f1) ++ (⟨#[13, 10]⟩ : ByteArray) = ⟨(rowF x ++ [13, 10]).toArray⟩ := by
                apply ByteArray.ext
                apply Array.toList_inj.1
                simp [ByteArray.data_append, rowF]
              have hRl : (rowF x ++ [13, 10]).length = x.f0.size + x.f1.size + 4 := by
                rw [size_eq x.f0, size_eq x.f1]
                simp only [rowF, List.length_append, List.length_cons, List.length_nil]
                omega
              have hih := ih k (i + 1) (a ++ (rowF x ++ [13, 10])) (by omega) (by omega) (by rw [List.length_append, hRl]; omega)
              have h58 : (⟨#[58, 32]⟩ : ByteArray).size = 2 := rfl
              have has : (⟨a.toArray⟩ : ByteArray).size = a.length := size_l _
              have hrs : (⟨(rowF x ++ [13, 10]).toArray⟩ : ByteArray).size = (rowF x ++ [13, 10]).length := size_l _
              rw [if_neg h5, if_pos (by omega), if_pos (by rw [ByteArray.size_append, h58]; omega), if_pos (by rw [ByteArray.size_append, ByteArray.size_append, h58]; omega), hR,
                if_pos (by rw [has, hrs, hRl]; omega), app_l, wrapE ((i : Int) + 1) (i + 1) (by omega) (by omega), hih, List.all_cons, hg, Bool.true_and]
              simp only [rowsF, List.flatMap_cons, List.append_assoc]
        · rw [if_neg h3]
          exact hbad (by unfold goodF; rw [decide_eq_false h3]; simp)
      · rw [if_neg h2]
        exact hbad (by unfold goodF; rw [Bool.eq_false_iff.2 h2]; simp)
    · rw [if_neg h1]
      exact hbad (by unfold goodF; rw [Bool.eq_false_iff.2 h1]; rfl)
theorem joinF (c : List UInt8) : ∀ (l : List S74) (r : List UInt8), joinL r (l.map rowF ++ [c]) = r ++ 13 :: 10 :: (rowsF l ++ c)
  | [], r => by simp [joinL, rowsF]
  | x :: l, r => by
    have := joinF c l (rowF x)
    rw [List.map_cons, List.cons_append, joinL, this]
    simp [rowsF]
theorem printReq_ok (m t b : ByteArray) (l : List S74) (M : Nat) (hM : M ≤ 140737488351232) (hm : m.size ≤ M) (ht : t.size ≤ M) (hb : b.size ≤ M) (hx : ∀ x ∈ l, x.f0.size ≤ M ∧ x.f1.size ≤ M) (k : Nat) (hk : M + 400 ≤ k) :
    ∃ x c, http_PrintRequest.f k m t l b = some (x, c) ∧ (c = 0 → askedL m.data.toList t.data.toList = true ∧ l.length < 32 ∧ l.all goodF = true ∧ b.size ≤ 65536 ∧
      (joinL (reqL m.data.toList t.data.toList) (l.map rowF ++ [clenR b.size])).length + 4 ≤ 8192 ∧ x.data.toList = joinL (reqL m.data.toList t.data.toList) (l.map rowF ++ [clenR b.size]) ++ (crlf2 ++ b.data.toList)) := by
  unfold http_PrintRequest.f
  rw [asked_f m t (by omega) (by omega) k (by omega), Option.bind_some]
  by_cases h1 : askedL m.data.toList t.data.toList = true
  · obtain ⟨_, _, lm, lt⟩ := asked_spaces h1
    have zm := size_eq m
    have zt := size_eq t
    have hR : (((m ++ (⟨#[32]⟩ : ByteArray)) ++ t) ++ (⟨#[32]⟩ : ByteArray)) ++ (⟨#[72, 84, 84, 80, 47, 49, 46, 49]⟩ : ByteArray) = ⟨(reqL m.data.toList t.data.toList).toArray⟩ := by
      apply ByteArray.ext
      apply Array.toList_inj.1
      simp [ByteArray.data_append, reqL, http11]
    have hrl : (reqL m.data.toList t.data.toList).length ≤ 300 := by
      simp only [reqL, http11, List.length_append, List.length_cons, List.length_nil]
      omega
    have h32 : (⟨#[32]⟩ : ByteArray).size = 1 := rfl
    rw [if_pos h1, if_pos (by omega), if_pos (by rw [ByteArray.size_append, h32]; omega), if_pos (by rw [ByteArray.size_append, ByteArray.size_append, h32]; omega),
      if_pos (by rw [ByteArray.size_append, ByteArray.size_append, ByteArray.size_append, h32]; omega), hR]
    unfold http_printed.f
    by_cases h2 : l.length < 32
    · have hlp := printed_loop l ⟨(reqL m.data.toList t.data.toList).toArray⟩ b (by omega) M hM hx h2 l.length k 0 (reqL m.data.toList t.data.toList ++ [13, 10]) (by omega) (by omega) (by rw [List.length_append]; simp only [List.length_cons, List.length_nil]; omega)
      rw [Int.natCast_zero, List.drop_zero] at hlp
      rw [if_neg (by omega), if_pos (by rw [size_l]; omega), app_l, hlp, Option.bind_some]
      by_cases h3 : l.all goodF = true
      · rw [if_pos h3]
        have hj := joinF (clenR b.size) l (reqL m.data.toList t.data.toList)
        refine ⟨_, _, rfl, ?_⟩
        intro hc
        unfold endF at hc
        by_cases h4 : 65536 < b.size
        · rw [if_pos h4] at hc
          exact absurd hc (by decide)
        · rw [if_neg h4] at hc
          by_cases h5 : 8192 < (reqL m.data.toList t.data.toList ++ [13, 10] ++ rowsF l ++ (clenR b.size ++ crlf2)).length
          · rw [if_pos h5] at hc
            exact absurd hc (by decide)
          · have hlen : (joinL (reqL m.data.toList t.data.toList) (l.map rowF ++ [clenR b.size])).length + 4 ≤ 8192 := by
              rw [hj]
              simp only [List.length_append, List.length_cons, List.length_nil, crlf2] at h5 ⊢
              omega
            refine ⟨h1, h2, h3, by omega, hlen, ?_⟩
            unfold endF
            rw [if_neg h4, if_neg h5, mk_l, hj]
            simp only [List.append_assoc, List.cons_append, List.nil_append]
      · rw [if_neg h3]
        exact ⟨_, _, rfl, fun h => absurd h (by decide)⟩
    · rw [if_pos (by omega), Option.bind_some]
      exact ⟨_, _, rfl, fun h => absurd h (by decide)⟩
  · rw [if_neg h1]
    exact ⟨_, _, rfl, fun h => absurd h (by decide)⟩
theorem good_parts {x : S74} (h : goodF x = true) : nameV x.f0 = true ∧ x.f1.data.toList.all textC = true ∧ trimS x.f1.data.toList blank = x.f1.data.toList ∧ lowL x.f0.data.toList ≠ lowL clenL ∧ lowL x.f0.data.toList ≠ lowL tencL := by
  unfold goodF at h
  simp only [Bool.and_eq_true, decide_eq_true_eq, Bool.not_eq_true', beq_eq_false_iff_ne] at h
  exact ⟨h.1, h.2.1, h.2.2.1, h.2.2.2.1, h.2.2.2.2⟩
theorem good_row {x : S74} (h : goodF x = true) : rowV (rowF x) = .fld x.f0.data.toList x.f1.data.toList ∧ No13 (rowF x) ∧ rowF x ≠ [] := by
  obtain ⟨h1, h2, h3, h4, h5⟩ := good_parts h
  have hn := ((nameV_iff _).1 h1).2.2
  have hc := cut_col x.f0.data.toList (32 :: x.f1.data.toList) fun c hc => (nameC_ne (hn c hc)).1
  refine ⟨?_, ?_, by simp [rowF]⟩
  · unfold rowV rowF
    rw [hc]
    simp only
    rw [trim_cons rfl, h3, if_pos ⟨trivial, by rw [show (⟨x.f0.data.toList.toArray⟩ : ByteArray) = x.f0 from Lib.mk_data _]; exact h1, h2, h5⟩, if_neg h4]
  · intro c hm
    unfold rowF at hm
    rcases List.mem_append.1 hm with hm | hm
    · exact (nameC_ne (hn c hm)).2.1
    · rcases List.mem_cons.1 hm with rfl | hm
      · decide
      · rcases List.mem_cons.1 hm with rfl | hm
        · decide
        · exact (textC_ne (List.all_eq_true.1 h2 c hm)).1
def prS (x : S74) : List UInt8 × List UInt8 := (x.f0.data.toList, x.f1.data.toList)
theorem fold_good (n : Nat) (hn : n ≤ 65536) : ∀ (l : List S74) (acc : List (List UInt8 × List UInt8)), l.all goodF = true → foldV (l.map rowF ++ [clenR n]) acc 0 false = some (acc ++ l.map prS, n)
  | [], acc, _ => by
    rw [List.map_nil, List.nil_append, foldV, clen_row n (by omega), if_pos hn]
    simp [foldV]
  | x :: l, acc, h => by
    rw [List.all_cons, Bool.and_eq_true] at h
    rw [List.map_cons, List.cons_append, foldV, (good_row h.1).1]
    simp only
    rw [fold_good n hn l _ h.2]
    simp [prS]
theorem rows_good (n : Nat) (l : List S74) (h : l.all goodF = true) : ∀ x ∈ l.map rowF ++ [clenR n], No13 x ∧ x ≠ [] := by
  intro x hx
  rcases List.mem_append.1 hx with hx | hx
  · obtain ⟨y, hy, rfl⟩ := List.mem_map.1 hx
    exact (good_row (List.all_eq_true.1 h y hy)).2
  · rw [List.mem_singleton.1 hx]
    exact clen_13 n
def padC (z : Int) : UInt8 := if Int.tmod z 2 = 0 then 32 else 9
def padL (l2 : List Int) : List UInt8 := l2.map padC
def fieldR (p : List UInt8) (x : S74) : List UInt8 := x.f0.data.toList ++ 58 :: (p ++ (x.f1.data.toList ++ [32]))
def clowL : List UInt8 := [99, 111, 110, 116, 101, 110, 116, 45, 76, 69, 78, 71, 84, 72]
def clowR (n : Nat) : List UInt8 := clowL ++ 58 :: decDigits n
def rowsX (p : List UInt8) (q n : Nat) : Nat → List S74 → List (List UInt8)
  | i, [] => if i = q then [clowR n] else []
  | i, x :: l => (if i = q then [clowR n] else []) ++ fieldR p x :: rowsX p q n (i + 1) l
def linesX (rs : List (List UInt8)) : List UInt8 := rs.flatMap fun r => r ++ [13, 10]
theorem join_lines : ∀ (rs : List (List UInt8)) (r : List UInt8), joinL r rs ++ [13, 10] = r ++ 13 :: 10 :: linesX rs
  | [], r => by simp [joinL, linesX]
  | x :: rs, r => by
    have := join_lines rs x
    rw [joinL, List.append_assoc, List.cons_append, List.cons_append, this]
    simp [linesX]
theorem trim_pad : ∀ (p v : List UInt8), (∀ c ∈ p, blank.contains c = true) → trimS (p ++ v) blank = trimS v blank
  | [], _, _ => rfl
  | c :: p, v, h => by
    rw [List.cons_append, trim_cons (h c List.mem_cons_self)]
    exact trim_pad p v fun z hz => h z (List.mem_cons_of_mem _ hz)
theorem padL_blank (l2 : List Int) : ∀ c ∈ padL l2, blank.contains c = true ∧ c ≠ 13 := by
  intro c hc
  obtain ⟨z, _, rfl⟩ := List.mem_map.1 hc
  unfold padC
  split
  · exact ⟨by decide, by decide⟩
  · exact ⟨by decide, by decide⟩
theorem field_row (l2 : List Int) {x : S74} (h : goodF x = true) : rowV (fieldR (padL l2) x) = .fld x.f0.data.toList x.f1.data.toList ∧ No13 (fieldR (padL l2) x) ∧ fieldR (padL l2) x ≠ [] := by
  obtain ⟨h1, h2, h3, h4, h5⟩ := good_parts h
  have hn := ((nameV_iff _).1 h1).2.2
  have hc := cut_col x.f0.data.toList (padL l2 ++ (x.f1.data.toList ++ [32])) fun c hc => (nameC_ne (hn c hc)).1
  have ht : trimS (padL l2 ++ (x.f1.data.toList ++ [32])) blank = x.f1.data.toList := by
    rw [trim_pad _ _ fun c hc => (padL_blank l2 c hc).1, trim_snoc rfl, h3]
  refine ⟨?_, ?_, by simp [fieldR]⟩
  · unfold rowV fieldR
    rw [hc]
    simp only
    rw [ht, if_pos ⟨trivial, by rw [show (⟨x.f0.data.toList.toArray⟩ : ByteArray) = x.f0 from Lib.mk_data _]; exact h1, h2, h5⟩, if_neg h4]
  · intro c hm
    unfold fieldR at hm
    rcases List.mem_append.1 hm with hm | hm
    · exact (nameC_ne (hn c hm)).2.1
    · rcases List.mem_cons.1 hm with rfl | hm
      · decide
      · rcases List.mem_append.1 hm with hm | hm
        · exact (padL_blank l2 c hm).2
        · rcases List.mem_append.1 hm with hm | hm
          · exact (textC_ne (List.all_eq_true.1 h2 c hm)).1
          · rw [List.mem_singleton.1 hm]; decide
theorem clow_row (n : Nat) (hn : n ≤ 65536) : rowV (clowR n) = .len n ∧ No13 (clowR n) ∧ clowR n ≠ [] := by
  have ht : trimS (decDigits n) blank = decDigits n := trim_id (fun c h => (dec_text n c (List.mem_of_mem_head? h)).2.1) (fun c h => (dec_text n c (List.mem_of_getLast? h)).2.1)
  refine ⟨?_, ?_, by simp [clowR, clowL]⟩
  · unfold rowV clowR
    rw [cut_col clowL _ (by decide)]
    simp only
    rw [ht, if_pos ⟨trivial, (nameV_iff _).2 (by rw [mk_l]; decide +kernel), List.all_eq_true.2 fun c h => (dec_text n c h).1, by decide⟩, if_pos (by decide), numV_dec n 65536 (by omega), if_pos hn, if_pos rfl]
  · intro c hc
    unfold clowR at hc
    rcases List.mem_append.1 hc with hc | hc
    · exact (show ∀ c ∈ clowL, c ≠ 13 by decide) c hc
    · rcases List.mem_cons.1 hc with rfl | hc
      · decide
      · exact (dec_text n c hc).2.2
theorem fold_X1 (l2 : List Int) (q n n0 : Nat) : ∀ (l : List S74) (i : Nat) (acc : List (List UInt8 × List UInt8)), q < i → l.all goodF = true → foldV (rowsX (padL l2) q n i l) acc n0 true = some (acc ++ l.map prS, n0)
  | [], i, acc, hq, _ => by
    rw [rowsX, if_neg (by omega), foldV]
    simp
  | x :: l, i, acc, hq, h => by
    rw [List.all_cons, Bool.and_eq_true] at h
    rw [rowsX, if_neg (by omega), List.nil_append, foldV, (field_row l2 h.1).1]
    simp only
    rw [fold_X1 l2 q n n0 l (i + 1) _ (by omega) h.2]
    simp [prS]
theorem fold_X0 (l2 : List Int) (q n : Nat) (hn : n ≤ 65536) : ∀ (l : List S74) (i : Nat) (acc : List (List UInt8 × List UInt8)), i ≤ q → q ≤ i + l.length → l.all goodF = true → foldV (rowsX (padL l2) q n i l) acc 0 false = some (acc ++ l.map prS, n)
  | [], i, acc, hq, hq', _ => by
    rw [rowsX, if_pos (by rw [List.length_nil] at hq'; omega), foldV, (clow_row n hn).1]
    simp [foldV]
  | x :: l, i, acc, hq, hq', h => by
    have h' := h
    rw [List.all_cons, Bool.and_eq_true] at h
    by_cases e : i = q
    · have := fold_X1 l2 q n n l (i + 1) (acc ++ [(x.f0.data.toList, x.f1.data.toList)]) (by omega) h.2
      rw [rowsX, if_pos e, List.singleton_append, foldV, (clow_row n hn).1]
      simp only [Bool.false_eq_true, if_false]
      rw [foldV, (field_row l2 h.1).1]
      simp only
      rw [this]
      simp [prS]
    · rw [rowsX, if_neg e, List.nil_append, foldV, (field_row l2 h.1).1]
      simp only
      rw [fold_X0 l2 q n hn l (i + 1) _ (by omega) (by rw [List.length_cons] at hq'; omega) h.2]
      simp [prS]
theorem rowsX_good (l2 : List Int) (q n : Nat) (hn : n ≤ 65536) : ∀ (l : List S74) (i : Nat), l.all goodF = true → (∀ x ∈ rowsX (padL l2) q n i l, No13 x ∧ x ≠ []) ∧ (rowsX (padL l2) q n i l).length ≤ l.length + (if i ≤ q then 1 else 0)
  | [], i, _ => by
    rw [rowsX]
    by_cases e : i = q
    · rw [if_pos e, if_pos (by omega)]
      exact ⟨fun x hx => by rw [List.mem_singleton.1 hx]; exact (clow_row n hn).2, by simp⟩
    · rw [if_neg e]
      exact ⟨fun x hx => absurd hx List.not_mem_nil, Nat.zero_le _⟩
  | x :: l, i, h => by
    rw [List.all_cons, Bool.and_eq_true] at h
    obtain ⟨h1, h2⟩ := rowsX_good l2 q n hn l (i + 1) h.2
    rw [rowsX]
    refine ⟨fun y hy => ?_, ?_⟩
    · rcases List.mem_append.1 hy with hy | hy
      · split at hy
        · rw [List.mem_singleton.1 hy]; exact (clow_row n hn).2
        · cases hy
      · rcases List.mem_cons.1 hy with rfl | hy
        · exact (field_row l2 h.1).2
        · exact h1 y hy
    · rw [List.length_append, List.length_cons, List.length_cons]
      by_cases e : i = q
      · rw [if_pos e, if_pos (by omega)]
        rw [if_neg (by omega)] at h2
        simp only [List.length_cons, List.length_nil]
        omega
      · rw [if_neg e]
        simp only [List.length_nil]
        split at h2 <;> split <;> omega
theorem request_long (s : ByteArray) (hs : 8192 ≤ s.size) (hi : index (s.data.toList.take 8192) crlf2 = -1) (k : Nat) (hk : 2 ≤ k) :
    http_ParseRequest.f k s = some (⟨#[]⟩, ⟨#[]⟩, [], ⟨#[]⟩, 0, 80) := by
  obtain ⟨k, rfl⟩ : ∃ k', k = k' + 2 := ⟨k - 2, by omega⟩
  have hsz := size_eq s
  have hmn : mn (s.size : Int) 8192 = ((8192 : Nat) : Int) := by unfold mn; split <;> omega
  have hidx : strings_Index.f (s.extract 0 8192) ⟨#[13, 10, 13, 10]⟩ = some (-1 : Int) := by
    unfold strings_Index.f
    rw [ext_mk, List.drop_zero, Nat.sub_zero, if_pos ⟨by rw [size_l, List.length_take]; omega, by decide⟩]
    exact congrArg some hi
  unfold http_ParseRequest.f http_parse.f
  rw [hmn]
  clear hmn
  have h0 : (0 : Int) ≤ ((8192 : Nat) : Int) := by omega
  have h82 : ((8192 : Nat) : Int) ≤ (s.size : Int) := by omega
  have h83 : decide ((s.size : Int) < 8192) = false := decide_eq_false (by omega)
  rw [if_pos h0, if_pos h82, Int.toNat_natCast, hidx, Option.bind_some, if_pos (by omega), h83, http_parse.j0, if_neg (by simp), if_pos (by omega)]
  rfl
theorem same_ok (l : List S74) (hl : l.length < 4611686018427387904) : ∀ (j k i : Nat), i + j = l.length → j + 1 ≤ k → calepinref08_Same.l0 k l l (l.length : Int) (i : Int) = some true := by
  intro j
  induction j with
  | zero =>
    intro k i hi hk
    obtain ⟨k, rfl⟩ : ∃ k', k = k' + 1 := ⟨k - 1, by omega⟩
    rw [calepinref08_Same.l0, if_neg (by omega)]
  | succ j ih =>
    intro k i hi hk
    obtain ⟨k, rfl⟩ : ∃ k', k = k' + 1 := ⟨k - 1, by omega⟩
    rw [calepinref08_Same.l0, if_pos (by omega), if_pos (by omega), if_pos (by omega), if_pos (by omega), if_neg (by simp), wrapE ((i : Int) + 1) (i + 1) (by omega) (by omega), ih k (i + 1) (by omega) (by omega)]
theorem mkS_prS (l : List S74) : (l.map prS).map mkS = l := by
  rw [List.map_map]
  conv => rhs; rw [← List.map_id l]
  exact List.map_congr_left fun x _ => rfl
theorem j4_go (m t b : ByteArray) (l : List S74) (l2 : List Int) (q : Nat) (ha : askedL m.data.toList t.data.toList = true) (hl : l.length < 32) (hg : l.all goodF = true) (hb : b.size ≤ 65536) (hq : q ≤ l.length)
    (hz : (joinL (reqL m.data.toList t.data.toList) (rowsX (padL l2) q b.size 0 l)).length ≤ 9007199254740992) (k : Nat) (hk : 9000 ≤ k) :
    calepinlaw08_HttpFields.j4 k ⟨(reqL m.data.toList t.data.toList ++ 13 :: 10 :: linesX (rowsX (padL l2) q b.size 0 l)).toArray⟩ m t l b = some true := by
  obtain ⟨k, rfl⟩ : ∃ k', k = k' + 1 := ⟨k - 1, by omega⟩
  rw [← join_lines]
  obtain ⟨hr, hrl⟩ := rowsX_good l2 q b.size hb l 0 hg
  rw [if_pos (Nat.zero_le _)] at hrl
  have hf := fold_X0 l2 q b.size hb l 0 [] (Nat.zero_le _) (by omega) hg
  have hend := fun rest => index_end (reqL m.data.toList t.data.toList) (rowsX (padL l2) q b.size 0 l) rest (req_no13 ha) hr
  have go := fun (s : ByteArray) (rest : List UInt8) h hd hJ => request_go s m.data.toList t.data.toList (rowsX (padL l2) q b.size 0 l) rest h hd ha hr hJ (by omega) k (by omega)
  rw [hf] at go
  clear hf
  obtain ⟨JL, hJL⟩ : ∃ JL, joinL (reqL m.data.toList t.data.toList) (rowsX (padL l2) q b.size 0 l) = JL := ⟨_, rfl⟩
  rw [hJL] at hend go hz ⊢
  have zb := size_eq b
  obtain ⟨s, hs⟩ : ∃ s, (⟨(JL ++ [13, 10]).toArray⟩ : ByteArray) ++ ((⟨#[13, 10]⟩ : ByteArray) ++ b) = s := ⟨_, rfl⟩
  have hsd : s.data.toList = JL ++ (crlf2 ++ b.data.toList) := by
    rw [← hs]
    simp [ByteArray.data_append, crlf2]
  have hsl : s.size = JL.length + 4 + b.size := by rw [size_eq s, hsd, List.length_append, List.length_append, ← zb]; show _ + (4 + _) = _; omega
  have h2 : (⟨#[13, 10]⟩ : ByteArray).size = 2 := rfl
  have hx : (⟨(JL ++ [13, 10]).toArray⟩ : ByteArray).size = JL.length + 2 := by rw [size_l, List.length_append]; rfl
  rw [calepinlaw08_HttpFields.j4, if_pos (by omega), if_pos (by rw [hx, ByteArray.size_append, h2]; omega), hs, wrapE ((s.size : Int) - (b.size : Int)) (JL.length + 4) (by omega) (by omega)]
  by_cases hJ : JL.length + 4 ≤ 8192
  · rw [go s b.data.toList (by omega) hsd hJ, Option.bind_some, if_neg (by omega)]
    have e : ansR m.data.toList t.data.toList JL.length b.data.toList (some ([] ++ l.map prS, b.size)) = (m, t, l, b, (s.size : Int), 0) := by
      refine (if_neg (show ¬ b.data.toList.length < b.size by omega)).trans ?_
      show (_, _, List.map mkS ([] ++ _), (⟨(List.take b.size _).toArray⟩ : ByteArray), ((JL.length + 4 + b.size : Nat) : Int), (0 : Int)) = _
      rw [List.take_of_length_le (by omega), ← hsl, List.nil_append, mkS_prS]
    rw [e]
    dsimp only
    rw [if_pos (by first | rfl | trivial), if_pos (by first | rfl | trivial), if_pos (by first | rfl | trivial)]
    unfold calepinref08_Same.f
    have := same_ok l (by omega) l.length k 0 (by omega) (by omega)
    rw [if_pos (by first | rfl | trivial)]
    rw [Int.natCast_zero] at this
    rw [this, Option.bind_some]
  · have hi := hend b.data.toList
    rw [request_long s (by omega) (by rw [hsd]; exact index_take crlf2 (by decide) _ 8192 (by rw [hi]; omega) (by rw [hi]; show _ < _ + ((4 : Nat) : Int); omega)) k (by omega), Option.bind_some, if_pos (by omega)]
theorem pad_at (z : Int) (hz : (Lit.int .u8 z).wf = true) : 0 ≤ Int.tmod z 2 ∧ Int.tmod z 2 < 2 ∧ rdOf ByteArray.empty ([(⟨#[32]⟩ : ByteArray), (⟨#[9]⟩ : ByteArray)] : List ByteArray) (Int.tmod z 2) = ⟨[padC z].toArray⟩ := by
  have h0 : 0 ≤ z := by
    simp only [Lit.wf, IntKind.min, IntKind.max, IntKind.signed, IntKind.bits, Bool.and_eq_true, decide_eq_true_eq] at hz
    simpa using hz.1
  rw [Int.tmod_eq_emod_of_nonneg h0]
  refine ⟨by omega, by omega, ?_⟩
  unfold padC
  rw [Int.tmod_eq_emod_of_nonneg h0]
  have h : z % 2 = 0 ∨ z % 2 = 1 := by omega
  rcases h with h | h <;> rw [h] <;> rfl
theorem pads_loop (m t b : ByteArray) (l : List S74) (l2 : List Int) (hl2 : l2.length < 4611686018427387904) (hw : ∀ z ∈ l2, (Lit.int .u8 z).wf = true) (q i B : Nat) (hi : i < l.length) (hl : l.length < 32) : ∀ (j k c : Nat) (a : List UInt8), c + j = l2.length → j + 1 + B ≤ k → a.length + j + l[i].f1.size ≤ 4611686018427387904 →
    (∀ k', B ≤ k' → calepinlaw08_HttpFields.l0 k' l2 ⟨(a ++ (padL (l2.drop c) ++ (l[i].f1.data.toList ++ [32, 13, 10]))).toArray⟩ (q : Int) ((i + 1 : Nat) : Int) m t l b = some true) →
    calepinlaw08_HttpFields.l1 k l2 ⟨a.toArray⟩ (q : Int) (i : Int) l2 (l2.length : Int) (c : Int) m t l b = some true := by
  intro j
  induction j with
  | zero =>
    intro k c a hc hk ha H
    obtain ⟨k, rfl⟩ : ∃ k', k = k' + 1 := ⟨k - 1, by omega⟩
    have H := H k (by omega)
    rw [List.drop_of_length_le (by omega)] at H
    have h3 : (⟨#[32, 13, 10]⟩ : ByteArray).size = 3 := rfl
    have has : (⟨a.toArray⟩ : ByteArray).size = a.length := size_l _
    have hR : (⟨a.toArray⟩ : ByteArray) ++ (l[i].f1 ++ (⟨#[32, 13, 10]⟩ : ByteArray)) = ⟨(a ++ (padL [] ++ (l[i].f1.data.toList ++ [32, 13, 10]))).toArray⟩ := by
      apply ByteArray.ext
      apply Array.toList_inj.1
      simp [ByteArray.data_append, padL]
    rw [calepinlaw08_HttpFields.l1, if_neg (by omega), if_pos (by omega), if_pos (by omega), rd_at l i hi, if_pos (by omega), if_pos (by rw [has, ByteArray.size_append, h3]; omega), hR, wrapE ((i : Int) + 1) (i + 1) (by omega) (by omega)]
    exact H
  | succ j ih =>
    intro k c a hc hk ha H
    obtain ⟨k, rfl⟩ : ∃ k', k = k' + 1 := ⟨k - 1, by omega⟩
    have hlt : c < l2.length := by omega
    have hd := List.drop_eq_getElem_cons hlt
    have hrd : rd l2 (c : Int) = l2[c] := by simp [rd, List.getElem?_eq_getElem hlt]
    obtain ⟨z0, z1, z2⟩ := pad_at l2[c] (hw _ (List.getElem_mem hlt))
    have has : (⟨a.toArray⟩ : ByteArray).size = a.length := size_l _
    have hzs : (⟨[padC l2[c]].toArray⟩ : ByteArray).size = 1 := rfl
    rw [hd] at H
    rw [calepinlaw08_HttpFields.l1, if_pos (by omega), if_pos (by omega), if_pos (by omega), Option.bind_some, hrd, if_pos z0, if_pos (by exact z1), z2, if_pos (by rw [has, hzs]; omega), app_l, wrapE ((c : Int) + 1) (c + 1) (by omega) (by omega)]
    refine ih k (c + 1) _ (by omega) (by omega) (by rw [List.length_append, List.length_singleton]; omega) fun k' hk' => ?_
    have := H k' hk'
    rw [show padL (l2[c] :: l2.drop (c + 1)) = padC l2[c] :: padL (l2.drop (c + 1)) from rfl] at this
    rw [List.append_assoc, List.singleton_append]
    exact this
theorem l0_head (m t b : ByteArray) (l : List S74) (l2 : List Int) (hl : l.length < 32) (hb : b.size ≤ 65536) (q i B k : Nat) (hi : i ≤ l.length) (hB : 200 ≤ B) (hk : B + 1 ≤ k) (a : List UInt8) (ha : a.length ≤ 1152921504606846976) (T : List (List UInt8))
    (H : ∀ (k' : Nat) (a' : List UInt8), B ≤ k' → a'.length ≤ a.length + 40 → a' ++ linesX T = a ++ linesX ((if i = q then [clowR b.size] else []) ++ T) → calepinlaw08_HttpFields.j2 k' l2 ⟨a'.toArray⟩ (q : Int) (i : Int) m t l b = some true) :
    calepinlaw08_HttpFields.l0 k l2 ⟨a.toArray⟩ (q : Int) (i : Int) m t l b = some true := by
  obtain ⟨k, rfl⟩ : ∃ k', k = k' + 1 := ⟨k - 1, by omega⟩
  rw [calepinlaw08_HttpFields.l0, if_pos (by omega)]
  by_cases e : i = q
  · have hdl := dec_len b.size (by omega)
    have hR : ((⟨#[99, 111, 110, 116, 101, 110, 116, 45, 76, 69, 78, 71, 84, 72, 58]⟩ : ByteArray) ++ (⟨(decDigits b.size).toArray⟩ : ByteArray)) ++ (⟨#[13, 10]⟩ : ByteArray) = ⟨(clowR b.size ++ [13, 10]).toArray⟩ := by
      rw [app_l, app_l]
      simp [clowR, clowL]
    have hds : (⟨(decDigits b.size).toArray⟩ : ByteArray).size = (decDigits b.size).length := size_l _
    have hcs : (⟨#[99, 111, 110, 116, 101, 110, 116, 45, 76, 69, 78, 71, 84, 72, 58]⟩ : ByteArray).size = 15 := rfl
    have has : (⟨a.toArray⟩ : ByteArray).size = a.length := size_l _
    have hcl : (clowR b.size ++ [13, 10]).length = 17 + (decDigits b.size).length := by
      simp only [clowR, clowL, List.length_append, List.length_cons, List.length_nil]
      omega
    have hrs : (⟨(clowR b.size ++ [13, 10]).toArray⟩ : ByteArray).size = (clowR b.size ++ [13, 10]).length := size_l _
    rw [if_pos (by omega), wrap_u b.size (by omega), dec_r k b.size (by omega) (by omega), Option.bind_some, if_pos (by rw [hds]; omega), if_pos (by rw [ByteArray.size_append, hcs, hds]; omega), hR, if_pos (by rw [has, hrs, hcl]; omega), app_l]
    refine H k _ (by omega) (by rw [List.length_append, hcl]; omega) ?_
    rw [if_pos e]
    simp [linesX]
  · rw [if_neg (by omega)]
    refine H k a (by omega) (by omega) ?_
    rw [if_neg e, List.nil_append]
theorem l0_loop (m t b : ByteArray) (l : List S74) (l2 : List Int) (hl : l.length < 32) (hb : b.size ≤ 65536) (hx : ∀ x ∈ l, x.f0.size ≤ 140737488351232 ∧ x.f1.size ≤ 140737488351232) (hl2 : l2.length ≤ 50) (hw : ∀ z ∈ l2, (Lit.int .u8 z).wf = true) (q : Nat) : ∀ (j k i : Nat) (a : List UInt8), i + j = l.length → j * 60 + 9010 ≤ k → a.length ≤ 1000 + i * 281474976710656 →
    (∀ k', 9000 ≤ k' → calepinlaw08_HttpFields.j4 k' ⟨(a ++ linesX (rowsX (padL l2) q b.size i (l.drop i))).toArray⟩ m t l b = some true) →
    calepinlaw08_HttpFields.l0 k l2 ⟨a.toArray⟩ (q : Int) (i : Int) m t l b = some true := by
  intro j
  induction j with
  | zero =>
    intro k i a hi hk ha H
    rw [List.drop_of_length_le (by omega), rowsX] at H
    refine l0_head m t b l l2 hl hb q i 9005 k (by omega) (by omega) (by omega) a (by omega) [] fun k' a' hk' _ he => ?_
    obtain ⟨k', rfl⟩ : ∃ k'', k' = k'' + 1 := ⟨k' - 1, by omega⟩
    rw [List.append_nil] at he
    rw [← he] at H
    have H := H k' (by omega)
    rw [show a' ++ linesX [] = a' from List.append_nil _] at H
    rw [calepinlaw08_HttpFields.j2, if_pos (by omega)]
    exact H
  | succ j ih =>
    intro k i a hi hk ha H
    have hlt : i < l.length := by omega
    have hd := List.drop_eq_getElem_cons hlt
    obtain ⟨hz0, hz1⟩ := hx l[i] (List.getElem_mem hlt)
    rw [hd, rowsX] at H
    refine l0_head m t b l l2 hl hb q i (j * 60 + 9065) k (by omega) (by omega) (by omega) a (by omega) (fieldR (padL l2) l[i] :: rowsX (padL l2) q b.size (i + 1) (l.drop (i + 1))) fun k' a' hk' hal he => ?_
    obtain ⟨k', rfl⟩ : ∃ k'', k' = k'' + 1 := ⟨k' - 1, by omega⟩
    rw [← he] at H
    have h58 : (⟨#[58]⟩ : ByteArray).size = 1 := rfl
    have has : (⟨a'.toArray⟩ : ByteArray).size = a'.length := size_l _
    have hR : (⟨a'.toArray⟩ : ByteArray) ++ (l[i].f0 ++ (⟨#[58]⟩ : ByteArray)) = ⟨(a' ++ (l[i].f0.data.toList ++ [58])).toArray⟩ := by
      apply ByteArray.ext
      apply Array.toList_inj.1
      simp [ByteArray.data_append]
    have hal' : (a' ++ (l[i].f0.data.toList ++ [58])).length = a'.length + l[i].f0.size + 1 := by
      rw [size_eq l[i].f0]
      simp only [List.length_append, List.length_cons, List.length_nil]
      omega
    rw [calepinlaw08_HttpFields.j2, if_neg (by omega), if_pos (by omega), if_pos (by omega), rd_at l i hlt, if_pos (by omega), if_pos (by rw [has, ByteArray.size_append, h58]; omega), hR]
    refine pads_loop m t b l l2 (by omega) hw q i (j * 60 + 9010) hlt hl l2.length k' 0 _ (by omega) (by omega) (by rw [hal']; omega) fun k'' hk'' => ?_
    have hpl : (padL l2).length = l2.length := List.length_map _
    refine ih k'' (i + 1) _ (by omega) hk'' ?_ fun k3 hk3 => ?_
    · rw [List.drop_zero, List.length_append, hal', List.length_append, List.length_append, hpl, ← size_eq]
      simp only [List.length_cons, List.length_nil]
      omega
    · have h3 := H k3 hk3
      have e : a' ++ (l[i].f0.data.toList ++ [58]) ++ (padL (l2.drop 0) ++ (l[i].f1.data.toList ++ [32, 13, 10])) ++ linesX (rowsX (padL l2) q b.size (i + 1) (l.drop (i + 1))) = a' ++ linesX (fieldR (padL l2) l[i] :: rowsX (padL l2) q b.size (i + 1) (l.drop (i + 1))) := by
        simp [linesX, fieldR]
      rw [e]
      exact h3
theorem nat_mod (a : Int) (n : Nat) (hn : 0 < n) (h : n ≤ 9223372036854775807) : ∃ p : Nat, wrap64 (Int.tmod (IntKind.u64.wrap a) (IntKind.u64.wrap (n : Int))) = (p : Int) ∧ p < n := by
  rw [wrap_u n (by omega)]
  have h0 : 0 ≤ IntKind.u64.wrap a := by rw [IntKind.wrap_u64]; omega
  obtain ⟨A, hA⟩ : ∃ A : Nat, IntKind.u64.wrap a = (A : Int) := ⟨(IntKind.u64.wrap a).toNat, by omega⟩
  rw [hA, Int.tmod_eq_emod_of_nonneg (by omega)]
  have hlt := Nat.mod_lt A hn
  exact ⟨A % n, wrapE _ _ (by omega) (by omega), hlt⟩
theorem rowsX_sum (l2 : List Int) (hl2 : l2.length ≤ 50) (q n : Nat) (hn : n ≤ 65536) : ∀ (l : List S74) (i : Nat), (∀ x ∈ l, x.f0.size ≤ 140737488351232 ∧ x.f1.size ≤ 140737488351232) → (linesX (rowsX (padL l2) q n i l)).length ≤ 40 + l.length * 281474976710656
  | [], i, _ => by
    have hdl := dec_len n (by omega)
    rw [rowsX]
    split
    · simp only [linesX, clowR, clowL, List.flatMap_cons, List.flatMap_nil, List.length_append, List.length_cons, List.length_nil]
      omega
    · exact Nat.zero_le _
  | x :: l, i, h => by
    have hdl := dec_len n (by omega)
    have ih := rowsX_sum l2 hl2 q n hn l (i + 1) fun y hy => h y (List.mem_cons_of_mem _ hy)
    obtain ⟨h0, h1⟩ := h x List.mem_cons_self
    have z0 := size_eq x.f0
    have z1 := size_eq x.f1
    have hpl : (padL l2).length = l2.length := List.length_map _
    have hf : (fieldR (padL l2) x).length = x.f0.size + x.f1.size + l2.length + 2 := by
      simp only [fieldR, List.length_append, List.length_cons, List.length_nil, hpl]
      omega
    have hc : (clowR n).length = 15 + (decDigits n).length := by
      simp only [clowR, clowL, List.length_append, List.length_cons, List.length_nil]
      omega
    have e : ∀ (c : List (List UInt8)), linesX (c ++ fieldR (padL l2) x :: rowsX (padL l2) q n (i + 1) l) = linesX c ++ ((fieldR (padL l2) x ++ [13, 10]) ++ linesX (rowsX (padL l2) q n (i + 1) l)) := fun c => by simp [linesX]
    rw [rowsX, e, List.length_append, List.length_append, List.length_append, hf, List.length_cons]
    have hcc : (linesX (if i = q then [clowR n] else [])).length ≤ 40 := by
      split
      · rw [show linesX [clowR n] = clowR n ++ [13, 10] from by simp [linesX], List.length_append, hc]
        simp only [List.length_cons, List.length_nil]
        omega
      · exact Nat.zero_le _
    simp only [List.length_cons, List.length_nil]
    omega
theorem HttpFields (m t : ByteArray) (l : List S74) (b : ByteArray) (a1 : Int) (l2 : List Int)
    (g0 : m.size ≤ 140737488351232 ∧ t.size ≤ 140737488351232 ∧ b.size ≤ 140737488351232) (n0 : l.length * 32 ≤ 140737488351232 ∧ (∀ x ∈ l, x.f0.size ≤ 140737488351232) ∧ ∀ x ∈ l, x.f1.size ≤ 140737488351232)
    (_ : (Lit.int .i64 a1).wf = true) (n2 : l2.length * 1 ≤ 140737488351232 ∧ ∀ z ∈ l2, (Lit.int .u8 z).wf = true) : ∃ k, calepinlaw08_HttpFields.f k m t l b a1 l2 = some true := by
  obtain ⟨M, hM⟩ : ∃ M : Nat, M = 140737488351232 := ⟨_, rfl⟩
  obtain ⟨k, hk⟩ : ∃ k : Nat, k = M + 20000 := ⟨_, rfl⟩
  refine ⟨k + 1, ?_⟩
  obtain ⟨x, c, hx, hc⟩ := printReq_ok m t b l M (by omega) (by omega) (by omega) (by omega) (fun z hz => ⟨by have := n0.2.1 z hz; omega, by have := n0.2.2 z hz; omega⟩) (k + 1) (by omega)
  unfold calepinlaw08_HttpFields.f
  rw [first_ge (k + 1) (by omega), Option.bind_some, if_pos rfl, hx, Option.bind_some]
  by_cases h1 : c = 0
  · rw [if_pos h1]
    obtain ⟨ha, hl, hg, hb, _, _⟩ := hc h1
    clear hc hx h1
    by_cases h2 : (l2.length : Int) > 50
    · rw [if_pos h2, calepinlaw08_HttpFields.j0, if_pos rfl]
    · rw [if_neg h2, calepinlaw08_HttpFields.j0]
      by_cases h3 : decide ((b.size : Int) > 5000) = true
      · rw [if_pos h3]
      · obtain ⟨_, _, lm, lt⟩ := asked_spaces ha
        have zm := size_eq m
        have zt := size_eq t
        have h32 : (⟨#[32]⟩ : ByteArray).size = 1 := rfl
        obtain ⟨q, hq, hql⟩ := nat_mod a1 (l.length + 1) (by omega) (by omega)
        have hR : ((m ++ (⟨#[32]⟩ : ByteArray)) ++ t) ++ (⟨#[32, 72, 84, 84, 80, 47, 49, 46, 49, 13, 10]⟩ : ByteArray) = ⟨(reqL m.data.toList t.data.toList ++ [13, 10]).toArray⟩ := by
          apply ByteArray.ext
          apply Array.toList_inj.1
          simp [ByteArray.data_append, reqL, http11]
        have hrl : (reqL m.data.toList t.data.toList).length ≤ 300 := by
          simp only [reqL, http11, List.length_append, List.length_cons, List.length_nil]
          omega
        have hsum := rowsX_sum l2 (by omega) q b.size hb l 0 fun z hz => ⟨n0.2.1 z hz, n0.2.2 z hz⟩
        have hj := congrArg List.length (join_lines (rowsX (padL l2) q b.size 0 l) (reqL m.data.toList t.data.toList))
        simp only [List.length_append, List.length_cons, List.length_nil] at hj
        rw [if_neg h3, if_pos (by omega), if_pos (by rw [ByteArray.size_append, h32]; omega), if_pos (by rw [ByteArray.size_append, ByteArray.size_append, h32]; omega), wrapE ((l.length : Int) + 1) (l.length + 1) (by omega) (by omega), if_neg (by rw [wrap_u _ (by omega)]; omega), hR, hq]
        clear hq
        have hgo := fun k' hk' => j4_go m t b l l2 q ha hl hg hb (by omega) (by omega) k' hk'
        refine l0_loop m t b l l2 hl hb (fun z hz => ⟨n0.2.1 z hz, n0.2.2 z hz⟩) (by omega) n2.2 q l.length k 0 _ (by omega) (by omega) (by rw [List.length_append]; simp only [List.length_cons, List.length_nil]; omega) fun k' hk' => ?_
        have := hgo k' hk'
        rw [List.drop_zero, List.append_assoc]
        exact this
  · rw [if_neg h1, calepinlaw08_HttpFields.j0, if_pos rfl]
end Go.Proofs.YtpedfpeokedelaaDoor.PureHttpFields
