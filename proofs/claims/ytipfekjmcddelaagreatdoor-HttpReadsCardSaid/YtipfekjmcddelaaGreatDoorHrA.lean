/- HttpReads, the plain law, part A. -/
import Derived.Test.YtipfekjmcddelaaGreatDoorXHttpReadsx12
import Derived.Test.YtipfekjmcddelaaGreatDoorTp
import Derived.Test.YtipfekjmcddelaaGreatDoorHp
import Derived.KernelRfl
namespace Go.Proofs.YtipfekjmcddelaaGreatDoor.PureHttpReads
open Go.RowKit Go.Lib Go.Proofs.YtipfekjmcddelaaGreatDoor.XHttpReads Go.Proofs.YtipfekjmcddelaaGreatDoorW.PrintWords Go.Proofs.YtipfekjmcddelaaGreatDoorW.PrintLast Go.Proofs.YtipfekjmcddelaaGreatDoorW.PrintMore
set_option maxRecDepth 100000
set_option linter.unusedSimpArgs false
theorem btN (s : ByteArray) (i : Nat) : bt s (i : Int) = ((s.data.toList.getD i 0).toNat : Int) := by
  have hsz := size_eq s
  unfold bt
  by_cases h : i < s.size
  · rw [dif_pos (by simpa using h), List.getD_eq_getElem?_getD, List.getElem?_eq_getElem (by omega)]
    rfl
  · rw [dif_neg (by simpa using h), List.getD_eq_getElem?_getD, List.getElem?_eq_none (by omega)]
    rfl
theorem byte_all {p : UInt8 → Bool} (h : ∀ x : Fin 256, p (UInt8.ofNat x.val) = true) (c : UInt8) : p c = true := by
  have := h ⟨c.toNat, c.toNat_lt⟩
  simpa using this
theorem set_at (A : List Int) (z v : Int) (R : List Int) : (A ++ z :: R).set A.length v = A ++ v :: R := by
  induction A with
  | nil => rfl
  | cons a A ih => simp
theorem low_t (s : ByteArray) (h : s.size ≤ 281474976710656) : char_Lower.f s = some (turnS s 65 90) := by
  unfold char_Lower.f char_turned.f
  rw [if_pos ⟨h, by decide⟩]
  rfl
theorem bt_get (s : ByteArray) (i : Nat) (h : i < s.data.toList.length) : bt s (i : Int) = ((s.data.toList[i]'h).toNat : Int) := by
  have h2 : i < s.size := by rw [size_eq]; exact h
  unfold bt
  rw [dif_pos (by simpa using h2)]
  rfl
theorem mk_l (l : List UInt8) : (⟨l.toArray⟩ : ByteArray).data.toList = l := rfl
theorem first_ge : ∀ k, 60 ≤ k → calepinlaw08_first.f k = some true := by
  have h0 : calepinlaw08_first.f 60 = some true := by kernel_rfl
  intro k hk
  obtain ⟨j, rfl⟩ : ∃ j, k = 60 + j := ⟨k - 60, by omega⟩
  clear hk
  induction j with
  | zero => exact h0
  | succ j ih => exact calepinlaw08_first.mono _ _ ih
theorem same_f (a b : ByteArray) (ha : a.size ≤ 281474976710656) (hb : b.size ≤ 281474976710656) : char_Same.f a b = some ((turnS a 65 90).data.toList == (turnS b 65 90).data.toList) := by
  unfold char_Same.f
  rw [low_t a ha, low_t b hb]
  simp only [Option.bind_some, Lib.toList_data]
def mkS (p : List UInt8 × List UInt8) : S62 := ⟨⟨p.1.toArray⟩, ⟨p.2.toArray⟩⟩
theorem only_f (s : ByteArray) (a b : Nat) (hs : s.size ≤ 281474976710656) : ∀ (j k i : Nat), i + j = s.data.toList.length → j + 1 ≤ k →
    http_only.l0 k s (a : Int) (b : Int) (s.size : Int) (i : Int) = some ((s.data.toList.drop i).all fun c => decide (a ≤ c.toNat) && decide (c.toNat ≤ b)) := by
  have hsz := size_eq s
  intro j
  induction j with
  | zero =>
    intro k i hi hk
    obtain ⟨k, rfl⟩ : ∃ k', k = k' + 1 := ⟨k - 1, by omega⟩
    rw [http_only.l0, if_neg (by omega), List.drop_of_length_le (by omega)]
    rfl
  | succ j ih =>
    intro k i hi hk
    obtain ⟨k, rfl⟩ : ∃ k', k = k' + 1 := ⟨k - 1, by omega⟩
    have hlt : i < s.data.toList.length := by omega
    have hb := bt_get s i hlt
    have hd := List.drop_eq_getElem_cons hlt
    have hwi : wrap64 ((i : Int) + 1) = ((i + 1 : Nat) : Int) := by unfold wrap64; omega
    rw [http_only.l0, if_pos (by omega), if_pos (by omega), if_pos (by omega), hb, hd, List.all_cons]
    by_cases h1 : a ≤ s.data.toList[i].toNat
    · rw [if_neg (by omega)]
      by_cases h2 : s.data.toList[i].toNat ≤ b
      · rw [if_neg (by omega), hwi, ih k (i + 1) (by omega) (by omega), decide_eq_true h1, decide_eq_true h2]
        rfl
      · rw [if_pos (by omega), decide_eq_false h2]
        simp
    · rw [if_pos (by omega), decide_eq_false h1]
      rfl
theorem only_all (s : ByteArray) (a b : Nat) (hs : s.size ≤ 281474976710656) (k : Nat) (hk : s.size + 1 ≤ k) :
    http_only.f k s (a : Int) (b : Int) = some (s.data.toList.all fun c => decide (a ≤ c.toNat) && decide (c.toNat ≤ b)) := by
  have := only_f s a b hs s.data.toList.length k 0 (by omega) (by rw [size_eq] at hk; exact hk)
  simpa [http_only.f] using this
theorem tab_text (c : UInt8) : (decide (32 ≤ (tabC c).toNat) && decide ((tabC c).toNat ≤ 126)) = textC c := by
  unfold tabC textC
  by_cases h : c = 9
  · subst h; rfl
  · rw [if_neg h, show (c == 9) = false from beq_eq_false_iff_ne.2 h, Bool.false_or]
theorem content_f (s : ByteArray) (hs : s.size ≤ 140737488355328) (k : Nat) (hk : s.size + 1 ≤ k) : http_content.f k s = some (s.data.toList.all textC) := by
  unfold http_content.f strings_ReplaceAll.f
  rw [if_pos ⟨hs, rfl, rfl⟩]
  simp only [Option.bind_some]
  have hz : (⟨(s.data.toList.map tabC).toArray⟩ : ByteArray).size = s.size := by rw [size_eq, mk_l, List.length_map, size_eq]
  have h := only_all ⟨(s.data.toList.map tabC).toArray⟩ 32 126 (by rw [hz]; omega) k (by rw [hz]; exact hk)
  rw [show ((32 : Nat) : Int) = 32 from rfl, show ((126 : Nat) : Int) = 126 from rfl] at h
  rw [h, mk_l, List.all_map]
  simp only [Option.bind_some]
  congr 2
  funext c
  exact tab_text c
theorem asked_f (m t : ByteArray) (hm : m.size ≤ 281474976710656) (ht : t.size ≤ 281474976710656) (k : Nat) (hk : 300 ≤ k) : http_asked.f k m t = some (askedL m.data.toList t.data.toList) := by
  have zm := size_eq m
  have zt := size_eq t
  unfold http_asked.f askedL
  rw [Lib.toList_data, Lib.toList_data]
  by_cases h1 : m.data.toList = []
  · rw [if_pos h1, h1]; rfl
  · rw [if_neg h1, show m.data.toList.isEmpty = false from Bool.eq_false_iff.2 fun h => h1 (List.isEmpty_iff.1 h)]
    by_cases h2 : (m.size : Int) ≤ 16
    · have h := only_all m 65 90 hm k (by omega)
      rw [show ((65 : Nat) : Int) = 65 from rfl, show ((90 : Nat) : Int) = 90 from rfl] at h
      rw [if_pos h2, h, decide_eq_true (show m.data.toList.length ≤ 16 by omega)]
      simp only [Option.bind_some]
      by_cases h3 : (m.data.toList.all fun c => decide (65 ≤ c.toNat) && decide (c.toNat ≤ 90)) = true
      · rw [if_pos h3, h3]
        by_cases h4 : t.data.toList = []
        · rw [if_pos h4, h4]; rfl
        · rw [if_neg h4, show t.data.toList.isEmpty = false from Bool.eq_false_iff.2 fun h => h4 (List.isEmpty_iff.1 h)]
          by_cases h5 : (t.size : Int) ≤ 256
          · have h' := only_all t 33 126 ht k (by omega)
            rw [show ((33 : Nat) : Int) = 33 from rfl, show ((126 : Nat) : Int) = 126 from rfl] at h'
            rw [if_pos h5, h', decide_eq_true (show t.data.toList.length ≤ 256 by omega)]
            simp
          · rw [if_neg h5, decide_eq_false (show ¬ t.data.toList.length ≤ 256 by omega)]
            simp
      · rw [if_neg h3, Bool.eq_false_iff.2 h3]
        simp
    · rw [if_neg h2, decide_eq_false (show ¬ m.data.toList.length ≤ 16 by omega)]
      simp
theorem cut_le (l : List UInt8) (sep : List UInt8) : (cut l sep).1.length ≤ l.length ∧ (cut l sep).2.1.length ≤ l.length := by
  unfold cut
  split
  · exact ⟨List.length_take_le' _ _, by rw [List.length_drop]; omega⟩
  · exact ⟨Nat.le_refl _, Nat.zero_le _⟩
theorem trim_le (l : List UInt8) : (trimS l blank).length ≤ l.length := by
  unfold trimS trimLeftS trimRightS
  have h1 := (List.dropWhile_sublist (blank.contains ·) (l := ((l.reverse.dropWhile (blank.contains ·)).reverse))).length_le
  have h2 := (List.dropWhile_sublist (blank.contains ·) (l := l.reverse)).length_le
  simp only [List.length_reverse] at h1 h2
  omega
theorem same_l (a b : List UInt8) (ha : a.length ≤ 281474976710656) (hb : b.length ≤ 281474976710656) : char_Same.f ⟨a.toArray⟩ ⟨b.toArray⟩ = some (lowL a == lowL b) := by
  rw [same_f _ _ (by rw [size_eq, mk_l]; exact ha) (by rw [size_eq, mk_l]; exact hb)]
  rfl
def outF : Option (List (List UInt8 × List UInt8) × Nat) → List S62 × Int × Bool
  | some x => (x.1.map mkS, (x.2 : Int), true)
  | none => ([], 0, false)
theorem rd_rows (rs : List (List UInt8)) (i : Nat) (h : i < rs.length) : rdOf ByteArray.empty (rs.map fun l => (⟨l.toArray⟩ : ByteArray)) (i : Int) = ⟨rs[i].toArray⟩ := by
  simp [rdOf, List.getElem?_eq_getElem h]
theorem fields_loop (rs : List (List UInt8)) (hr : ∀ r ∈ rs, r.length ≤ 8192) (hl : rs.length ≤ 4000000) : ∀ (j k i : Nat) (acc : List (List UInt8 × List UInt8)) (n : Nat) (had : Bool), i + j = rs.length → 2 * j + 8200 ≤ k → acc.length ≤ i →
    http_fields.l0 k (acc.map mkS) (n : Int) had (rs.map fun l => (⟨l.toArray⟩ : ByteArray)) (rs.length : Int) (i : Int) = some (outF (foldV (rs.drop i) acc n had)) := by
  intro j
  induction j with
  | zero =>
    intro k i acc n had hi hk ha
    obtain ⟨k, rfl⟩ : ∃ k', k = k' + 1 := ⟨k - 1, by omega⟩
    rw [http_fields.l0, if_neg (by omega), List.drop_of_length_le (by omega)]
    rfl
  | succ j ih =>
    intro k i acc n had hi hk ha
    obtain ⟨k, rfl⟩ : ∃ k', k = k' + 2 := ⟨k - 2, by omega⟩
    have hlt : i < rs.length := by omega
    have hd := List.drop_eq_getElem_cons hlt
    have hwi : wrap64 ((i : Int) + 1) = ((i + 1 : Nat) : Int) := by unfold wrap64; omega
    obtain ⟨r, hre⟩ : ∃ r, rs[i] = r := ⟨_, rfl⟩
    have hrl := hr rs[i] (List.getElem_mem hlt)
    rw [hre] at hrl hd
    have hc := cut_le r [58]
    obtain ⟨c, hce⟩ : ∃ c, cut r [58] = c := ⟨_, rfl⟩
    rw [hce] at hc
    have htl := trim_le c.2.1
    obtain ⟨v, hv⟩ : ∃ v, trimS c.2.1 blank = v := ⟨_, rfl⟩
    rw [hv] at htl
    have hcut : strings_Cut.f ⟨r.toArray⟩ (⟨#[58]⟩ : ByteArray) = some (⟨c.1.toArray⟩, ⟨c.2.1.toArray⟩, c.2.2) := by
      unfold strings_Cut.f
      rw [if_pos ⟨by rw [size_eq, mk_l]; omega, rfl⟩, mk_l]
      show some ((⟨(cut r [58]).1.toArray⟩ : ByteArray), (⟨(cut r [58]).2.1.toArray⟩ : ByteArray), (cut r [58]).2.2) = _
      rw [hce]
    have htrim : strings_Trim.f ⟨c.2.1.toArray⟩ (⟨#[32, 9]⟩ : ByteArray) = some ⟨v.toArray⟩ := by
      unfold strings_Trim.f
      rw [if_pos ⟨by rw [size_eq, mk_l]; omega, rfl⟩, mk_l]
      show some (⟨(trimS c.2.1 blank).toArray⟩ : ByteArray) = _
      rw [hv]
    have hbad : rowV r = .bad → http_fields.j1 (k + 1) (acc.map mkS) (n : Int) had ⟨c.1.toArray⟩ ⟨v.toArray⟩ (rs.map fun l => (⟨l.toArray⟩ : ByteArray)) (rs.length : Int) (i : Int) true = some (outF (foldV (r :: rs.drop (i + 1)) acc n had)) := by
      intro h
      rw [http_fields.j1, if_pos rfl, foldV, h]
      rfl
    rw [http_fields.l0, if_pos (by omega), if_pos (by omega), if_pos (by rw [List.length_map]; omega), rd_rows rs i hlt, hre, hcut]
    simp only [Option.bind_some]
    rw [htrim, hd]
    simp only [Option.bind_some]
    unfold rowV at hbad
    rw [hce, hv] at hbad
    by_cases h1 : c.2.2 = true
    · rw [if_pos h1]
      unfold http_name.f
      simp only [Option.bind_some]
      by_cases h2 : nameV ⟨c.1.toArray⟩ = true
      · rw [if_pos h2, content_f _ (by rw [size_eq, mk_l]; omega) (k + 1) (by rw [size_eq, mk_l]; omega), mk_l]
        simp only [Option.bind_some]
        by_cases h3 : v.all textC = true
        · rw [if_pos h3, show (⟨#[84, 114, 97, 110, 115, 102, 101, 114, 45, 69, 110, 99, 111, 100, 105, 110, 103]⟩ : ByteArray) = ⟨tencL.toArray⟩ from rfl, same_l _ _ (by omega) (by decide)]
          simp only [Option.bind_some]
          by_cases h4 : lowL c.1 = lowL tencL
          · rw [show (lowL c.1 == lowL tencL) = true from beq_iff_eq.2 h4]
            exact hbad (by rw [if_neg (fun h => h.2.2.2 h4)])
          · have hrow : rowV r = if lowL c.1 = lowL clenL then (if (numV ⟨v.toArray⟩ 65536).2 = true then .len (numV ⟨v.toArray⟩ 65536).1 else .bad) else .fld c.1 v := by
              unfold rowV
              rw [hce, hv, if_pos ⟨h1, h2, h3, h4⟩]
            rw [show (lowL c.1 == lowL tencL) = false from beq_eq_false_iff_ne.2 h4, http_fields.j1, if_neg (by simp), show (⟨#[67, 111, 110, 116, 101, 110, 116, 45, 76, 101, 110, 103, 116, 104]⟩ : ByteArray) = ⟨clenL.toArray⟩ from rfl, same_l _ _ (by omega) (by decide), foldV, hrow]
            simp only [Option.bind_some]
            by_cases h5 : lowL c.1 = lowL clenL
            · have hnum : char_Number.f ⟨v.toArray⟩ 65536 = some (((numV ⟨v.toArray⟩ 65536).1 : Int), (numV ⟨v.toArray⟩ 65536).2) := by
                unfold char_Number.f
                rw [if_pos ⟨by rw [size_eq, mk_l]; omega, by omega, by omega⟩]
                rfl
              rw [if_pos (beq_iff_eq.2 h5), hnum, if_pos h5]
              simp only [Option.bind_some]
              have hle : (numV ⟨v.toArray⟩ 65536).1 ≤ 65536 := by
                rcases numV_o ⟨v.toArray⟩ 65536 (by omega) with ⟨z, h, _, e⟩ | ⟨_, e⟩ <;> rw [e] <;> omega
              generalize numV ⟨v.toArray⟩ 65536 = q at hle ⊢
              obtain ⟨z, b⟩ := q
              simp only at hle ⊢
              cases had with
              | true =>
                rw [if_pos rfl]
                cases b <;> simp [outF]
              | false =>
                rw [if_neg (by simp)]
                cases b with
                | false => simp [outF]
                | true =>
                  have hwz : wrap64 (z : Int) = (z : Int) := by unfold wrap64; omega
                  rw [if_pos rfl, hwz, hwi, ih k (i + 1) acc z true (by omega) (by omega) (by omega)]
                  rfl
            · rw [if_neg (by rw [beq_iff_eq]; exact h5), if_neg h5, if_pos (by rw [List.length_map]; omega), hwi]
              have := ih k (i + 1) (acc ++ [(c.1, v)]) n had (by omega) (by omega) (by simp; omega)
              rw [List.map_append] at this
              exact this
        · rw [if_neg h3]
          exact hbad (by rw [if_neg (fun h => h3 h.2.2.1)])
      · rw [if_neg h2]
        exact hbad (by rw [if_neg (fun h => h2 h.2.1)])
    · rw [if_neg h1]
      exact hbad (by rw [if_neg (fun h => h1 h.1)])
theorem fields_f (rs : List (List UInt8)) (hr : ∀ r ∈ rs, r.length ≤ 8192) (hl : rs.length ≤ 32) (k : Nat) (hk : 8300 ≤ k) :
    http_fields.f k (rs.map fun l => (⟨l.toArray⟩ : ByteArray)) = some (outF (foldV rs [] 0 false)) := by
  have := fields_loop rs hr (by omega) rs.length k 0 [] 0 false (by omega) (by omega) (by simp)
  unfold http_fields.f
  rw [List.length_map, if_neg (by omega)]
  simpa using this
theorem foldV_le : ∀ (rs : List (List UInt8)) (acc : List (List UInt8 × List UInt8)) (n : Nat) (had : Bool) (x : List (List UInt8 × List UInt8) × Nat), n ≤ 65536 → foldV rs acc n had = some x → x.2 ≤ 65536
  | [], acc, n, _, x, hn, h => by
    rw [foldV] at h
    cases h
    exact hn
  | r :: rs, acc, n, had, x, hn, h => by
    rw [foldV] at h
    have hm : ∀ m, rowV r = .len m → m ≤ 65536 := by
      intro m hm
      unfold rowV at hm
      have hle : (numV ⟨(trimS (cut r [58]).2.1 blank).toArray⟩ 65536).1 ≤ 65536 := by
        rcases numV_o ⟨(trimS (cut r [58]).2.1 blank).toArray⟩ 65536 (by omega) with ⟨z, h, _, e⟩ | ⟨_, e⟩ <;> rw [e] <;> omega
      split at hm
      · split at hm
        · split at hm
          · cases hm
            exact hle
          · cases hm
        · cases hm
      · cases hm
    cases hr : rowV r with
    | bad => rw [hr] at h; cases h
    | len m =>
      rw [hr] at h
      simp only at h
      split at h
      · cases h
      · exact foldV_le rs acc m true x (hm m hr) h
    | fld a b =>
      rw [hr] at h
      exact foldV_le rs _ n had x hn h
theorem wrapE (x : Int) (n : Nat) (hx : x = (n : Int)) (h : n ≤ 9223372036854775807) : wrap64 x = (n : Int) := by
  subst hx
  unfold wrap64
  omega
def gLower (c : UInt8) : Int := if 65 ≤ c.toNat ∧ c.toNat ≤ 90 then (((c.toNat + 32) % 256 : Nat) : Int) else (c.toNat : Int)
theorem gLower_turn (c : UInt8) : UInt8.ofNat (gLower c).toNat = turnB 65 90 c := by
  have := byte_all (p := fun c => UInt8.ofNat (gLower c).toNat == turnB 65 90 c) (by decide +kernel) c
  exact beq_iff_eq.1 this
theorem numsLower (s : ByteArray) : strOfNums (s.data.toList.map gLower) = turnS s 65 90 := by
  apply ByteArray.ext
  apply Array.toList_inj.1
  rw [strOfNums_data, List.map_map]
  exact List.map_congr_left fun c _ => gLower_turn c
theorem refLower_l (s : ByteArray) (hs : s.size ≤ 281474976710656) : ∀ (j k i : Nat), i + j = s.data.toList.length → j + 1 ≤ k →
    calepinref01_Lower.l0 k s ((s.data.toList.take i).map gLower ++ List.replicate j 0) (s.data.toList.length : Int) (i : Int) = some (strOfNums (s.data.toList.map gLower)) := by
  have hsz := size_eq s
  intro j
  induction j with
  | zero =>
    intro k i hi hk
    obtain ⟨k, rfl⟩ : ∃ k', k = k' + 1 := ⟨k - 1, by omega⟩
    rw [calepinref01_Lower.l0, if_neg (by omega), List.replicate_zero, List.append_nil, List.take_of_length_le (by omega)]
  | succ j ih =>
    intro k i hi hk
    obtain ⟨k, rfl⟩ : ∃ k', k = k' + 1 := ⟨k - 1, by omega⟩
    have hA : ((s.data.toList.take i).map gLower).length = i := by rw [List.length_map, List.length_take]; omega
    have hset : ∀ z v : Int, ((s.data.toList.take i).map gLower ++ z :: List.replicate j 0).set ((i : Int)).toNat v = (s.data.toList.take i).map gLower ++ v :: List.replicate j 0 := fun z v => by
      rw [Int.toNat_natCast]
      conv => lhs; rw [show i = ((s.data.toList.take i).map gLower).length from hA.symm]
      rw [← hA]
      simp only [hA]
      have := set_at ((s.data.toList.take i).map gLower) z v (List.replicate j 0)
      rw [hA] at this
      exact this
    obtain ⟨c, hc⟩ : ∃ c, s.data.toList.getD i 0 = c := ⟨_, rfl⟩
    have hci : s.data.toList[i]'(by omega) = c := by rw [← hc, List.getD_eq_getElem?_getD, List.getElem?_eq_getElem (by omega)]; rfl
    have hc256 := c.toNat_lt
    have htake : (s.data.toList.take (i + 1)).map gLower = (s.data.toList.take i).map gLower ++ [gLower c] := by
      rw [List.take_add_one, List.getElem?_eq_getElem (by omega), hci]
      simp
    have hnext := ih k (i + 1) (by omega) (by omega)
    rw [htake, List.append_assoc, List.singleton_append] at hnext
    have hwi : wrap64 ((i : Int) + 1) = ((i + 1 : Nat) : Int) := by unfold wrap64; omega
    rw [calepinref01_Lower.l0, if_pos (by omega), if_pos (by omega), if_pos (by omega), if_pos (by rw [List.length_append, hA, List.length_replicate]; omega), List.replicate_succ, hset, btN, hc, hwi]
    simp only [Option.bind_some, hset]
    by_cases h1 : 65 ≤ c.toNat
    · rw [if_pos (by omega)]
      by_cases h2 : c.toNat ≤ 90
      · rw [if_pos (by omega), show (((c.toNat : Int) + 32) % 256) = gLower c by unfold gLower; rw [if_pos ⟨h1, h2⟩]; omega]
        exact hnext
      · rw [if_neg (by omega), show (c.toNat : Int) = gLower c by unfold gLower; rw [if_neg (by omega)]]
        exact hnext
    · rw [if_neg (by omega), show (c.toNat : Int) = gLower c by unfold gLower; rw [if_neg (by omega)]]
      exact hnext
theorem refLower (s : ByteArray) (hs : s.size ≤ 140737488351232) (k : Nat) (hk : s.size + 1 ≤ k) : calepinref01_Lower.f k s = some (turnS s 65 90) := by
  have hsz := size_eq s
  have h := refLower_l s (by omega) s.data.toList.length k 0 (by omega) (by omega)
  rw [List.take_zero, List.map_nil, List.nil_append, numsLower] at h
  unfold calepinref01_Lower.f
  rw [if_pos (by omega), if_pos (by omega)]
  simp only [Option.bind_some, Int.toNat_natCast, List.length_replicate]
  rw [hsz]
  exact h
/-- What the reference's loop answers from place i on. -/
theorem refNum_l (s : ByteArray) (m : Nat) (hm : m < 18446744073709551616) (hs : s.size ≤ 281474976710656) : ∀ (j k i n : Nat), i + j = s.data.toList.length → n ≤ m → 2 * j + 1 ≤ k →
    calepinref01_Number.l0 k s (m : Int) (n : Int) (i : Int) = some (if (∀ c ∈ s.data.toList.drop i, isDig c) ∧ valD n (s.data.toList.drop i) ≤ m then ((valD n (s.data.toList.drop i) : Nat) : Int) else 0, decide ((∀ c ∈ s.data.toList.drop i, isDig c) ∧ valD n (s.data.toList.drop i) ≤ m)) := by
  have hsz := size_eq s
  intro j
  induction j with
  | zero =>
    intro k i n hi hn hk
    obtain ⟨k, rfl⟩ : ∃ k', k = k' + 1 := ⟨k - 1, by omega⟩
    rw [calepinref01_Number.l0, if_neg (by omega), List.drop_of_length_le (by omega), valD_nil, if_pos ⟨fun c hc => (by cases hc), hn⟩, decide_eq_true ⟨fun c hc => (by cases hc), hn⟩]
  | succ j ih =>
    intro k i n hi hn hk
    obtain ⟨k, rfl⟩ : ∃ k', k = k' + 2 := ⟨k - 2, by omega⟩
    have hlt : i < s.data.toList.length := by omega
    have hdrop := List.drop_eq_getElem_cons hlt
    obtain ⟨c, hc⟩ : ∃ c, s.data.toList[i] = c := ⟨_, rfl⟩
    have hb : bt s (i : Int) = (c.toNat : Int) := by rw [bt_get s i hlt, hc]
    rw [hc] at hdrop
    have hc256 := c.toNat_lt
    rw [calepinref01_Number.l0, if_pos (by omega), if_pos (by omega), hb, hdrop]
    have hbad : ¬ isDig c → ¬ ((∀ x ∈ c :: s.data.toList.drop (i + 1), isDig x) ∧ valD n (c :: s.data.toList.drop (i + 1)) ≤ m) := fun h1 h2 => h1 (h2.1 c List.mem_cons_self)
    by_cases h1 : (c.toNat : Int) < 48
    · have hb2 := hbad (fun h => by unfold isDig at h; omega)
      rw [if_pos h1, calepinref01_Number.j2, if_pos rfl, if_neg hb2, decide_eq_false hb2]
    · rw [if_neg h1]
      by_cases h2 : (c.toNat : Int) > 57
      · have hb2 := hbad (fun h => by unfold isDig at h; omega)
        rw [decide_eq_true h2, calepinref01_Number.j2, if_pos rfl, if_neg hb2, decide_eq_false hb2]
      · have hd : isDig c := by unfold isDig; omega
        have hv := valD_ge (n * 10 + (c.toNat - 48)) (s.data.toList.drop (i + 1))
        have hp : 0 < 10 ^ (s.data.toList.drop (i + 1)).length := Nat.pow_pos (by decide)
        have hv' : n * 10 + (c.toNat - 48) ≤ valD (n * 10 + (c.toNat - 48)) (s.data.toList.drop (i + 1)) := Nat.le_trans (Nat.le_mul_of_pos_right _ hp) hv
        have hdg : ((c.toNat : Int) - 48) % 256 = ((c.toNat - 48 : Nat) : Int) := by omega
        have hq : IntKind.u64.wrap (Int.tdiv (m : Int) 10) = ((m / 10 : Nat) : Int) := by
          rw [IntKind.wrap_u64, Int.tdiv_eq_ediv_of_nonneg (by omega)]; omega
        rw [decide_eq_false h2, calepinref01_Number.j2, if_neg (by simp), if_pos (by omega), if_pos (by omega), hb, hdg, hq]
        have hover : m < n * 10 + (c.toNat - 48) → ¬ ((∀ x ∈ c :: s.data.toList.drop (i + 1), isDig x) ∧ valD n (c :: s.data.toList.drop (i + 1)) ≤ m) := fun h1 h2 => by
          rw [valD_cons] at h2
          omega
        by_cases g1 : (n : Int) > ((m / 10 : Nat) : Int)
        · have ho := hover (by omega)
          rw [if_pos g1, if_neg ho, decide_eq_false ho]
        · rw [if_neg g1]
          have hw10 : IntKind.u64.wrap (10 * (n : Int)) = ((n * 10 : Nat) : Int) := by rw [IntKind.wrap_u64]; omega
          have hmn : mn (m : Int) ((c.toNat - 48 : Nat) : Int) = ((min m (c.toNat - 48) : Nat) : Int) := by
            unfold mn; split <;> omega
          have hws : IntKind.u64.wrap ((m : Int) - ((min m (c.toNat - 48) : Nat) : Int)) = ((m - min m (c.toNat - 48) : Nat) : Int) := by rw [IntKind.wrap_u64]; omega
          rw [hw10, hmn, hws]
          by_cases g2 : ((n * 10 : Nat) : Int) > ((m - min m (c.toNat - 48) : Nat) : Int)
          · have ho := hover (by omega)
            rw [if_pos g2, if_neg ho, decide_eq_false ho]
          · rw [if_neg g2]
            by_cases g3 : ((c.toNat - 48 : Nat) : Int) > (m : Int)
            · have ho := hover (by omega)
              rw [if_pos g3, if_neg ho, decide_eq_false ho]
            · have hwn : IntKind.u64.wrap (((n * 10 : Nat) : Int) + ((c.toNat - 48 : Nat) : Int)) = ((n * 10 + (c.toNat - 48) : Nat) : Int) := by rw [IntKind.wrap_u64]; omega
              have hwi : wrap64 ((i : Int) + 1) = ((i + 1 : Nat) : Int) := by unfold wrap64; omega
              rw [if_neg g3, hwn, hwi, ih k (i + 1) (n * 10 + (c.toNat - 48)) (by omega) (by omega) (by omega)]
              have hiff : ((∀ x ∈ s.data.toList.drop (i + 1), isDig x) ∧ valD (n * 10 + (c.toNat - 48)) (s.data.toList.drop (i + 1)) ≤ m) ↔ ((∀ x ∈ c :: s.data.toList.drop (i + 1), isDig x) ∧ valD n (c :: s.data.toList.drop (i + 1)) ≤ m) := by
                rw [valD_cons]
                simp [hd]
              by_cases g4 : (∀ x ∈ s.data.toList.drop (i + 1), isDig x) ∧ valD (n * 10 + (c.toNat - 48)) (s.data.toList.drop (i + 1)) ≤ m
              · rw [if_pos g4, decide_eq_true g4, if_pos (hiff.1 g4), decide_eq_true (hiff.1 g4), valD_cons]
              · rw [if_neg g4, decide_eq_false g4, if_neg (fun h => g4 (hiff.2 h)), decide_eq_false (fun h => g4 (hiff.2 h))]
theorem refNum (s : ByteArray) (m : Nat) (hm : m < 18446744073709551616) (hs : s.size ≤ 281474976710656) (k : Nat) (hk : 2 * s.size + 3 ≤ k) :
    calepinref01_Number.f k s (m : Int) = some (((numV s m).1 : Int), (numV s m).2) := by
  have hsz := size_eq s
  have hn := numV_eq s m hm
  obtain ⟨k, rfl⟩ : ∃ k', k = k' + 1 := ⟨k - 1, by omega⟩
  have hl := refNum_l s m hm hs s.data.toList.length k 0 0 (by omega) (Nat.zero_le _) (by omega)
  simp only [List.drop_zero, Int.natCast_zero] at hl
  unfold calepinref01_Number.f
  by_cases h0 : (s.size : Int) = 0
  · rw [if_pos h0, calepinref01_Number.j0, if_pos rfl]
    have he : s.data.toList = [] := List.length_eq_zero_iff.1 (by omega)
    rcases hn with ⟨hc, _⟩ | ⟨_, hn⟩
    · exact absurd he hc.1
    · rw [hn]; rfl
  · rw [if_neg h0]
    have hne : s.data.toList ≠ [] := fun he => h0 (by rw [he, List.length_nil] at hsz; omega)
    by_cases h1 : (s.size : Int) > 1
    · rw [if_pos h1, if_pos (by omega)]
      have hl0 : 0 < s.data.toList.length := by omega
      have hb := bt_get s 0 hl0
      simp only [Int.natCast_zero] at hb
      rw [hb]
      have hhead : s.data.toList.head? = some (s.data.toList[0]'hl0) := by rw [List.head?_eq_getElem?, List.getElem?_eq_getElem hl0]
      obtain ⟨c, hc⟩ : ∃ c, s.data.toList[0]'hl0 = c := ⟨_, rfl⟩
      rw [hc] at hhead ⊢
      by_cases h2 : c = 48
      · subst h2
        rw [show (((48 : UInt8).toNat : Int) == 48) = true from rfl, calepinref01_Number.j0, if_pos rfl]
        rcases hn with ⟨hcn, _⟩ | ⟨_, hn⟩
        · exact absurd ⟨hhead, by omega⟩ hcn.2.2
        · rw [hn]; rfl
      · have h3 : ((c.toNat : Int) == 48) = false := beq_eq_false_iff_ne.2 fun h => h2 (UInt8.toNat_inj.1 (by show c.toNat = 48; omega))
        have hcan : Canon s.data.toList ↔ ∀ x ∈ s.data.toList, isDig x := ⟨fun h => h.2.1, fun h => ⟨hne, h, fun h4 => h2 (by have := hhead.symm.trans h4.1; exact Option.some.inj this)⟩⟩
        rw [h3, calepinref01_Number.j0, if_neg (by simp), hl]
        rcases hn with ⟨hcn, hv, hn⟩ | ⟨hcn, hn⟩
        · rw [hn, if_pos ⟨hcan.1 hcn, hv⟩, decide_eq_true ⟨hcan.1 hcn, hv⟩]
        · have : ¬ ((∀ x ∈ s.data.toList, isDig x) ∧ valD 0 s.data.toList ≤ m) := fun h => hcn ⟨hcan.2 h.1, h.2⟩
          rw [hn, if_neg this, decide_eq_false this]; rfl
    · rw [if_neg h1, calepinref01_Number.j0, if_neg (by simp), hl]
      have hcan : Canon s.data.toList ↔ ∀ x ∈ s.data.toList, isDig x := ⟨fun h => h.2.1, fun h => ⟨hne, h, fun h4 => by omega⟩⟩
      rcases hn with ⟨hcn, hv, hn⟩ | ⟨hcn, hn⟩
      · rw [hn, if_pos ⟨hcan.1 hcn, hv⟩, decide_eq_true ⟨hcan.1 hcn, hv⟩]
      · have : ¬ ((∀ x ∈ s.data.toList, isDig x) ∧ valD 0 s.data.toList ≤ m) := fun h => hcn ⟨hcan.2 h.1, h.2⟩
        rw [hn, if_neg this, decide_eq_false this]; rfl
end Go.Proofs.YtipfekjmcddelaaGreatDoor.PureHttpReads
