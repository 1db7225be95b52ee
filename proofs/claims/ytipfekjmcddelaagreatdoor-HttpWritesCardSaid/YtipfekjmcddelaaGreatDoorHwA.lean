/- HttpWrites, the plain law, part A. -/
import Derived.Test.YtipfekjmcddelaaGreatDoorXHttpWritesx11
import Derived.Test.YtipfekjmcddelaaGreatDoorTp
import Derived.Test.YtipfekjmcddelaaGreatDoorHp
import Derived.KernelRfl
namespace Go.Proofs.YtipfekjmcddelaaGreatDoor.PureHttpWrites
open Go.RowKit Go.Lib Go.Proofs.YtipfekjmcddelaaGreatDoor.XHttpWrites Go.Proofs.YtipfekjmcddelaaGreatDoorW.zgo Go.Proofs.YtipfekjmcddelaaGreatDoorW.zgp Go.Proofs.YtipfekjmcddelaaGreatDoorW.zgq
set_option maxRecDepth 100000
set_option linter.unusedSimpArgs false
theorem btN (s : ByteArray) (i : Nat) : bt s (i : Int) = ((s.data.toList.getD i 0).toNat : Int) := by
  have hsz := size_eq s
  unfold bt
  by_cases h : i < s.size
  · rw [dif_pos (by simpa using h), List.getD_eq_getElem?_getD, List.getElem?_eq_getElem (by omega)]
    rfl
  · rw [dif_neg (by simpa using h), List.getD_eq_getElem?_getD, List.getElem?_eq_none (by omega)]
    rfl
theorem byte_all {p : UInt8 → Bool} (h : ∀ x : Fin 256, p (UInt8.ofNat x.val) = true) (c : UInt8) : p c = true := by
  have := h ⟨c.toNat, c.toNat_lt⟩
  simpa using this
theorem set_at (A : List Int) (z v : Int) (R : List Int) : (A ++ z :: R).set A.length v = A ++ v :: R := by
  induction A with
  | nil => rfl
  | cons a A ih => simp
theorem low_t (s : ByteArray) (h : s.size ≤ 281474976710656) : zcy.f s = some (turnS s 65 90) := by
  unfold zcy.f zdm.f
  rw [if_pos ⟨h, by decide⟩]
  rfl
theorem zfz (s : ByteArray) (i : Nat) (h : i < s.data.toList.length) : bt s (i : Int) = ((s.data.toList[i]'h).toNat : Int) := by
  have h2 : i < s.size := by rw [size_eq]; exact h
  unfold bt
  rw [dif_pos (by simpa using h2)]
  rfl
theorem mk_l (l : List UInt8) : (⟨l.toArray⟩ : ByteArray).data.toList = l := rfl
theorem first_ge : ∀ k, 60 ≤ k → zcb.f k = some true := by
  have h0 : zcb.f 60 = some true := by kernel_rfl
  intro k hk
  obtain ⟨j, rfl⟩ : ∃ j, k = 60 + j := ⟨k - 60, by omega⟩
  clear hk
  induction j with
  | zero => exact h0
  | succ j ih => exact zcb.mono _ _ ih
theorem same_f (a b : ByteArray) (ha : a.size ≤ 281474976710656) (hb : b.size ≤ 281474976710656) : zce.f a b = some ((turnS a 65 90).data.toList == (turnS b 65 90).data.toList) := by
  unfold zce.f
  rw [low_t a ha, low_t b hb]
  simp only [Option.bind_some, Lib.toList_data]
def mkS (p : List UInt8 × List UInt8) : S62 := ⟨⟨p.1.toArray⟩, ⟨p.2.toArray⟩⟩
theorem only_f (s : ByteArray) (a b : Nat) (hs : s.size ≤ 281474976710656) : ∀ (j k i : Nat), i + j = s.data.toList.length → j + 1 ≤ k →
    zbm.l0 k s (a : Int) (b : Int) (s.size : Int) (i : Int) = some ((s.data.toList.drop i).all fun c => decide (a ≤ c.toNat) && decide (c.toNat ≤ b)) := by
  have hsz := size_eq s
  intro j
  induction j with
  | zero =>
    intro k i hi hk
    obtain ⟨k, rfl⟩ : ∃ k', k = k' + 1 := ⟨k - 1, by omega⟩
    rw [zbm.l0, if_neg (by omega), List.drop_of_length_le (by omega)]
    rfl
  | succ j ih =>
    intro k i hi hk
    obtain ⟨k, rfl⟩ : ∃ k', k = k' + 1 := ⟨k - 1, by omega⟩
    have hlt : i < s.data.toList.length := by omega
    have hb := zfz s i hlt
    have hd := List.drop_eq_getElem_cons hlt
    have hwi : wrap64 ((i : Int) + 1) = ((i + 1 : Nat) : Int) := by unfold wrap64; omega
    rw [zbm.l0, if_pos (by omega), if_pos (by omega), if_pos (by omega), hb, hd, List.all_cons]
    by_cases h1 : a ≤ s.data.toList[i].toNat
    · rw [if_neg (by omega)]
      by_cases h2 : s.data.toList[i].toNat ≤ b
      · rw [if_neg (by omega), hwi, ih k (i + 1) (by omega) (by omega), decide_eq_true h1, decide_eq_true h2]
        rfl
      · rw [if_pos (by omega), decide_eq_false h2]
        simp
    · rw [if_pos (by omega), decide_eq_false h1]
      rfl
theorem zes (s : ByteArray) (a b : Nat) (hs : s.size ≤ 281474976710656) (k : Nat) (hk : s.size + 1 ≤ k) :
    zbm.f k s (a : Int) (b : Int) = some (s.data.toList.all fun c => decide (a ≤ c.toNat) && decide (c.toNat ≤ b)) := by
  have := only_f s a b hs s.data.toList.length k 0 (by omega) (by rw [size_eq] at hk; exact hk)
  simpa [zbm.f] using this
theorem tab_text (c : UInt8) : (decide (32 ≤ (tabC c).toNat) && decide ((tabC c).toNat ≤ 126)) = textC c := by
  unfold tabC textC
  by_cases h : c = 9
  · subst h; rfl
  · rw [if_neg h, show (c == 9) = false from beq_eq_false_iff_ne.2 h, Bool.false_or]
theorem content_f (s : ByteArray) (hs : s.size ≤ 140737488355328) (k : Nat) (hk : s.size + 1 ≤ k) : zbt.f k s = some (s.data.toList.all textC) := by
  unfold zbt.f strings_ReplaceAll.f
  rw [if_pos ⟨hs, rfl, rfl⟩]
  simp only [Option.bind_some]
  have hz : (⟨(s.data.toList.map tabC).toArray⟩ : ByteArray).size = s.size := by rw [size_eq, mk_l, List.length_map, size_eq]
  have h := zes ⟨(s.data.toList.map tabC).toArray⟩ 32 126 (by rw [hz]; omega) k (by rw [hz]; exact hk)
  rw [show ((32 : Nat) : Int) = 32 from rfl, show ((126 : Nat) : Int) = 126 from rfl] at h
  rw [h, mk_l, List.all_map]
  simp only [Option.bind_some]
  congr 2
  funext c
  exact tab_text c
theorem asked_f (m t : ByteArray) (hm : m.size ≤ 281474976710656) (ht : t.size ≤ 281474976710656) (k : Nat) (hk : 300 ≤ k) : zck.f k m t = some (askedL m.data.toList t.data.toList) := by
  have zm := size_eq m
  have zt := size_eq t
  unfold zck.f askedL
  rw [Lib.toList_data, Lib.toList_data]
  by_cases h1 : m.data.toList = []
  · rw [if_pos h1, h1]; rfl
  · rw [if_neg h1, show m.data.toList.isEmpty = false from Bool.eq_false_iff.2 fun h => h1 (List.isEmpty_iff.1 h)]
    by_cases h2 : (m.size : Int) ≤ 16
    · have h := zes m 65 90 hm k (by omega)
      rw [show ((65 : Nat) : Int) = 65 from rfl, show ((90 : Nat) : Int) = 90 from rfl] at h
      rw [if_pos h2, h, decide_eq_true (show m.data.toList.length ≤ 16 by omega)]
      simp only [Option.bind_some]
      by_cases h3 : (m.data.toList.all fun c => decide (65 ≤ c.toNat) && decide (c.toNat ≤ 90)) = true
      · rw [if_pos h3, h3]
        by_cases h4 : t.data.toList = []
        · rw [if_pos h4, h4]; rfl
        · rw [if_neg h4, show t.data.toList.isEmpty = false from Bool.eq_false_iff.2 fun h => h4 (List.isEmpty_iff.1 h)]
          by_cases h5 : (t.size : Int) ≤ 256
          · have h' := zes t 33 126 ht k (by omega)
            rw [show ((33 : Nat) : Int) = 33 from rfl, show ((126 : Nat) : Int) = 126 from rfl] at h'
            rw [if_pos h5, h', decide_eq_true (show t.data.toList.length ≤ 256 by omega)]
            simp
          · rw [if_neg h5, decide_eq_false (show ¬ t.data.toList.length ≤ 256 by omega)]
            simp
      · rw [if_neg h3, Bool.eq_false_iff.2 h3]
        simp
    · rw [if_neg h2, decide_eq_false (show ¬ m.data.toList.length ≤ 16 by omega)]
      simp
theorem row1_f (m t : List UInt8) (h : askedL m t = true) (k : Nat) (hk : 300 ≤ k) : zbn.f k ⟨(reqL m t).toArray⟩ = some true := by
  obtain ⟨_, _, lm, lt⟩ := zdv h
  have hz : (⟨(reqL m t).toArray⟩ : ByteArray).size < 4294967281 := by rw [size_eq, mk_l]; simp [reqL, http11]; omega
  unfold zbn.f strings_Split.f
  rw [if_pos ⟨hz, by decide⟩, split_data1 ⟨(reqL m t).toArray⟩ 32 [m, t, http11] (by rw [mk_l]; exact req_split h)]
  simp only [Option.bind_some, List.map_cons, List.map_nil, List.length_cons, List.length_nil]
  rw [if_pos (by rfl), if_pos (by omega), if_pos (by omega)]
  have e0 : rdOf ByteArray.empty [(⟨m.toArray⟩ : ByteArray), ⟨t.toArray⟩, ⟨http11.toArray⟩] 0 = ⟨m.toArray⟩ := rfl
  have e1 : rdOf ByteArray.empty [(⟨m.toArray⟩ : ByteArray), ⟨t.toArray⟩, ⟨http11.toArray⟩] 1 = ⟨t.toArray⟩ := rfl
  have e2 : rdOf ByteArray.empty [(⟨m.toArray⟩ : ByteArray), ⟨t.toArray⟩, ⟨http11.toArray⟩] 2 = ⟨http11.toArray⟩ := rfl
  rw [e0, e1, e2, asked_f _ _ (by rw [size_eq, mk_l]; omega) (by rw [size_eq, mk_l]; omega) k hk, mk_l, mk_l, h]
  simp only [Option.bind_some]
  rw [if_pos trivial, if_pos (by omega), Lib.toList_data]
  rfl
theorem zgi (l : List UInt8) (sep : List UInt8) : (cut l sep).1.length ≤ l.length ∧ (cut l sep).2.1.length ≤ l.length := by
  unfold cut
  split
  · exact ⟨List.length_take_le' _ _, by rw [List.length_drop]; omega⟩
  · exact ⟨Nat.le_refl _, Nat.zero_le _⟩
theorem trim_le (l : List UInt8) : (trimS l blank).length ≤ l.length := by
  unfold trimS trimLeftS trimRightS
  have h1 := (List.dropWhile_sublist (blank.contains ·) (l := ((l.reverse.dropWhile (blank.contains ·)).reverse))).length_le
  have h2 := (List.dropWhile_sublist (blank.contains ·) (l := l.reverse)).length_le
  simp only [List.length_reverse] at h1 h2
  omega
theorem same_l (a b : List UInt8) (ha : a.length ≤ 281474976710656) (hb : b.length ≤ 281474976710656) : zce.f ⟨a.toArray⟩ ⟨b.toArray⟩ = some (lowL a == lowL b) := by
  rw [same_f _ _ (by rw [size_eq, mk_l]; exact ha) (by rw [size_eq, mk_l]; exact hb)]
  rfl
def outF : Option (List (List UInt8 × List UInt8) × Nat) → List S62 × Int × Bool
  | some x => (x.1.map mkS, (x.2 : Int), true)
  | none => ([], 0, false)
theorem rd_rows (rs : List (List UInt8)) (i : Nat) (h : i < rs.length) : rdOf ByteArray.empty (rs.map fun l => (⟨l.toArray⟩ : ByteArray)) (i : Int) = ⟨rs[i].toArray⟩ := by
  simp [rdOf, List.getElem?_eq_getElem h]
theorem fields_loop (rs : List (List UInt8)) (hr : ∀ r ∈ rs, r.length ≤ 8192) (hl : rs.length ≤ 4000000) : ∀ (j k i : Nat) (acc : List (List UInt8 × List UInt8)) (n : Nat) (had : Bool), i + j = rs.length → 2 * j + 8200 ≤ k → acc.length ≤ i →
    zau.l0 k (acc.map mkS) (n : Int) had (rs.map fun l => (⟨l.toArray⟩ : ByteArray)) (rs.length : Int) (i : Int) = some (outF (foldV (rs.drop i) acc n had)) := by
  intro j
  induction j with
  | zero =>
    intro k i acc n had hi hk ha
    obtain ⟨k, rfl⟩ : ∃ k', k = k' + 1 := ⟨k - 1, by omega⟩
    rw [zau.l0, if_neg (by omega), List.drop_of_length_le (by omega)]
    rfl
  | succ j ih =>
    intro k i acc n had hi hk ha
    obtain ⟨k, rfl⟩ : ∃ k', k = k' + 2 := ⟨k - 2, by omega⟩
    have hlt : i < rs.length := by omega
    have hd := List.drop_eq_getElem_cons hlt
    have hwi : wrap64 ((i : Int) + 1) = ((i + 1 : Nat) : Int) := by unfold wrap64; omega
    obtain ⟨r, hre⟩ : ∃ r, rs[i] = r := ⟨_, rfl⟩
    have hrl := hr rs[i] (List.getElem_mem hlt)
    rw [hre] at hrl hd
    have hc := zgi r [58]
    obtain ⟨c, hce⟩ : ∃ c, cut r [58] = c := ⟨_, rfl⟩
    rw [hce] at hc
    have htl := trim_le c.2.1
    obtain ⟨v, hv⟩ : ∃ v, trimS c.2.1 blank = v := ⟨_, rfl⟩
    rw [hv] at htl
    have hcut : strings_Cut.f ⟨r.toArray⟩ (⟨#[58]⟩ : ByteArray) = some (⟨c.1.toArray⟩, ⟨c.2.1.toArray⟩, c.2.2) := by
      unfold strings_Cut.f
      rw [if_pos ⟨by rw [size_eq, mk_l]; omega, rfl⟩, mk_l]
      show some ((⟨(cut r [58]).1.toArray⟩ : ByteArray), (⟨(cut r [58]).2.1.toArray⟩ : ByteArray), (cut r [58]).2.2) = _
      rw [hce]
    have htrim : zcj.f ⟨c.2.1.toArray⟩ (⟨#[32, 9]⟩ : ByteArray) = some ⟨v.toArray⟩ := by
      unfold zcj.f
      rw [if_pos ⟨by rw [size_eq, mk_l]; omega, rfl⟩, mk_l]
      show some (⟨(trimS c.2.1 blank).toArray⟩ : ByteArray) = _
      rw [hv]
    have hbad : rowV r = .bad → zau.j1 (k + 1) (acc.map mkS) (n : Int) had ⟨c.1.toArray⟩ ⟨v.toArray⟩ (rs.map fun l => (⟨l.toArray⟩ : ByteArray)) (rs.length : Int) (i : Int) true = some (outF (foldV (r :: rs.drop (i + 1)) acc n had)) := by
      intro h
      rw [zau.j1, if_pos rfl, foldV, h]
      rfl
    rw [zau.l0, if_pos (by omega), if_pos (by omega), if_pos (by rw [List.length_map]; omega), rd_rows rs i hlt, hre, hcut]
    simp only [Option.bind_some]
    rw [htrim, hd]
    simp only [Option.bind_some]
    unfold rowV at hbad
    rw [hce, hv] at hbad
    by_cases h1 : c.2.2 = true
    · rw [if_pos h1]
      unfold zct.f
      simp only [Option.bind_some]
      by_cases h2 : nameV ⟨c.1.toArray⟩ = true
      · rw [if_pos h2, content_f _ (by rw [size_eq, mk_l]; omega) (k + 1) (by rw [size_eq, mk_l]; omega), mk_l]
        simp only [Option.bind_some]
        by_cases h3 : v.all textC = true
        · rw [if_pos h3, show (⟨#[84, 114, 97, 110, 115, 102, 101, 114, 45, 69, 110, 99, 111, 100, 105, 110, 103]⟩ : ByteArray) = ⟨tencL.toArray⟩ from rfl, same_l _ _ (by omega) (by decide)]
          simp only [Option.bind_some]
          by_cases h4 : lowL c.1 = lowL tencL
          · rw [show (lowL c.1 == lowL tencL) = true from beq_iff_eq.2 h4]
            exact hbad (by rw [if_neg (fun h => h.2.2.2 h4)])
          · have hrow : rowV r = if lowL c.1 = lowL clenL then (if (numV ⟨v.toArray⟩ 65536).2 = true then .len (numV ⟨v.toArray⟩ 65536).1 else .bad) else .fld c.1 v := by
              unfold rowV
              rw [hce, hv, if_pos ⟨h1, h2, h3, h4⟩]
            rw [show (lowL c.1 == lowL tencL) = false from beq_eq_false_iff_ne.2 h4, zau.j1, if_neg (by simp), show (⟨#[67, 111, 110, 116, 101, 110, 116, 45, 76, 101, 110, 103, 116, 104]⟩ : ByteArray) = ⟨clenL.toArray⟩ from rfl, same_l _ _ (by omega) (by decide), foldV, hrow]
            simp only [Option.bind_some]
            by_cases h5 : lowL c.1 = lowL clenL
            · have hnum : zcl.f ⟨v.toArray⟩ 65536 = some (((numV ⟨v.toArray⟩ 65536).1 : Int), (numV ⟨v.toArray⟩ 65536).2) := by
                unfold zcl.f
                rw [if_pos ⟨by rw [size_eq, mk_l]; omega, by omega, by omega⟩]
                rfl
              rw [if_pos (beq_iff_eq.2 h5), hnum, if_pos h5]
              simp only [Option.bind_some]
              have hle : (numV ⟨v.toArray⟩ 65536).1 ≤ 65536 := by
                rcases numV_o ⟨v.toArray⟩ 65536 (by omega) with ⟨z, h, _, e⟩ | ⟨_, e⟩ <;> rw [e] <;> omega
              generalize numV ⟨v.toArray⟩ 65536 = q at hle ⊢
              obtain ⟨z, b⟩ := q
              simp only at hle ⊢
              cases had with
              | true =>
                rw [if_pos rfl]
                cases b <;> simp [outF]
              | false =>
                rw [if_neg (by simp)]
                cases b with
                | false => simp [outF]
                | true =>
                  have hwz : wrap64 (z : Int) = (z : Int) := by unfold wrap64; omega
                  rw [if_pos rfl, hwz, hwi, ih k (i + 1) acc z true (by omega) (by omega) (by omega)]
                  rfl
            · rw [if_neg (by rw [beq_iff_eq]; exact h5), if_neg h5, if_pos (by rw [List.length_map]; omega), hwi]
              have := ih k (i + 1) (acc ++ [(c.1, v)]) n had (by omega) (by omega) (by simp; omega)
              rw [List.map_append] at this
              exact this
        · rw [if_neg h3]
          exact hbad (by rw [if_neg (fun h => h3 h.2.2.1)])
      · rw [if_neg h2]
        exact hbad (by rw [if_neg (fun h => h2 h.2.1)])
    · rw [if_neg h1]
      exact hbad (by rw [if_neg (fun h => h1 h.1)])
theorem fields_f (rs : List (List UInt8)) (hr : ∀ r ∈ rs, r.length ≤ 8192) (hl : rs.length ≤ 32) (k : Nat) (hk : 8300 ≤ k) :
    zau.f k (rs.map fun l => (⟨l.toArray⟩ : ByteArray)) = some (outF (foldV rs [] 0 false)) := by
  have := fields_loop rs hr (by omega) rs.length k 0 [] 0 false (by omega) (by omega) (by simp)
  unfold zau.f
  rw [List.length_map, if_neg (by omega)]
  simpa using this
theorem zfb : ∀ (rs : List (List UInt8)) (acc : List (List UInt8 × List UInt8)) (n : Nat) (had : Bool) (x : List (List UInt8 × List UInt8) × Nat), n ≤ 65536 → foldV rs acc n had = some x → x.2 ≤ 65536
  | [], acc, n, _, x, hn, h => by
    rw [foldV] at h
    cases h
    exact hn
  | r :: rs, acc, n, had, x, hn, h => by
    rw [foldV] at h
    have hm : ∀ m, rowV r = .len m → m ≤ 65536 := by
      intro m hm
      unfold rowV at hm
      have hle : (numV ⟨(trimS (cut r [58]).2.1 blank).toArray⟩ 65536).1 ≤ 65536 := by
        rcases numV_o ⟨(trimS (cut r [58]).2.1 blank).toArray⟩ 65536 (by omega) with ⟨z, h, _, e⟩ | ⟨_, e⟩ <;> rw [e] <;> omega
      split at hm
      · split at hm
        · split at hm
          · cases hm
            exact hle
          · cases hm
        · cases hm
      · cases hm
    cases hr : rowV r with
    | bad => rw [hr] at h; cases h
    | len m =>
      rw [hr] at h
      simp only at h
      split at h
      · cases h
      · exact zfb rs acc m true x (hm m hr) h
    | fld a b =>
      rw [hr] at h
      exact zfb rs _ n had x hn h
theorem joinL_le : ∀ (r : List UInt8) (rs : List (List UInt8)) (x : List UInt8), x ∈ r :: rs → x.length ≤ (joinL r rs).length
  | r, [], x, h => by
    rw [joinL]
    rcases List.mem_cons.1 h with rfl | h
    · exact Nat.le_refl _
    · cases h
  | r, r' :: rs, x, h => by
    rw [joinL, List.length_append, List.length_cons, List.length_cons]
    rcases List.mem_cons.1 h with rfl | h
    · omega
    · have := joinL_le r' rs x h
      omega
theorem wrapE (x : Int) (n : Nat) (hx : x = (n : Int)) (h : n ≤ 9223372036854775807) : wrap64 x = (n : Int) := by
  subst hx
  unfold wrap64
  omega
def ansP (r : List UInt8) (J : Nat) (rest : List UInt8) : Option (List (List UInt8 × List UInt8) × Nat) → ByteArray × List S62 × ByteArray × Int × Int
  | none => (⟨#[]⟩, [], ⟨#[]⟩, 0, 80)
  | some x => if rest.length < x.2 then (⟨#[]⟩, [], ⟨#[]⟩, 0, 91) else (⟨r.toArray⟩, x.1.map mkS, ⟨(rest.take x.2).toArray⟩, ((J + 4 + x.2 : Nat) : Int), 0)
theorem parse_go (s : ByteArray) (m t : List UInt8) (rs : List (List UInt8)) (rest : List UInt8) (hs : s.size ≤ 140737488355328) (hd : s.data.toList = joinL (reqL m t) rs ++ (crlf2 ++ rest)) (ha : askedL m t = true)
    (hr : ∀ x ∈ rs, No13 x ∧ x ≠ []) (hJ : (joinL (reqL m t) rs).length + 4 ≤ 8192) (hl : rs.length ≤ 32) (k : Nat) (hk : 8400 ≤ k) :
    zbd.f k s = some (ansP (reqL m t) (joinL (reqL m t) rs).length rest (foldV rs [] 0 false)) := by
  obtain ⟨k, rfl⟩ : ∃ k', k = k' + 2 := ⟨k - 2, by omega⟩
  have hsz := size_eq s
  have hend := fun rest' => zff (reqL m t) rs rest' (req_no13 ha) hr
  have hrows := fun s h => rows_data s (reqL m t) rs (req_no13 ha) (fun x hx => (hr x hx).1) h
  have hlens : ∀ r ∈ rs, r.length ≤ 8192 := fun r h => by
    have := joinL_le (reqL m t) rs r (List.mem_cons_of_mem _ h)
    omega
  obtain ⟨JL, hJL⟩ : ∃ JL, joinL (reqL m t) rs = JL := ⟨_, rfl⟩
  rw [hJL] at hd hJ hend hrows ⊢
  obtain ⟨J, hJe⟩ : ∃ J, JL.length = J := ⟨_, rfl⟩
  have hlen : s.data.toList.length = J + 4 + rest.length := by rw [hd, List.length_append, List.length_append, hJe]; show J + (4 + _) = _; omega
  obtain ⟨N, hN⟩ : ∃ N : Nat, N = min s.size 8192 := ⟨_, rfl⟩
  have hmn : mn (s.size : Int) 8192 = (N : Int) := by unfold mn; split <;> omega
  have htk : (s.data.toList.drop 0).take (N - 0) = JL ++ (crlf2 ++ rest.take (N - J - 4)) := by
    rw [List.drop_zero, hd, Nat.sub_zero, List.take_append, List.take_append, List.take_of_length_le (by omega), List.take_of_length_le (by show 4 ≤ _; omega), hJe]
    rfl
  have hidx : strings_Index.f (s.extract 0 N) ⟨#[13, 10, 13, 10]⟩ = some (J : Int) := by
    unfold strings_Index.f
    rw [if_pos ⟨by rw [size_eq, zet, mk_l, List.length_take, List.length_drop]; omega, by decide⟩, zet, htk]
    congr 1
    rw [← hJe]
    exact hend _
  unfold zbd.f
  rw [hmn]
  clear hmn
  rw [if_pos (by omega), if_pos (by omega), Int.toNat_natCast, hidx]
  simp only [Option.bind_some]
  rw [if_neg (by omega), zbd.j0, if_neg (by simp), if_neg (by omega), if_pos (by omega), if_pos (by omega), Int.toNat_natCast]
  have hhead : s.extract 0 J = ⟨JL.toArray⟩ := by
    rw [zet, List.drop_zero, Nat.sub_zero, hd, List.take_append, List.take_of_length_le (by omega), hJe, Nat.sub_self, List.take_zero, List.append_nil]
  have hspl : strings_Split.f ⟨JL.toArray⟩ (⟨#[13, 10]⟩ : ByteArray) = some ((reqL m t :: rs).map fun l => (⟨l.toArray⟩ : ByteArray)) := by
    unfold strings_Split.f
    rw [if_pos ⟨by rw [size_eq, mk_l]; omega, by decide⟩, hrows _ rfl]
  rw [hhead, hspl]
  simp only [Option.bind_some]
  have hl1 : (((reqL m t :: rs).map fun l => (⟨l.toArray⟩ : ByteArray)).length : Int) = rs.length + 1 := by simp
  rw [hl1, if_pos (by omega), show ((reqL m t :: rs).map fun l => (⟨l.toArray⟩ : ByteArray)).drop 1 = rs.map fun l => (⟨l.toArray⟩ : ByteArray) from rfl, fields_f rs hlens hl (k + 1) (by omega)]
  simp only [Option.bind_some]
  have hle := zfb rs [] 0 false
  cases hF : foldV rs [] 0 false with
  | none =>
    simp only [outF, ansP, Bool.false_eq_true, if_false]
    rw [zbd.j1, if_pos rfl]
  | some x =>
    obtain ⟨fs, n⟩ := x
    have hn : n ≤ 65536 := hle (fs, n) (Nat.zero_le _) hF
    clear hle
    simp only [outF]
    have h0 : rdOf ByteArray.empty ((reqL m t :: rs).map fun l => (⟨l.toArray⟩ : ByteArray)) 0 = ⟨(reqL m t).toArray⟩ := rfl
    rw [if_pos trivial, if_pos (by omega), h0, row1_f m t ha (k + 1) (by omega), Option.bind_some, zbd.j1, if_neg (by simp), wrapE ((J : Int) + 4) (J + 4) (by omega) (by omega), wrapE ((s.size : Int) - ((J + 4 : Nat) : Int)) rest.length (by omega) (by omega), wrapE (((J + 4 : Nat) : Int) + (n : Int)) (J + 4 + n) (by omega) (by omega), hl1, h0]
    by_cases h : rest.length < n
    · rw [if_pos (by omega)]
      exact congrArg some (if_pos h).symm
    · refine Eq.trans ?_ (congrArg some (if_neg h).symm)
      rw [if_neg (by omega), if_pos (by omega), if_pos (by omega), if_pos (by omega), if_pos (by omega), Int.toNat_natCast, Int.toNat_natCast, zet]
      have e : s.data.toList.drop (J + 4) = rest := by
        rw [hd, ← List.append_assoc]
        exact List.drop_left' (by rw [List.length_append, hJe]; rfl)
      rw [e, Nat.add_sub_cancel_left, hJe]
def ansR (m t : List UInt8) (J : Nat) (rest : List UInt8) : Option (List (List UInt8 × List UInt8) × Nat) → ByteArray × ByteArray × List S62 × ByteArray × Int × Int
  | none => (⟨#[]⟩, ⟨#[]⟩, [], ⟨#[]⟩, 0, 80)
  | some x => if rest.length < x.2 then (⟨#[]⟩, ⟨#[]⟩, [], ⟨#[]⟩, 0, 91) else (⟨m.toArray⟩, ⟨t.toArray⟩, x.1.map mkS, ⟨(rest.take x.2).toArray⟩, ((J + 4 + x.2 : Nat) : Int), 0)
theorem request_go (s : ByteArray) (m t : List UInt8) (rs : List (List UInt8)) (rest : List UInt8) (hs : s.size ≤ 140737488355328) (hd : s.data.toList = joinL (reqL m t) rs ++ (crlf2 ++ rest)) (ha : askedL m t = true)
    (hr : ∀ x ∈ rs, No13 x ∧ x ≠ []) (hJ : (joinL (reqL m t) rs).length + 4 ≤ 8192) (hl : rs.length ≤ 32) (k : Nat) (hk : 8400 ≤ k) :
    zat.f k s = some (ansR m t (joinL (reqL m t) rs).length rest (foldV rs [] 0 false)) := by
  unfold zat.f
  rw [parse_go s m t rs rest hs hd ha hr hJ hl k hk]
  simp only [Option.bind_some]
  cases foldV rs [] 0 false with
  | none => rfl
  | some x =>
    by_cases h : rest.length < x.2
    · rw [show ansP (reqL m t) (joinL (reqL m t) rs).length rest (some x) = (⟨#[]⟩, [], ⟨#[]⟩, 0, 91) from if_pos h, show ansR m t (joinL (reqL m t) rs).length rest (some x) = (⟨#[]⟩, ⟨#[]⟩, [], ⟨#[]⟩, 0, 91) from if_pos h]
      rfl
    · obtain ⟨_, _, lm, lt⟩ := zdv ha
      have hspl : strings_Split.f ⟨(reqL m t).toArray⟩ (⟨#[32]⟩ : ByteArray) = some ([m, t, http11].map fun l => (⟨l.toArray⟩ : ByteArray)) := by
        unfold strings_Split.f
        rw [if_pos ⟨by rw [size_eq, mk_l]; simp [reqL, http11]; omega, by decide⟩, split_data1 ⟨(reqL m t).toArray⟩ 32 [m, t, http11] (by rw [mk_l]; exact req_split ha)]
      obtain ⟨J, hJ⟩ : ∃ J, (joinL (reqL m t) rs).length = J := ⟨_, rfl⟩
      rw [hJ, show ansP (reqL m t) J rest (some x) = (⟨(reqL m t).toArray⟩, x.1.map mkS, ⟨(rest.take x.2).toArray⟩, ((J + 4 + x.2 : Nat) : Int), 0) from if_neg h,
        show ansR m t J rest (some x) = (⟨m.toArray⟩, ⟨t.toArray⟩, x.1.map mkS, ⟨(rest.take x.2).toArray⟩, ((J + 4 + x.2 : Nat) : Int), 0) from if_neg h]
      simp only [if_true]
      rw [hspl]
      rfl
theorem index_col (x y : List UInt8) (h : ∀ c ∈ x, c ≠ 58) : indexByte (x ++ 58 :: y) 58 = x.length := by
  induction x with
  | nil => rfl
  | cons c x ih =>
    have hne := h c List.mem_cons_self
    have := ih fun z hz => h z (List.mem_cons_of_mem _ hz)
    rw [List.cons_append, indexByte]
    simp only [this]
    simp [hne]
theorem cut_col (x y : List UInt8) (h : ∀ c ∈ x, c ≠ 58) : cut (x ++ 58 :: y) [58] = (x, y, true) := by
  unfold cut
  rw [index_one, index_col x y h, if_pos (by omega)]
  simp
theorem zeh (n : Nat) : ∀ c ∈ decDigits n, textC c = true ∧ blank.contains c = false ∧ c ≠ 13 := by
  intro c hc
  have h := zgc n c hc
  unfold isDig at h
  have hh : ∀ c : UInt8, ((!(decide (48 ≤ c.toNat) && decide (c.toNat ≤ 57))) || (textC c && !blank.contains c && c != 13)) = true := byte_all (p := fun c => (!(decide (48 ≤ c.toNat) && decide (c.toNat ≤ 57))) || (textC c && !blank.contains c && c != 13)) (by decide +kernel)
  have h1 := hh c
  have h2 : (decide (48 ≤ c.toNat) && decide (c.toNat ≤ 57)) = true := by
    rw [Bool.and_eq_true, decide_eq_true_eq, decide_eq_true_eq]
    exact h
  rw [h2] at h1
  simp only [Bool.not_true, Bool.false_or, Bool.and_eq_true, Bool.not_eq_true', bne_iff_ne] at h1
  exact ⟨h1.1.1, h1.1.2, h1.2⟩
def clenR (n : Nat) : List UInt8 := clenL ++ 58 :: 32 :: decDigits n
theorem clen_name : nameV ⟨clenL.toArray⟩ = true := (zfe _).2 (by rw [mk_l]; decide +kernel)
theorem clen_row (n : Nat) (hn : n < 18446744073709551616) : rowV (clenR n) = if n ≤ 65536 then .len n else .bad := by
  have ht : trimS (32 :: decDigits n) blank = decDigits n := by
    rw [zfc rfl]
    exact trim_id (fun c h => (zeh n c (List.mem_of_mem_head? h)).2.1) (fun c h => (zeh n c (List.mem_of_getLast? h)).2.1)
  unfold rowV clenR
  rw [cut_col clenL _ (by decide)]
  simp only
  rw [ht, if_pos ⟨trivial, clen_name, List.all_eq_true.2 fun c h => (zeh n c h).1, by decide⟩, if_pos trivial, zfs n 65536 (by omega)]
  by_cases h : n ≤ 65536
  · rw [if_pos h, if_pos h, if_pos rfl]
  · rw [if_neg h, if_neg h, if_neg (by simp)]
theorem clen_13 (n : Nat) : No13 (clenR n) ∧ clenR n ≠ [] := by
  refine ⟨?_, by simp [clenR, clenL]⟩
  intro c hc
  unfold clenR at hc
  rcases List.mem_append.1 hc with hc | hc
  · exact (show ∀ c ∈ clenL, c ≠ 13 by decide) c hc
  · rcases List.mem_cons.1 hc with rfl | hc
    · decide
    · rcases List.mem_cons.1 hc with rfl | hc
      · decide
      · exact (zeh n c hc).2.2
def gLower (c : UInt8) : Int := if 65 ≤ c.toNat ∧ c.toNat ≤ 90 then (((c.toNat + 32) % 256 : Nat) : Int) else (c.toNat : Int)
theorem gLower_turn (c : UInt8) : UInt8.ofNat (gLower c).toNat = turnB 65 90 c := by
  have := byte_all (p := fun c => UInt8.ofNat (gLower c).toNat == turnB 65 90 c) (by decide +kernel) c
  exact beq_iff_eq.1 this
theorem numsLower (s : ByteArray) : strOfNums (s.data.toList.map gLower) = turnS s 65 90 := by
  apply ByteArray.ext
  apply Array.toList_inj.1
  rw [strOfNums_data, List.map_map]
  exact List.map_congr_left fun c _ => gLower_turn c
theorem refLower_l (s : ByteArray) (hs : s.size ≤ 281474976710656) : ∀ (j k i : Nat), i + j = s.data.toList.length → j + 1 ≤ k →
    zba.l0 k s ((s.data.toList.take i).map gLower ++ List.replicate j 0) (s.data.toList.length : Int) (i : Int) = some (strOfNums (s.data.toList.map gLower)) := by
  have hsz := size_eq s
  intro j
  induction j with
  | zero =>
    intro k i hi hk
    obtain ⟨k, rfl⟩ : ∃ k', k = k' + 1 := ⟨k - 1, by omega⟩
    rw [zba.l0, if_neg (by omega), List.replicate_zero, List.append_nil, List.take_of_length_le (by omega)]
  | succ j ih =>
    intro k i hi hk
    obtain ⟨k, rfl⟩ : ∃ k', k = k' + 1 := ⟨k - 1, by omega⟩
    have hA : ((s.data.toList.take i).map gLower).length = i := by rw [List.length_map, List.length_take]; omega
    have hset : ∀ z v : Int, ((s.data.toList.take i).map gLower ++ z :: List.replicate j 0).set ((i : Int)).toNat v = (s.data.toList.take i).map gLower ++ v :: List.replicate j 0 := fun z v => by
      rw [Int.toNat_natCast]
      conv => lhs; rw [show i = ((s.data.toList.take i).map gLower).length from hA.symm]
      rw [← hA]
      simp only [hA]
      have := set_at ((s.data.toList.take i).map gLower) z v (List.replicate j 0)
      rw [hA] at this
      exact this
    obtain ⟨c, hc⟩ : ∃ c, s.data.toList.getD i 0 = c := ⟨_, rfl⟩
    have hci : s.data.toList[i]'(by omega) = c := by rw [← hc, List.getD_eq_getElem?_getD, List.getElem?_eq_getElem (by omega)]; rfl
    have hc256 := c.toNat_lt
    have htake : (s.data.toList.take (i + 1)).map gLower = (s.data.toList.take i).map gLower ++ [gLower c] := by
      rw [List.take_add_one, List.getElem?_eq_getElem (by omega), hci]
      simp
    have hnext := ih k (i + 1) (by omega) (by omega)
    rw [htake, List.append_assoc, List.singleton_append] at hnext
    have hwi : wrap64 ((i : Int) + 1) = ((i + 1 : Nat) : Int) := by unfold wrap64; omega
    rw [zba.l0, if_pos (by omega), if_pos (by omega), if_pos (by omega), if_pos (by rw [List.length_append, hA, List.length_replicate]; omega), List.replicate_succ, hset, btN, hc, hwi]
    simp only [Option.bind_some, hset]
    by_cases h1 : 65 ≤ c.toNat
    · rw [if_pos (by omega)]
      by_cases h2 : c.toNat ≤ 90
      · rw [if_pos (by omega), show (((c.toNat : Int) + 32) % 256) = gLower c by unfold gLower; rw [if_pos ⟨h1, h2⟩]; omega]
        exact hnext
      · rw [if_neg (by omega), show (c.toNat : Int) = gLower c by unfold gLower; rw [if_neg (by omega)]]
        exact hnext
    · rw [if_neg (by omega), show (c.toNat : Int) = gLower c by unfold gLower; rw [if_neg (by omega)]]
      exact hnext
theorem refLower (s : ByteArray) (hs : s.size ≤ 140737488351232) (k : Nat) (hk : s.size + 1 ≤ k) : zba.f k s = some (turnS s 65 90) := by
  have hsz := size_eq s
  have h := refLower_l s (by omega) s.data.toList.length k 0 (by omega) (by omega)
  rw [List.take_zero, List.map_nil, List.nil_append, numsLower] at h
  unfold zba.f
  rw [if_pos (by omega), if_pos (by omega)]
  simp only [Option.bind_some, Int.toNat_natCast, List.length_replicate]
  rw [hsz]
  exact h
theorem refDec (x : ByteArray) : ∀ (n k : Nat), n < 18446744073709551616 → nDigits n ≤ k → x.size + nDigits n ≤ 1000 →
    zbh.l0 k (n : Int) x = some ⟨(decDigits n ++ x.data.toList).toArray⟩ := by
  intro n
  induction n using Nat.strongRecOn generalizing x with
  | _ n ih =>
    intro k hn hk hx
    have hnp := nDigits_pos n
    obtain ⟨k, rfl⟩ : ∃ k', k = k' + 1 := ⟨k - 1, by omega⟩
    have hmod : (IntKind.u64.wrap (48 + (Int.tmod (n : Int) 10))) % 256 = ((48 + n % 10 : Nat) : Int) := by
      rw [IntKind.wrap_u64, Int.tmod_eq_emod_of_nonneg (by omega)]; omega
    have hdiv : IntKind.u64.wrap (Int.tdiv (n : Int) 10) = ((n / 10 : Nat) : Int) := by
      rw [IntKind.wrap_u64, Int.tdiv_eq_ediv_of_nonneg (by omega)]; omega
    have hone : strOfNums [((48 + n % 10 : Nat) : Int)] ++ x = ⟨([UInt8.ofNat (48 + n % 10)] ++ x.data.toList).toArray⟩ := by
      apply ByteArray.ext
      apply Array.toList_inj.1
      simp only [ByteArray.data_append, Array.toList_append, strOfNums_data, List.map_cons, List.map_nil, Int.toNat_natCast]
    rw [zbh.l0]
    simp only [Option.bind_some]
    rw [hmod, hdiv, hone, if_pos (by rw [strOfNums_size]; simp; omega)]
    by_cases h : n < 10
    · rw [if_pos (by omega), decDigits_one h, show n % 10 = n by omega]
    · rw [if_neg (by omega), ih (n / 10) (by omega) _ k (by omega) (by rw [nDigits_big h] at hk; omega) (by rw [nDigits_big h] at hx; rw [size_eq]; show ([_] ++ x.data.toList).length + _ ≤ _; rw [List.length_append, List.length_singleton, ← size_eq]; omega)]
      conv => rhs; rw [decDigits, dif_neg h]
      rw [List.append_assoc]
theorem dec_r (k n : Nat) (hk : 200 ≤ k) (h : n < 18446744073709551616) : zbh.f k (n : Int) = some ⟨(decDigits n).toArray⟩ := by
  have hle := zfv n h
  rw [decDigits_length] at hle
  have := refDec ⟨#[]⟩ n k h (by omega) (by show 0 + nDigits n ≤ 1000; omega)
  simpa [zbh.f] using this
theorem zey (a b : List UInt8) : (⟨a.toArray⟩ : ByteArray) ++ (⟨b.toArray⟩ : ByteArray) = ⟨(a ++ b).toArray⟩ := by
  apply ByteArray.ext
  apply Array.toList_inj.1
  simp [ByteArray.data_append]
theorem zdt (l : List UInt8) : (⟨l.toArray⟩ : ByteArray).size = l.length := by rw [size_eq, mk_l]
theorem zgf (n : Nat) (h : n < 18446744073709551616) : IntKind.u64.wrap (n : Int) = (n : Int) := by rw [IntKind.wrap_u64]; omega
def goodF (x : S62) : Bool := nameV x.f0 && (x.f1.data.toList.all textC && (decide (trimS x.f1.data.toList blank = x.f1.data.toList) && (!(lowL x.f0.data.toList == lowL clenL) && !(lowL x.f0.data.toList == lowL tencL))))
def rowF (x : S62) : List UInt8 := x.f0.data.toList ++ 58 :: 32 :: x.f1.data.toList
def rowsF (l : List S62) : List UInt8 := l.flatMap fun x => rowF x ++ [13, 10]
def endF (h : List UInt8) (b : ByteArray) : ByteArray × Int :=
  if 65536 < b.size then (⟨#[]⟩, 11) else if 8192 < (h ++ (clenR b.size ++ crlf2)).length then (⟨#[]⟩, 11) else (⟨(h ++ (clenR b.size ++ (crlf2 ++ b.data.toList))).toArray⟩, 0)
theorem rd_at (l : List S62) (i : Nat) (h : i < l.length) : zak l (i : Int) = l[i] := by simp [zak, List.getElem?_eq_getElem h]
theorem clenR_len (n : Nat) (h : n < 18446744073709551616) : (clenR n).length ≤ 36 := by
  have := zfv n h
  simp only [clenR, clenL, List.length_append, List.length_cons, List.length_nil]
  omega
theorem end_go (k : Nat) (a : List UInt8) (l : List S62) (h b : ByteArray) (hb : b.size ≤ 140737488351232) (ha : a.length ≤ 9007199254741992) (i : Nat) (hi : i = l.length) :
    zaz.l0 (k + 1) ⟨a.toArray⟩ l (l.length : Int) (i : Int) h l b = some (endF a b) := by
  have hdec : zcm.f (b.size : Int) = some ⟨(decDigits b.size).toArray⟩ := by
    unfold zcm.f
    rw [if_pos ⟨by omega, by omega⟩, Int.toNat_natCast]
  have hdl := zfv b.size (by omega)
  have hcl := clenR_len b.size (by omega)
  have hE : (((⟨#[67, 111, 110, 116, 101, 110, 116, 45, 76, 101, 110, 103, 116, 104, 58, 32]⟩ : ByteArray) ++ (⟨(decDigits b.size).toArray⟩ : ByteArray)) ++ (⟨#[13, 10]⟩ : ByteArray)) ++ (⟨#[13, 10]⟩ : ByteArray) = ⟨(clenR b.size ++ crlf2).toArray⟩ := by
    rw [zey, zey, zey]
    simp [clenR, clenL, crlf2]
  have hEl : (clenR b.size ++ crlf2).length = (clenR b.size).length + 4 := by rw [List.length_append]; rfl
  have hds : (⟨(decDigits b.size).toArray⟩ : ByteArray).size = (decDigits b.size).length := zdt _
  have hcs : (⟨#[67, 111, 110, 116, 101, 110, 116, 45, 76, 101, 110, 103, 116, 104, 58, 32]⟩ : ByteArray).size = 16 := rfl
  have h2s : (⟨#[13, 10]⟩ : ByteArray).size = 2 := rfl
  have has : (⟨a.toArray⟩ : ByteArray).size = a.length := zdt _
  have hes : (⟨(clenR b.size ++ crlf2).toArray⟩ : ByteArray).size = (clenR b.size ++ crlf2).length := zdt _
  rw [zaz.l0, if_neg (by omega), zgf _ (by omega), hdec, Option.bind_some, if_pos (by rw [hds]; omega), if_pos (by rw [ByteArray.size_append, hcs, hds]; omega),
    if_pos (by rw [ByteArray.size_append, ByteArray.size_append, hcs, hds, h2s]; omega), hE, if_pos (by rw [has, hes, hEl]; omega), zey]
  unfold endF
  by_cases h1 : 65536 < b.size
  · rw [if_pos (by omega), if_pos h1]
  · rw [if_neg (by omega), if_neg h1, zdt (a ++ (clenR b.size ++ crlf2))]
    by_cases h2 : 8192 < (a ++ (clenR b.size ++ crlf2)).length
    · rw [if_pos (by omega), if_pos h2]
    · have hbl : (⟨(a ++ (clenR b.size ++ crlf2)).toArray⟩ : ByteArray) ++ b = ⟨(a ++ (clenR b.size ++ (crlf2 ++ b.data.toList))).toArray⟩ := by
        conv => lhs; rw [← Lib.mk_data b, zey]
        simp only [List.append_assoc]
      rw [if_neg (by omega), if_neg h2, if_pos (by omega), hbl]
theorem printed_loop (l : List S62) (h b : ByteArray) (hb : b.size ≤ 140737488351232) (M : Nat) (hM : M ≤ 140737488351232) (hx : ∀ x ∈ l, x.f0.size ≤ M ∧ x.f1.size ≤ M) (hl : l.length < 32) : ∀ (j k i : Nat) (a : List UInt8), i + j = l.length → j + M + 2 ≤ k → a.length ≤ 1000 + i * 281474976710656 →
    zaz.l0 k ⟨a.toArray⟩ l (l.length : Int) (i : Int) h l b = some (if (l.drop i).all goodF = true then endF (a ++ rowsF (l.drop i)) b else (⟨#[]⟩, 80)) := by
  intro j
  induction j with
  | zero =>
    intro k i a hi hk ha
    obtain ⟨k, rfl⟩ : ∃ k', k = k' + 1 := ⟨k - 1, by omega⟩
    rw [end_go k a l h b hb (by omega) i (by omega), List.drop_of_length_le (by omega)]
    simp [rowsF]
  | succ j ih =>
    intro k i a hi hk ha
    obtain ⟨k, rfl⟩ : ∃ k', k = k' + 1 := ⟨k - 1, by omega⟩
    have hlt : i < l.length := by omega
    have hd := List.drop_eq_getElem_cons hlt
    have hz := hx l[i] (List.getElem_mem hlt)
    obtain ⟨x, hxe⟩ : ∃ x, l[i] = x := ⟨_, rfl⟩
    rw [hxe] at hd hz
    obtain ⟨hz0, hz1⟩ := hz
    have hbad : goodF x = false → some ((⟨#[]⟩ : ByteArray), (80 : Int)) = some (if (x :: l.drop (i + 1)).all goodF = true then endF (a ++ rowsF (x :: l.drop (i + 1))) b else (⟨#[]⟩, 80)) := fun h => by
      rw [List.all_cons, h, Bool.false_and, if_neg (by simp)]
    have hsame : ∀ c : List UInt8, c.length ≤ 100 → zce.f x.f0 ⟨c.toArray⟩ = some (lowL x.f0.data.toList == lowL c) := fun c hc => by
      rw [same_f _ _ (by omega) (by rw [zdt]; omega)]
      rfl
    rw [zaz.l0, if_pos (by omega), if_pos (by omega), if_pos (by omega), rd_at l i hlt, hxe, hd]
    unfold zct.f
    rw [Option.bind_some]
    by_cases h1 : nameV x.f0 = true
    · rw [if_pos h1, content_f _ (by omega) k (by omega), Option.bind_some]
      by_cases h2 : x.f1.data.toList.all textC = true
      · have htrim : zcj.f x.f1 (⟨#[32, 9]⟩ : ByteArray) = some ⟨(trimS x.f1.data.toList blank).toArray⟩ := by
          unfold zcj.f
          rw [if_pos ⟨by omega, rfl⟩]
          rfl
        rw [if_pos h2, htrim, Option.bind_some, Lib.toList_data, Lib.toList_data, mk_l]
        by_cases h3 : trimS x.f1.data.toList blank = x.f1.data.toList
        · rw [if_pos h3, show (⟨#[67, 111, 110, 116, 101, 110, 116, 45, 76, 101, 110, 103, 116, 104]⟩ : ByteArray) = ⟨clenL.toArray⟩ from rfl, hsame clenL (by decide), Option.bind_some]
          by_cases h4 : (lowL x.f0.data.toList == lowL clenL) = true
          · rw [if_pos h4]
            exact hbad (by unfold goodF; rw [h4]; simp)
          · rw [if_neg h4, show (⟨#[84, 114, 97, 110, 115, 102, 101, 114, 45, 69, 110, 99, 111, 100, 105, 110, 103]⟩ : ByteArray) = ⟨tencL.toArray⟩ from rfl, hsame tencL (by decide), Option.bind_some]
            by_cases h5 : (lowL x.f0.data.toList == lowL tencL) = true
            · rw [if_pos h5]
              exact hbad (by unfold goodF; rw [h5]; simp)
            · have hg : goodF x = true := by
                unfold goodF
                rw [h1, h2, decide_eq_true h3, Bool.eq_false_iff.2 h4, Bool.eq_false_iff.2 h5]
                rfl
              have hR : ((x.f0 ++ (⟨#[58, 32]⟩ : ByteArray)) ++ x.f1) ++ (⟨#[13, 10]⟩ : ByteArray) = ⟨(rowF x ++ [13, 10]).toArray⟩ := by
                apply ByteArray.ext
                apply Array.toList_inj.1
                simp [ByteArray.data_append, rowF]
              have hRl : (rowF x ++ [13, 10]).length = x.f0.size + x.f1.size + 4 := by
                rw [size_eq x.f0, size_eq x.f1]
                simp only [rowF, List.length_append, List.length_cons, List.length_nil]
                omega
              have hih := ih k (i + 1) (a ++ (rowF x ++ [13, 10])) (by omega) (by omega) (by rw [List.length_append, hRl]; omega)
              have h58 : (⟨#[58, 32]⟩ : ByteArray).size = 2 := rfl
              have has : (⟨a.toArray⟩ : ByteArray).size = a.length := zdt _
              have hrs : (⟨(rowF x ++ [13, 10]).toArray⟩ : ByteArray).size = (rowF x ++ [13, 10]).length := zdt _
              rw [if_neg h5, if_pos (by omega), if_pos (by rw [ByteArray.size_append, h58]; omega), if_pos (by rw [ByteArray.size_append, ByteArray.size_append, h58]; omega), hR,
                if_pos (by rw [has, hrs, hRl]; omega), zey, wrapE ((i : Int) + 1) (i + 1) (by omega) (by omega), hih, List.all_cons, hg, Bool.true_and]
              simp only [rowsF, List.flatMap_cons, List.append_assoc]
        · rw [if_neg h3]
          exact hbad (by unfold goodF; rw [decide_eq_false h3]; simp)
      · rw [if_neg h2]
        exact hbad (by unfold goodF; rw [Bool.eq_false_iff.2 h2]; simp)
    · rw [if_neg h1]
      exact hbad (by unfold goodF; rw [Bool.eq_false_iff.2 h1]; rfl)
theorem joinF (c : List UInt8) : ∀ (l : List S62) (r : List UInt8), joinL r (l.map rowF ++ [c]) = r ++ 13 :: 10 :: (rowsF l ++ c)
  | [], r => by simp [joinL, rowsF]
  | x :: l, r => by
    have := joinF c l (rowF x)
    rw [List.map_cons, List.cons_append, joinL, this]
    simp [rowsF]
theorem good_parts {x : S62} (h : goodF x = true) : nameV x.f0 = true ∧ x.f1.data.toList.all textC = true ∧ trimS x.f1.data.toList blank = x.f1.data.toList ∧ lowL x.f0.data.toList ≠ lowL clenL ∧ lowL x.f0.data.toList ≠ lowL tencL := by
  unfold goodF at h
  simp only [Bool.and_eq_true, decide_eq_true_eq, Bool.not_eq_true', beq_eq_false_iff_ne] at h
  exact ⟨h.1, h.2.1, h.2.2.1, h.2.2.2.1, h.2.2.2.2⟩
theorem good_row {x : S62} (h : goodF x = true) : rowV (rowF x) = .fld x.f0.data.toList x.f1.data.toList ∧ No13 (rowF x) ∧ rowF x ≠ [] := by
  obtain ⟨h1, h2, h3, h4, h5⟩ := good_parts h
  have hn := ((zfe _).1 h1).2.2
  have hc := cut_col x.f0.data.toList (32 :: x.f1.data.toList) fun c hc => (nameC_ne (hn c hc)).1
  refine ⟨?_, ?_, by simp [rowF]⟩
  · unfold rowV rowF
    rw [hc]
    simp only
    rw [zfc rfl, h3, if_pos ⟨trivial, by rw [show (⟨x.f0.data.toList.toArray⟩ : ByteArray) = x.f0 from Lib.mk_data _]; exact h1, h2, h5⟩, if_neg h4]
  · intro c hm
    unfold rowF at hm
    rcases List.mem_append.1 hm with hm | hm
    · exact (nameC_ne (hn c hm)).2.1
    · rcases List.mem_cons.1 hm with rfl | hm
      · decide
      · rcases List.mem_cons.1 hm with rfl | hm
        · decide
        · exact (textC_ne (List.all_eq_true.1 h2 c hm)).1
def prS (x : S62) : List UInt8 × List UInt8 := (x.f0.data.toList, x.f1.data.toList)
theorem zfh (n : Nat) (hn : n ≤ 65536) : ∀ (l : List S62) (acc : List (List UInt8 × List UInt8)), l.all goodF = true → foldV (l.map rowF ++ [clenR n]) acc 0 false = some (acc ++ l.map prS, n)
  | [], acc, _ => by
    rw [List.map_nil, List.nil_append, foldV, clen_row n (by omega), if_pos hn]
    simp [foldV]
  | x :: l, acc, h => by
    rw [List.all_cons, Bool.and_eq_true] at h
    rw [List.map_cons, List.cons_append, foldV, (good_row h.1).1]
    simp only
    rw [zfh n hn l _ h.2]
    simp [prS]
theorem rows_good (n : Nat) (l : List S62) (h : l.all goodF = true) : ∀ x ∈ l.map rowF ++ [clenR n], No13 x ∧ x ≠ [] := by
  intro x hx
  rcases List.mem_append.1 hx with hx | hx
  · obtain ⟨y, hy, rfl⟩ := List.mem_map.1 hx
    exact (good_row (List.all_eq_true.1 h y hy)).2
  · rw [List.mem_singleton.1 hx]
    exact clen_13 n
end Go.Proofs.YtipfekjmcddelaaGreatDoor.PureHttpWrites
