/- CharTexts, the plain law. -/
import Derived.Test.YtpedfpeokedelaaDoorXCharTextsx2
import Derived.Test.YtpedfpeokedelaaDoorVe
namespace Go.Proofs.YtpedfpeokedelaaDoor.Pure
open Go.RowKit Go.Lib Go.Proofs.YtpedfpeokedelaaDoor.XCharTexts Go.Proofs.YtpedfpeokedelaaDoorW.PrintWords Go.Proofs.YtpedfpeokedelaaDoorW.PrintLast
set_option maxRecDepth 100000 in
theorem first_t : calepinlaw01_first.f = some true := by decide +kernel
theorem val_t (s : ByteArray) (h : s.size ≤ 281474976710656) : char_Valid.f s = some (okL s.data.toList) := by
  unfold char_Valid.f
  rw [if_pos h, validB_eq]
theorem btN (s : ByteArray) (i : Nat) : bt s (i : Int) = ((s.data.toList.getD i 0).toNat : Int) := by
  have hsz := size_eq s
  unfold bt
  by_cases h : i < s.size
  · rw [dif_pos (by simpa using h), List.getD_eq_getElem?_getD, List.getElem?_eq_getElem (by omega)]
    rfl
  · rw [dif_neg (by simpa using h), List.getD_eq_getElem?_getD, List.getElem?_eq_none (by omega)]
    rfl
theorem w64 (n : Nat) (h : n < 9223372036854775808) : wrap64 (n : Int) = (n : Int) := by unfold wrap64; omega
theorem stepL (s : ByteArray) (k X w m i c : Nat) (hi : i < w) (hs : i < s.size) (hs2 : s.size ≤ 281474976710656) (hX : X ≤ 1073741824) (hc : (s.data.toList.getD i 0).toNat = c) (hc2 : c < 256) :
    calepinref01_Rune.l0 (k + 1) s (X : Int) (w : Int) (m : Int) (i : Int) = if c < 128 ∨ 191 < c then some (0, 0) else calepinref01_Rune.l0 k s ((64 * X + c - 128 : Nat) : Int) (w : Int) (m : Int) ((i + 1 : Nat) : Int) := by
  rw [calepinref01_Rune.l0, if_pos (by omega), if_pos (by omega), if_pos (by omega), btN, hc, w64 c (by omega)]
  by_cases h1 : c < 128
  · rw [if_pos (by omega), if_pos (.inl h1)]
  · rw [if_neg (by omega)]
    by_cases h2 : 191 < c
    · rw [if_pos (by omega), if_pos (.inr h2)]
    · rw [if_neg (by omega), if_neg (by omega)]
      have e1 : wrap64 (64 * (X : Int)) = ((64 * X : Nat) : Int) := by unfold wrap64; omega
      have e2 : wrap64 (((64 * X : Nat) : Int) + (c : Int)) = ((64 * X + c : Nat) : Int) := by unfold wrap64; omega
      have e3 : wrap64 (((64 * X + c : Nat) : Int) - 128) = ((64 * X + c - 128 : Nat) : Int) := by unfold wrap64; omega
      have e4 : wrap64 ((i : Int) + 1) = ((i + 1 : Nat) : Int) := by unfold wrap64; omega
      rw [e1, e2, e3, e4]
theorem endL (s : ByteArray) (k X w m : Nat) :
    calepinref01_Rune.l0 (k + 1) s (X : Int) (w : Int) (m : Int) (w : Int) = some (if X < m ∨ 1114111 < X ∨ (55296 ≤ X ∧ X ≤ 57343) then (0, 0) else ((X : Int), (w : Int))) := by
  rw [calepinref01_Rune.l0, if_neg (by omega)]
  by_cases h1 : X < m
  · rw [if_pos (by omega), if_pos (.inl h1)]
  · rw [if_neg (by omega)]
    by_cases h2 : 1114111 < X
    · rw [if_pos (by omega), if_pos (.inr (.inl h2))]
    · rw [if_neg (by omega)]
      by_cases h3 : 55296 ≤ X
      · rw [if_pos (by omega)]
        by_cases h4 : X ≤ 57343
        · rw [if_pos (by omega), if_pos (.inr (.inr ⟨h3, h4⟩))]
        · rw [if_neg (by omega), if_neg (by omega)]
      · rw [if_neg (by omega), if_neg (by omega)]
def out (p : Nat × Nat) : Int × Int := if p.1 = 65533 ∧ p.2 = 1 then (0, 0) else ((p.1 : Int), (p.2 : Int))
theorem out_bad : out (65533, 1) = (0, 0) := rfl
theorem out_ok (a b : Nat) (h : b ≠ 1 ∨ a ≠ 65533) : out (a, b) = ((a : Int), (b : Int)) := by
  unfold out
  rw [if_neg (by simp only; omega)]
theorem refRune (s : ByteArray) (hs : s.size ≤ 281474976710656) (hne : s.data.toList ≠ []) (k : Nat) :
    calepinref01_Rune.f (k + 12) s = some (out (decodeL s.data.toList)) := by
  have hsz := size_eq s
  have hl : 0 < s.data.toList.length := List.length_pos_iff.2 hne
  rw [decodeL_N, ← hsz]
  have c0 := (s.data.toList.getD 0 0).toNat_lt
  have c1 := (s.data.toList.getD 1 0).toNat_lt
  have c2 := (s.data.toList.getD 2 0).toNat_lt
  have c3 := (s.data.toList.getD 3 0).toNat_lt
  obtain ⟨b0, h0⟩ : ∃ b, (s.data.toList.getD 0 0).toNat = b := ⟨_, rfl⟩
  obtain ⟨b1, h1⟩ : ∃ b, (s.data.toList.getD 1 0).toNat = b := ⟨_, rfl⟩
  obtain ⟨b2, h2⟩ : ∃ b, (s.data.toList.getD 2 0).toNat = b := ⟨_, rfl⟩
  obtain ⟨b3, h3⟩ : ∃ b, (s.data.toList.getD 3 0).toNat = b := ⟨_, rfl⟩
  have hb : wrap64 (bt s 0) = (b0 : Int) := by
    have := btN s 0
    simp only [Int.natCast_zero] at this
    rw [this, h0, w64 b0 (by omega)]
  rw [h0] at c0 ⊢
  rw [h1] at c1 ⊢
  rw [h2] at c2 ⊢
  rw [h3] at c3 ⊢
  unfold calepinref01_Rune.f
  rw [hb, if_neg (by omega), if_pos (by omega)]
  by_cases d0 : b0 < 128
  · rw [if_pos (by omega), decodeN, if_pos d0, out_ok _ _ (.inr (by omega))]
    rfl
  · rw [if_neg (by omega)]
    by_cases d1 : b0 < 192
    · rw [if_neg (by omega), calepinref01_Rune.j0, if_neg (by simp), if_neg (by omega), calepinref01_Rune.j1, if_neg (by simp), if_neg (by omega), decodeN, if_neg d0, if_neg (by omega), if_neg (by omega), if_neg (by omega)]
      rfl
    · rw [if_pos (by omega)]
      by_cases d2 : b0 < 224
      · rw [decide_eq_true (by omega), calepinref01_Rune.j0, if_pos rfl, show wrap64 ((b0 : Int) - 192) = ((b0 - 192 : Nat) : Int) by unfold wrap64; omega, calepinref01_Rune.j2]
        by_cases n2 : s.size < 2
        · rw [if_pos (by omega), decodeN, if_neg d0, if_neg (by omega), if_neg (by omega), if_neg (by omega)]
          rfl
        · skip
          rw [if_neg (by omega), show ((2 : Int)) = ((2 : Nat) : Int) from rfl, show ((128 : Int)) = ((128 : Nat) : Int) from rfl, show ((1 : Int)) = ((1 : Nat) : Int) from rfl, stepL s (k + 9) (b0 - 192) 2 128 1 b1 (by omega) (by omega) hs (by omega) h1 c1]
          by_cases g1 : b1 < 128 ∨ 191 < b1
          · rw [if_pos g1, decodeN, if_neg d0, if_neg (by omega), if_neg (by omega), if_neg (by omega)]
            rfl
          · rw [if_neg g1, decodeN, if_neg d0, if_pos ⟨by omega, by omega, by omega⟩, endL]
            by_cases g2 : 64 * (b0 - 192) + b1 - 128 < 128
            · rw [if_pos (by omega), if_neg (by omega)]
              rfl
            · rw [if_neg (by omega), if_pos (by omega), out_ok _ _ (.inl (by omega)), show b0 % 32 * 64 + b1 % 64 = 64 * (b0 - 192) + b1 - 128 by omega]
      · rw [decide_eq_false (by omega), calepinref01_Rune.j0, if_neg (by simp), if_pos (by omega)]
        by_cases d3 : b0 < 240
        · rw [decide_eq_true (by omega), calepinref01_Rune.j1, if_pos rfl, show wrap64 ((b0 : Int) - 224) = ((b0 - 224 : Nat) : Int) by unfold wrap64; omega, calepinref01_Rune.j2]
          by_cases n3 : s.size < 3
          · rw [if_pos (by omega), decodeN, if_neg d0, if_neg (by omega), if_neg (by omega), if_neg (by omega)]
            rfl
          · rw [if_neg (by omega), show ((3 : Int)) = ((3 : Nat) : Int) from rfl, show ((2048 : Int)) = ((2048 : Nat) : Int) from rfl, show ((1 : Int)) = ((1 : Nat) : Int) from rfl, stepL s (k + 8) (b0 - 224) 3 2048 1 b1 (by omega) (by omega) hs (by omega) h1 c1]
            by_cases g1 : b1 < 128 ∨ 191 < b1
            · rw [if_pos g1, decodeN, if_neg d0, if_neg (by omega), if_neg (by omega), if_neg (by omega)]
              rfl
            · rw [if_neg g1, stepL s (k + 7) _ 3 2048 2 b2 (by omega) (by omega) hs (by omega) h2 c2]
              by_cases g2 : b2 < 128 ∨ 191 < b2
              · rw [if_pos g2, decodeN, if_neg d0, if_neg (by omega), if_neg (by omega), if_neg (by omega)]
                rfl
              · rw [if_neg g2, decodeN, if_neg d0, if_neg (by omega), if_pos ⟨by omega, ⟨by omega, by omega⟩, by omega, by omega⟩, endL, show b0 % 16 * 4096 + b1 % 64 * 64 + b2 % 64 = 64 * (64 * (b0 - 224) + b1 - 128) + b2 - 128 by omega]
                generalize 64 * (64 * (b0 - 224) + b1 - 128) + b2 - 128 = X
                by_cases g3 : X < 2048 ∨ 1114111 < X ∨ (55296 ≤ X ∧ X ≤ 57343)
                · rw [if_pos g3, if_neg (by omega)]
                  rfl
                · rw [if_neg g3, if_pos (by omega), out_ok _ _ (.inl (by omega))]
        · rw [decide_eq_false (by omega), calepinref01_Rune.j1, if_neg (by simp), if_pos (by omega)]
          by_cases d4 : b0 < 248
          · rw [if_pos (by omega), show wrap64 ((b0 : Int) - 240) = ((b0 - 240 : Nat) : Int) by unfold wrap64; omega, calepinref01_Rune.j2]
            by_cases n4 : s.size < 4
            · rw [if_pos (by omega), decodeN, if_neg d0, if_neg (by omega), if_neg (by omega), if_neg (by omega)]
              rfl
            · rw [if_neg (by omega), show ((4 : Int)) = ((4 : Nat) : Int) from rfl, show ((65536 : Int)) = ((65536 : Nat) : Int) from rfl, show ((1 : Int)) = ((1 : Nat) : Int) from rfl, stepL s (k + 8) (b0 - 240) 4 65536 1 b1 (by omega) (by omega) hs (by omega) h1 c1]
              by_cases g1 : b1 < 128 ∨ 191 < b1
              · rw [if_pos g1, decodeN, if_neg d0, if_neg (by omega), if_neg (by omega), if_neg (by omega)]
                rfl
              · rw [if_neg g1, stepL s (k + 7) _ 4 65536 2 b2 (by omega) (by omega) hs (by omega) h2 c2]
                by_cases g2 : b2 < 128 ∨ 191 < b2
                · rw [if_pos g2, decodeN, if_neg d0, if_neg (by omega), if_neg (by omega), if_neg (by omega)]
                  rfl
                · rw [if_neg g2, stepL s (k + 6) _ 4 65536 3 b3 (by omega) (by omega) hs (by omega) h3 c3]
                  by_cases g3 : b3 < 128 ∨ 191 < b3
                  · rw [if_pos g3, decodeN, if_neg d0, if_neg (by omega), if_neg (by omega), if_neg (by omega)]
                    rfl
                  · rw [if_neg g3, decodeN, if_neg d0, if_neg (by omega), if_neg (by omega), if_pos ⟨by omega, ⟨by omega, by omega⟩, ⟨by omega, by omega⟩, by omega, by omega⟩, endL, show b0 % 8 * 262144 + b1 % 64 * 4096 + b2 % 64 * 64 + b3 % 64 = 64 * (64 * (64 * (b0 - 240) + b1 - 128) + b2 - 128) + b3 - 128 by omega]
                    generalize 64 * (64 * (64 * (b0 - 240) + b1 - 128) + b2 - 128) + b3 - 128 = X
                    by_cases g4 : X < 65536 ∨ 1114111 < X ∨ (55296 ≤ X ∧ X ≤ 57343)
                    · rw [if_pos g4, if_neg (by omega)]
                      rfl
                    · rw [if_neg g4, if_pos (by omega), out_ok _ _ (.inl (by omega))]
          · rw [if_neg (by omega), decodeN, if_neg d0, if_neg (by omega), if_neg (by omega), if_neg (by omega)]
            rfl
theorem refValid : ∀ (n : Nat) (s : ByteArray) (k : Nat), s.size ≤ n → s.size ≤ 281474976710656 → n + 13 ≤ k → calepinref01_Valid.l0 k s = some (okL s.data.toList)
  | n, s, k, hn, hs, hk => by
    have hsz := size_eq s
    obtain ⟨k, rfl⟩ : ∃ k', k = k' + 12 + 1 := ⟨k - 13, by omega⟩
    rw [calepinref01_Valid.l0]
    by_cases hne : s.data.toList = []
    · rw [if_neg (by rw [hne] at hsz; simp only [List.length_nil] at hsz; omega), hne]
      rfl
    · have hl : 0 < s.data.toList.length := List.length_pos_iff.2 hne
      have hw := decodeL_width s.data.toList
      have hle := decodeL_le s.data.toList hne
      obtain ⟨n, rfl⟩ : ∃ n', n = n' + 1 := ⟨n - 1, by omega⟩
      rw [if_pos (by omega), refRune s hs hne k, okL_step _ hne]
      simp only [Option.bind_some]
      have hnext : calepinref01_Valid.l0 (k + 12) (s.extract (((decodeL s.data.toList).2 : Int)).toNat s.size) = some (okL (s.data.toList.drop (decodeL s.data.toList).2)) := by
        have hd : (s.extract (((decodeL s.data.toList).2 : Int)).toNat s.size).data.toList = s.data.toList.drop (decodeL s.data.toList).2 := by rw [ext_drop, Int.toNat_natCast]
        have hz : (s.extract (((decodeL s.data.toList).2 : Int)).toNat s.size).size = s.size - (decodeL s.data.toList).2 := by rw [size_eq, hd, List.length_drop, hsz]
        rw [refValid n _ (k + 12) (by omega) (by omega) (by omega), hd]
      by_cases hb : bad s.data.toList
      · rw [if_pos (Or.inl hb), show out (decodeL s.data.toList) = (0, 0) from if_pos hb, if_pos rfl]
      · rw [show out (decodeL s.data.toList) = (((decodeL s.data.toList).1 : Int), ((decodeL s.data.toList).2 : Int)) from if_neg hb]
        simp only
        rw [if_neg (by omega)]
        generalize (decodeL s.data.toList).1 = r at hnext ⊢
        have hcb : (bad s.data.toList ∨ ctl r = true) ↔ ctl r = true := ⟨fun h => h.resolve_left hb, Or.inr⟩
        by_cases r1 : r = 127
        · subst r1
          rw [if_pos (by omega), if_pos (Or.inr (by rfl))]
        · rw [if_neg (by omega)]
          by_cases r2 : r < 32
          · rw [if_pos (by omega)]
            by_cases r3 : r = 9
            · subst r3
              rw [if_pos (by omega), if_pos (by omega), if_pos (by omega), hnext, if_neg (by rw [hcb]; decide)]
            · rw [if_neg (by omega)]
              by_cases r4 : r = 10
              · subst r4
                rw [if_pos (by omega), if_pos (by omega), if_pos (by omega), hnext, if_neg (by rw [hcb]; decide)]
              · rw [if_neg (by omega)]
                by_cases r5 : r = 13
                · subst r5
                  rw [if_pos (by omega), if_pos (by omega), if_pos (by omega), hnext, if_neg (by rw [hcb]; decide)]
                · rw [if_neg (by omega), if_pos (Or.inr (by simp [ctl, r2, r3, r4, r5]))]
          · rw [if_neg (by omega), if_pos (by omega), if_pos (by omega), hnext, if_neg (by rw [hcb]; simp [ctl, r1]; omega)]
theorem byte_all {p : UInt8 → Bool} (h : ∀ x : Fin 256, p (UInt8.ofNat x.val) = true) (c : UInt8) : p c = true := by
  have := h ⟨c.toNat, c.toNat_lt⟩
  simpa using this
theorem set_at (A : List Int) (z v : Int) (R : List Int) : (A ++ z :: R).set A.length v = A ++ v :: R := by
  induction A with
  | nil => rfl
  | cons a A ih => simp
def gLower (c : UInt8) : Int := if 65 ≤ c.toNat ∧ c.toNat ≤ 90 then (((c.toNat + 32) % 256 : Nat) : Int) else (c.toNat : Int)
theorem gLower_turn (c : UInt8) : UInt8.ofNat (gLower c).toNat = turnB 65 90 c := by
  have := byte_all (p := fun c => UInt8.ofNat (gLower c).toNat == turnB 65 90 c) (by decide +kernel) c
  exact beq_iff_eq.1 this
theorem numsLower (s : ByteArray) : strOfNums (s.data.toList.map gLower) = turnS s 65 90 := by
  apply ByteArray.ext
  apply Array.toList_inj.1
  rw [strOfNums_data, List.map_map]
  exact List.map_congr_left fun c _ => gLower_turn c
theorem refLower_l (s : ByteArray) (hs : s.size ≤ 281474976710656) : ∀ (j k i : Nat), i + j = s.data.toList.length → j + 1 ≤ k →
    calepinref01_Lower.l0 k s ((s.data.toList.take i).map gLower ++ List.replicate j 0) (s.data.toList.length : Int) (i : Int) = some (strOfNums (s.data.toList.map gLower)) := by
  have hsz := size_eq s
  intro j
  induction j with
  | zero =>
    intro k i hi hk
    obtain ⟨k, rfl⟩ : ∃ k', k = k' + 1 := ⟨k - 1, by omega⟩
    rw [calepinref01_Lower.l0, if_neg (by omega), List.replicate_zero, List.append_nil, List.take_of_length_le (by omega)]
  | succ j ih =>
    intro k i hi hk
    obtain ⟨k, rfl⟩ : ∃ k', k = k' + 1 := ⟨k - 1, by omega⟩
    have hA : ((s.data.toList.take i).map gLower).length = i := by rw [List.length_map, List.length_take]; omega
    have hset : ∀ z v : Int, ((s.data.toList.take i).map gLower ++ z :: List.replicate j 0).set ((i : Int)).toNat v = (s.data.toList.take i).map gLower ++ v :: List.replicate j 0 := fun z v => by
      rw [Int.toNat_natCast]
      conv => lhs; rw [show i = ((s.data.toList.take i).map gLower).length from hA.symm]
      rw [← hA]
      simp only [hA]
      have := set_at ((s.data.toList.take i).map gLower) z v (List.replicate j 0)
      rw [hA] at this
      exact this
    obtain ⟨c, hc⟩ : ∃ c, s.data.toList.getD i 0 = c := ⟨_, rfl⟩
    have hci : s.data.toList[i]'(by omega) = c := by rw [← hc, List.getD_eq_getElem?_getD, List.getElem?_eq_getElem (by omega)]; rfl
    have hc256 := c.toNat_lt
    have htake : (s.data.toList.take (i + 1)).map gLower = (s.data.toList.take i).map gLower ++ [gLower c] := by
      rw [List.take_add_one, List.getElem?_eq_getElem (by omega), hci]
      simp
    have hnext := ih k (i + 1) (by omega) (by omega)
    rw [htake, List.append_assoc, List.singleton_append] at hnext
    have hwi : wrap64 ((i : Int) + 1) = ((i + 1 : Nat) : Int) := by unfold wrap64; omega
    rw [calepinref01_Lower.l0, if_pos (by omega), if_pos (by omega), if_pos (by omega), if_pos (by rw [List.length_append, hA, List.length_replicate]; omega), List.replicate_succ, hset, btN, hc, hwi]
    simp only [Option.bind_some, hset]
    by_cases h1 : 65 ≤ c.toNat
    · rw [if_pos (by omega)]
      by_cases h2 : c.toNat ≤ 90
      · rw [if_pos (by omega), show (((c.toNat : Int) + 32) % 256) = gLower c by unfold gLower; rw [if_pos ⟨h1, h2⟩]; omega]
        exact hnext
      · rw [if_neg (by omega), show (c.toNat : Int) = gLower c by unfold gLower; rw [if_neg (by omega)]]
        exact hnext
    · rw [if_neg (by omega), show (c.toNat : Int) = gLower c by unfold gLower; rw [if_neg (by omega)]]
      exact hnext
theorem refLower (s : ByteArray) (hs : s.size ≤ 140737488351232) (k : Nat) (hk : s.size + 1 ≤ k) : calepinref01_Lower.f k s = some (turnS s 65 90) := by
  have hsz := size_eq s
  have h := refLower_l s (by omega) s.data.toList.length k 0 (by omega) (by omega)
  rw [List.take_zero, List.map_nil, List.nil_append, numsLower] at h
  unfold calepinref01_Lower.f
  rw [if_pos (by omega), if_pos (by omega)]
  simp only [Option.bind_some, Int.toNat_natCast, List.length_replicate]
  rw [hsz]
  exact h
def gUpper (c : UInt8) : Int := if 97 ≤ c.toNat ∧ c.toNat ≤ 122 then ((c.toNat - 32 : Nat) : Int) else (c.toNat : Int)
theorem gUpper_turn (c : UInt8) : UInt8.ofNat (gUpper c).toNat = turnB 97 122 c := by
  have := byte_all (p := fun c => UInt8.ofNat (gUpper c).toNat == turnB 97 122 c) (by decide +kernel) c
  exact beq_iff_eq.1 this
theorem numsUpper (s : ByteArray) : strOfNums (s.data.toList.map gUpper) = turnS s 97 122 := by
  apply ByteArray.ext
  apply Array.toList_inj.1
  rw [strOfNums_data, List.map_map]
  exact List.map_congr_left fun c _ => gUpper_turn c
theorem refUpper_l (s : ByteArray) (hs : s.size ≤ 281474976710656) : ∀ (j k i : Nat), i + j = s.data.toList.length → j + 1 ≤ k →
    calepinref01_Upper.l0 k s ((s.data.toList.take i).map gUpper ++ List.replicate j 0) (s.data.toList.length : Int) (i : Int) = some (strOfNums (s.data.toList.map gUpper)) := by
  have hsz := size_eq s
  intro j
  induction j with
  | zero =>
    intro k i hi hk
    obtain ⟨k, rfl⟩ : ∃ k', k = k' + 1 := ⟨k - 1, by omega⟩
    rw [calepinref01_Upper.l0, if_neg (by omega), List.replicate_zero, List.append_nil, List.take_of_length_le (by omega)]
  | succ j ih =>
    intro k i hi hk
    obtain ⟨k, rfl⟩ : ∃ k', k = k' + 1 := ⟨k - 1, by omega⟩
    have hA : ((s.data.toList.take i).map gUpper).length = i := by rw [List.length_map, List.length_take]; omega
    have hset : ∀ z v : Int, ((s.data.toList.take i).map gUpper ++ z :: List.replicate j 0).set ((i : Int)).toNat v = (s.data.toList.take i).map gUpper ++ v :: List.replicate j 0 := fun z v => by
      rw [Int.toNat_natCast]
      conv => lhs; rw [show i = ((s.data.toList.take i).map gUpper).length from hA.symm]
      rw [← hA]
      simp only [hA]
      have := set_at ((s.data.toList.take i).map gUpper) z v (List.replicate j 0)
      rw [hA] at this
      exact this
    obtain ⟨c, hc⟩ : ∃ c, s.data.toList.getD i 0 = c := ⟨_, rfl⟩
    have hci : s.data.toList[i]'(by omega) = c := by rw [← hc, List.getD_eq_getElem?_getD, List.getElem?_eq_getElem (by omega)]; rfl
    have hc256 := c.toNat_lt
    have htake : (s.data.toList.take (i + 1)).map gUpper = (s.data.toList.take i).map gUpper ++ [gUpper c] := by
      rw [List.take_add_one, List.getElem?_eq_getElem (by omega), hci]
      simp
    have hnext := ih k (i + 1) (by omega) (by omega)
    rw [htake, List.append_assoc, List.singleton_append] at hnext
    have hwi : wrap64 ((i : Int) + 1) = ((i + 1 : Nat) : Int) := by unfold wrap64; omega
    rw [calepinref01_Upper.l0, if_pos (by omega), if_pos (by omega), if_pos (by omega), if_pos (by rw [List.length_append, hA, List.length_replicate]; omega), List.replicate_succ, hset, btN, hc, hwi]
    simp only [Option.bind_some, hset]
    by_cases h1 : 97 ≤ c.toNat
    · rw [if_pos (by omega)]
      by_cases h2 : c.toNat ≤ 122
      · rw [if_pos (by omega), show (((c.toNat : Int) - 32) % 256) = gUpper c by unfold gUpper; rw [if_pos ⟨h1, h2⟩]; omega]
        exact hnext
      · rw [if_neg (by omega), show (c.toNat : Int) = gUpper c by unfold gUpper; rw [if_neg (by omega)]]
        exact hnext
    · rw [if_neg (by omega), show (c.toNat : Int) = gUpper c by unfold gUpper; rw [if_neg (by omega)]]
      exact hnext
theorem refUpper (s : ByteArray) (hs : s.size ≤ 140737488351232) (k : Nat) (hk : s.size + 1 ≤ k) : calepinref01_Upper.f k s = some (turnS s 97 122) := by
  have hsz := size_eq s
  have h := refUpper_l s (by omega) s.data.toList.length k 0 (by omega) (by omega)
  rw [List.take_zero, List.map_nil, List.nil_append, numsUpper] at h
  unfold calepinref01_Upper.f
  rw [if_pos (by omega), if_pos (by omega)]
  simp only [Option.bind_some, Int.toNat_natCast, List.length_replicate]
  rw [hsz]
  exact h
theorem low_t (s : ByteArray) (h : s.size ≤ 281474976710656) : char_Lower.f s = some (turnS s 65 90) := by
  unfold char_Lower.f char_turned.f
  rw [if_pos ⟨h, by decide⟩]
  rfl
theorem up_t (s : ByteArray) (h : s.size ≤ 281474976710656) : char_Upper.f s = some (turnS s 97 122) := by
  unfold char_Upper.f char_turned.f
  rw [if_pos ⟨h, by decide⟩]
  rfl
theorem CharTexts : calepinlaw01_CharTexts.Pure := by
  intro a b ha hb
  refine ⟨a.size + b.size + 20, ?_⟩
  unfold calepinlaw01_CharTexts.f char_Same.f
  rw [first_t, val_t a (by omega), show calepinref01_Valid.f (a.size + b.size + 20) a = some (okL a.data.toList) from refValid a.size a _ (Nat.le_refl _) (by omega) (by omega), low_t a (by omega), refLower a ha _ (by omega), up_t a (by omega), refUpper a ha _ (by omega), low_t b (by omega), refLower b hb _ (by omega)]
  simp
end Go.Proofs.YtpedfpeokedelaaDoor.Pure
