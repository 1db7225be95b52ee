import Derived.Test.YtpaopeiegaijiaaGreatDoorXXmlRemarksx6
import Derived.Test.YtpaopeiegaijiaaGreatDoorVf
/- What the check and the reference say of pieces. -/
namespace Go.Proofs.YtpaopeiegaijiaaGreatDoor.PwXmlRemarks
open Go.RowKit Go.Lib Go.Proofs.YtpaopeiegaijiaaGreatDoor Go.Proofs.YtpaopeiegaijiaaGreatDoor.XXmlRemarks Go.Proofs.YtpaopeiegaijiaaGreatDoorW.PrintWords Go.Proofs.YtpaopeiegaijiaaGreatDoorW.PrintLast
set_option linter.unusedVariables false
set_option linter.unusedSimpArgs false
theorem btN (s : ByteArray) (i : Nat) : bt s (i : Int) = ((s.data.toList.getD i 0).toNat : Int) := by
  have hsz := size_eq s
  unfold bt
  by_cases h : i < s.size
  · rw [dif_pos (by simpa using h), List.getD_eq_getElem?_getD, List.getElem?_eq_getElem (by omega)]
    rfl
  · rw [dif_neg (by simpa using h), List.getD_eq_getElem?_getD, List.getElem?_eq_none (by omega)]
    rfl
theorem w64 (n : Nat) (h : n < 9223372036854775808) : wrap64 (n : Int) = (n : Int) := by unfold wrap64; omega
theorem stepL (s : ByteArray) (k X w m i c : Nat) (hi : i < w) (hs : i < s.size) (hs2 : s.size ≤ 281474976710656) (hX : X ≤ 1073741824) (hc : (s.data.toList.getD i 0).toNat = c) (hc2 : c < 256) :
    calepinref01_Rune.l0 (k + 1) s (X : Int) (w : Int) (m : Int) (i : Int) = if c < 128 ∨ 191 < c then some (0, 0) else calepinref01_Rune.l0 k s ((64 * X + c - 128 : Nat) : Int) (w : Int) (m : Int) ((i + 1 : Nat) : Int) := by
  rw [calepinref01_Rune.l0, if_pos (by omega), if_pos (by omega), if_pos (by omega), btN, hc, w64 c (by omega)]
  by_cases h1 : c < 128
  · rw [if_pos (by omega), if_pos (.inl h1)]
  · rw [if_neg (by omega)]
    by_cases h2 : 191 < c
    · rw [if_pos (by omega), if_pos (.inr h2)]
    · rw [if_neg (by omega), if_neg (by omega)]
      have e1 : wrap64 (64 * (X : Int)) = ((64 * X : Nat) : Int) := by unfold wrap64; omega
      have e2 : wrap64 (((64 * X : Nat) : Int) + (c : Int)) = ((64 * X + c : Nat) : Int) := by unfold wrap64; omega
      have e3 : wrap64 (((64 * X + c : Nat) : Int) - 128) = ((64 * X + c - 128 : Nat) : Int) := by unfold wrap64; omega
      have e4 : wrap64 ((i : Int) + 1) = ((i + 1 : Nat) : Int) := by unfold wrap64; omega
      rw [e1, e2, e3, e4]
theorem endL (s : ByteArray) (k X w m : Nat) :
    calepinref01_Rune.l0 (k + 1) s (X : Int) (w : Int) (m : Int) (w : Int) = some (if X < m ∨ 1114111 < X ∨ (55296 ≤ X ∧ X ≤ 57343) then (0, 0) else ((X : Int), (w : Int))) := by
  rw [calepinref01_Rune.l0, if_neg (by omega)]
  by_cases h1 : X < m
  · rw [if_pos (by omega), if_pos (.inl h1)]
  · rw [if_neg (by omega)]
    by_cases h2 : 1114111 < X
    · rw [if_pos (by omega), if_pos (.inr (.inl h2))]
    · rw [if_neg (by omega)]
      by_cases h3 : 55296 ≤ X
      · rw [if_pos (by omega)]
        by_cases h4 : X ≤ 57343
        · rw [if_pos (by omega), if_pos (.inr (.inr ⟨h3, h4⟩))]
        · rw [if_neg (by omega), if_neg (by omega)]
      · rw [if_neg (by omega), if_neg (by omega)]
def out (p : Nat × Nat) : Int × Int := if p.1 = 65533 ∧ p.2 = 1 then (0, 0) else ((p.1 : Int), (p.2 : Int))
theorem out_bad : out (65533, 1) = (0, 0) := rfl
theorem out_ok (a b : Nat) (h : b ≠ 1 ∨ a ≠ 65533) : out (a, b) = ((a : Int), (b : Int)) := by
  unfold out
  rw [if_neg (by simp only; omega)]
theorem refRune (s : ByteArray) (hs : s.size ≤ 281474976710656) (hne : s.data.toList ≠ []) (k : Nat) :
    calepinref01_Rune.f (k + 12) s = some (out (decodeL s.data.toList)) := by
  have hsz := size_eq s
  have hl : 0 < s.data.toList.length := List.length_pos_iff.2 hne
  rw [decodeL_N, ← hsz]
  have c0 := (s.data.toList.getD 0 0).toNat_lt
  have c1 := (s.data.toList.getD 1 0).toNat_lt
  have c2 := (s.data.toList.getD 2 0).toNat_lt
  have c3 := (s.data.toList.getD 3 0).toNat_lt
  obtain ⟨b0, h0⟩ : ∃ b, (s.data.toList.getD 0 0).toNat = b := ⟨_, rfl⟩
  obtain ⟨b1, h1⟩ : ∃ b, (s.data.toList.getD 1 0).toNat = b := ⟨_, rfl⟩
  obtain ⟨b2, h2⟩ : ∃ b, (s.data.toList.getD 2 0).toNat = b := ⟨_, rfl⟩
  obtain ⟨b3, h3⟩ : ∃ b, (s.data.toList.getD 3 0).toNat = b := ⟨_, rfl⟩
  have hb : wrap64 (bt s 0) = (b0 : Int) := by
    have := btN s 0
    simp only [Int.natCast_zero] at this
    rw [this, h0, w64 b0 (by omega)]
  rw [h0] at c0 ⊢
  rw [h1] at c1 ⊢
  rw [h2] at c2 ⊢
  rw [h3] at c3 ⊢
  unfold calepinref01_Rune.f
  rw [hb, if_neg (by omega), if_pos (by omega)]
  by_cases d0 : b0 < 128
  · rw [if_pos (by omega), decodeN, if_pos d0, out_ok _ _ (.inr (by omega))]
    rfl
  · rw [if_neg (by omega)]
    by_cases d1 : b0 < 192
    · rw [if_neg (by omega), calepinref01_Rune.j0, if_neg (by simp), if_neg (by omega), calepinref01_Rune.j1, if_neg (by simp), if_neg (by omega), decodeN, if_neg d0, if_neg (by omega), if_neg (by omega), if_neg (by omega)]
      rfl
    · rw [if_pos (by omega)]
      by_cases d2 : b0 < 224
      · rw [decide_eq_true (by omega), calepinref01_Rune.j0, if_pos rfl, show wrap64 ((b0 : Int) - 192) = ((b0 - 192 : Nat) : Int) by unfold wrap64; omega, calepinref01_Rune.j2]
        by_cases n2 : s.size < 2
        · rw [if_pos (by omega), decodeN, if_neg d0, if_neg (by omega), if_neg (by omega), if_neg (by omega)]
          rfl
        · skip
          rw [if_neg (by omega), show ((2 : Int)) = ((2 : Nat) : Int) from rfl, show ((128 : Int)) = ((128 : Nat) : Int) from rfl, show ((1 : Int)) = ((1 : Nat) : Int) from rfl, stepL s (k + 9) (b0 - 192) 2 128 1 b1 (by omega) (by omega) hs (by omega) h1 c1]
          by_cases g1 : b1 < 128 ∨ 191 < b1
          · rw [if_pos g1, decodeN, if_neg d0, if_neg (by omega), if_neg (by omega), if_neg (by omega)]
            rfl
          · rw [if_neg g1, decodeN, if_neg d0, if_pos ⟨by omega, by omega, by omega⟩, endL]
            by_cases g2 : 64 * (b0 - 192) + b1 - 128 < 128
            · rw [if_pos (by omega), if_neg (by omega)]
              rfl
            · rw [if_neg (by omega), if_pos (by omega), out_ok _ _ (.inl (by omega)), show b0 % 32 * 64 + b1 % 64 = 64 * (b0 - 192) + b1 - 128 by omega]
      · rw [decide_eq_false (by omega), calepinref01_Rune.j0, if_neg (by simp), if_pos (by omega)]
        by_cases d3 : b0 < 240
        · rw [decide_eq_true (by omega), calepinref01_Rune.j1, if_pos rfl, show wrap64 ((b0 : Int) - 224) = ((b0 - 224 : Nat) : Int) by unfold wrap64; omega, calepinref01_Rune.j2]
          by_cases n3 : s.size < 3
          · rw [if_pos (by omega), decodeN, if_neg d0, if_neg (by omega), if_neg (by omega), if_neg (by omega)]
            rfl
          · rw [if_neg (by omega), show ((3 : Int)) = ((3 : Nat) : Int) from rfl, show ((2048 : Int)) = ((2048 : Nat) : Int) from rfl, show ((1 : Int)) = ((1 : Nat) : Int) from rfl, stepL s (k + 8) (b0 - 224) 3 2048 1 b1 (by omega) (by omega) hs (by omega) h1 c1]
            by_cases g1 : b1 < 128 ∨ 191 < b1
            · rw [if_pos g1, decodeN, if_neg d0, if_neg (by omega), if_neg (by omega), if_neg (by omega)]
              rfl
            · rw [if_neg g1, stepL s (k + 7) _ 3 2048 2 b2 (by omega) (by omega) hs (by omega) h2 c2]
              by_cases g2 : b2 < 128 ∨ 191 < b2
              · rw [if_pos g2, decodeN, if_neg d0, if_neg (by omega), if_neg (by omega), if_neg (by omega)]
                rfl
              · rw [if_neg g2, decodeN, if_neg d0, if_neg (by omega), if_pos ⟨by omega, ⟨by omega, by omega⟩, by omega, by omega⟩, endL, show b0 % 16 * 4096 + b1 % 64 * 64 + b2 % 64 = 64 * (64 * (b0 - 224) + b1 - 128) + b2 - 128 by omega]
                generalize 64 * (64 * (b0 - 224) + b1 - 128) + b2 - 128 = X
                by_cases g3 : X < 2048 ∨ 1114111 < X ∨ (55296 ≤ X ∧ X ≤ 57343)
                · rw [if_pos g3, if_neg (by omega)]
                  rfl
                · rw [if_neg g3, if_pos (by omega), out_ok _ _ (.inl (by omega))]
        · rw [decide_eq_false (by omega), calepinref01_Rune.j1, if_neg (by simp), if_pos (by omega)]
          by_cases d4 : b0 < 248
          · rw [if_pos (by omega), show wrap64 ((b0 : Int) - 240) = ((b0 - 240 : Nat) : Int) by unfold wrap64; omega, calepinref01_Rune.j2]
            by_cases n4 : s.size < 4
            · rw [if_pos (by omega), decodeN, if_neg d0, if_neg (by omega), if_neg (by omega), if_neg (by omega)]
              rfl
            · rw [if_neg (by omega), show ((4 : Int)) = ((4 : Nat) : Int) from rfl, show ((65536 : Int)) = ((65536 : Nat) : Int) from rfl, show ((1 : Int)) = ((1 : Nat) : Int) from rfl, stepL s (k + 8) (b0 - 240) 4 65536 1 b1 (by omega) (by omega) hs (by omega) h1 c1]
              by_cases g1 : b1 < 128 ∨ 191 < b1
              · rw [if_pos g1, decodeN, if_neg d0, if_neg (by omega), if_neg (by omega), if_neg (by omega)]
                rfl
              · rw [if_neg g1, stepL s (k + 7) _ 4 65536 2 b2 (by omega) (by omega) hs (by omega) h2 c2]
                by_cases g2 : b2 < 128 ∨ 191 < b2
                · rw [if_pos g2, decodeN, if_neg d0, if_neg (by omega), if_neg (by omega), if_neg (by omega)]
                  rfl
                · rw [if_neg g2, stepL s (k + 6) _ 4 65536 3 b3 (by omega) (by omega) hs (by omega) h3 c3]
                  by_cases g3 : b3 < 128 ∨ 191 < b3
                  · rw [if_pos g3, decodeN, if_neg d0, if_neg (by omega), if_neg (by omega), if_neg (by omega)]
                    rfl
                  · rw [if_neg g3, decodeN, if_neg d0, if_neg (by omega), if_neg (by omega), if_pos ⟨by omega, ⟨by omega, by omega⟩, ⟨by omega, by omega⟩, by omega, by omega⟩, endL, show b0 % 8 * 262144 + b1 % 64 * 4096 + b2 % 64 * 64 + b3 % 64 = 64 * (64 * (64 * (b0 - 240) + b1 - 128) + b2 - 128) + b3 - 128 by omega]
                    generalize 64 * (64 * (64 * (b0 - 240) + b1 - 128) + b2 - 128) + b3 - 128 = X
                    by_cases g4 : X < 65536 ∨ 1114111 < X ∨ (55296 ≤ X ∧ X ≤ 57343)
                    · rw [if_pos g4, if_neg (by omega)]
                      rfl
                    · rw [if_neg g4, if_pos (by omega), out_ok _ _ (.inl (by omega))]
          · rw [if_neg (by omega), decodeN, if_neg d0, if_neg (by omega), if_neg (by omega), if_neg (by omega)]
            rfl
theorem refValid : ∀ (n : Nat) (s : ByteArray) (k : Nat), s.size ≤ n → s.size ≤ 281474976710656 → n + 13 ≤ k → calepinref01_Valid.l0 k s = some (okL s.data.toList)
  | n, s, k, hn, hs, hk => by
    have hsz := size_eq s
    obtain ⟨k, rfl⟩ : ∃ k', k = k' + 12 + 1 := ⟨k - 13, by omega⟩
    rw [calepinref01_Valid.l0]
    by_cases hne : s.data.toList = []
    · rw [if_neg (by rw [hne] at hsz; simp only [List.length_nil] at hsz; omega), hne]
      rfl
    · have hl : 0 < s.data.toList.length := List.length_pos_iff.2 hne
      have hw := decodeL_width s.data.toList
      have hle := decodeL_le s.data.toList hne
      obtain ⟨n, rfl⟩ : ∃ n', n = n' + 1 := ⟨n - 1, by omega⟩
      rw [if_pos (by omega), refRune s hs hne k, okL_step _ hne]
      simp only [Option.bind_some]
      have hnext : calepinref01_Valid.l0 (k + 12) (s.extract (((decodeL s.data.toList).2 : Int)).toNat s.size) = some (okL (s.data.toList.drop (decodeL s.data.toList).2)) := by
        have hd : (s.extract (((decodeL s.data.toList).2 : Int)).toNat s.size).data.toList = s.data.toList.drop (decodeL s.data.toList).2 := by rw [ext_drop, Int.toNat_natCast]
        have hz : (s.extract (((decodeL s.data.toList).2 : Int)).toNat s.size).size = s.size - (decodeL s.data.toList).2 := by rw [size_eq, hd, List.length_drop, hsz]
        rw [refValid n _ (k + 12) (by omega) (by omega) (by omega), hd]
      by_cases hb : bad s.data.toList
      · rw [if_pos (Or.inl hb), show out (decodeL s.data.toList) = (0, 0) from if_pos hb, if_pos rfl]
      · rw [show out (decodeL s.data.toList) = (((decodeL s.data.toList).1 : Int), ((decodeL s.data.toList).2 : Int)) from if_neg hb]
        simp only
        rw [if_neg (by omega)]
        generalize (decodeL s.data.toList).1 = r at hnext ⊢
        have hcb : (bad s.data.toList ∨ ctl r = true) ↔ ctl r = true := ⟨fun h => h.resolve_left hb, Or.inr⟩
        by_cases r1 : r = 127
        · subst r1
          rw [if_pos (by omega), if_pos (Or.inr (by rfl))]
        · rw [if_neg (by omega)]
          by_cases r2 : r < 32
          · rw [if_pos (by omega)]
            by_cases r3 : r = 9
            · subst r3
              rw [if_pos (by omega), if_pos (by omega), if_pos (by omega), hnext, if_neg (by rw [hcb]; decide)]
            · rw [if_neg (by omega)]
              by_cases r4 : r = 10
              · subst r4
                rw [if_pos (by omega), if_pos (by omega), if_pos (by omega), hnext, if_neg (by rw [hcb]; decide)]
              · rw [if_neg (by omega)]
                by_cases r5 : r = 13
                · subst r5
                  rw [if_pos (by omega), if_pos (by omega), if_pos (by omega), hnext, if_neg (by rw [hcb]; decide)]
                · rw [if_neg (by omega), if_pos (Or.inr (by simp [ctl, r2, r3, r4, r5]))]
          · rw [if_neg (by omega), if_pos (by omega), if_pos (by omega), hnext, if_neg (by rw [hcb]; simp [ctl, r1]; omega)]

theorem dropWhile_nil {p : UInt8 → Bool} : ∀ {l : List UInt8}, l.dropWhile p = [] ↔ ∀ x ∈ l, p x = true
  | [] => by simp
  | c :: l => by
    rw [List.dropWhile_cons]
    by_cases h : p c = true
    · rw [if_pos h, dropWhile_nil]; simp [h]
    · rw [if_neg h]; simp [h]
theorem blank_all (t : List UInt8) : blankL t = t.all isBl := by
  unfold blankL Lib.trimS Lib.trimLeftS Lib.trimRightS
  have hp : (fun c => ([32, 9, 13, 10] : List UInt8).contains c) = isBl := rfl
  rw [hp]
  cases h : t.all isBl with
  | true =>
    have h1 : t.reverse.dropWhile isBl = [] := dropWhile_nil.2 (fun x hx => List.all_eq_true.1 h x (List.mem_reverse.1 hx))
    rw [h1]; rfl
  | false =>
    rw [Bool.eq_false_iff]
    intro he
    have h2 : ((t.reverse.dropWhile isBl).reverse).dropWhile isBl = [] := List.isEmpty_iff.1 he
    have h3 := dropWhile_nil.1 h2
    cases hd : t.reverse.dropWhile isBl with
    | nil =>
      have h4 := dropWhile_nil.1 hd
      have : t.all isBl = true := List.all_eq_true.2 (fun x hx => h4 x (List.mem_reverse.2 hx))
      rw [h] at this; cases this
    | cons c r =>
      have h5 := List.head_dropWhile_not isBl (show t.reverse.dropWhile isBl ≠ [] by rw [hd]; simp)
      have h6 := h3 c (List.mem_reverse.2 (by rw [hd]; simp))
      simp only [hd, List.head_cons] at h5
      rw [h6] at h5; cases h5
theorem tl (s : ByteArray) : s.toList = bl s := Lib.toList_data s
theorem bl_size (s : ByteArray) : (bl s).length = s.size := rfl
/-- A piece is right. -/
def rightB (p : S60) : Bool := if p.f0 = 1 ∨ p.f0 = 2 then decide (bl p.f3 = []) && decide (0 ≤ p.f1) && decide (p.f1 ≤ 2) && decide (leadL (bl p.f2) = (bl p.f2).length) && decide (bl p.f2 ≠ [])
  else if p.f0 = 3 then decide (bl p.f2 = []) && decide (p.f1 = 0) && okL (bl p.f3) && !blankL (bl p.f3) else false
/-- What is open behind a piece. -/
def popB (st : List S60) (p : S60) : Option (List S60) := match st.getLast? with
  | none => none
  | some t => if bl t.f2 = bl p.f2 ∧ t.f1 = p.f1 then some st.dropLast else none
def openB (st : List S60) (p : S60) : Option (List S60) := if p.f0 = 1 then some (st ++ [p]) else if p.f0 = 2 then popB st p else some st
def capB : Option (List S60) → Option (List S60)
  | none => none
  | some s => if 16 < s.length then none else some s
theorem capB_some (s : List S60) : capB (some s) = if 16 < s.length then none else some s := rfl
def stepB (i0 : Bool) (pk : Int) (st : List S60) (p : S60) : Option (List S60) :=
  if rightB p = true then (if i0 = false ∧ st = [] then none else if p.f0 = 3 ∧ (i0 = true ∨ pk = 3) then none else capB (openB st p)) else none
theorem step_none1 {i0 : Bool} {pk : Int} {st : List S60} {p : S60} (hr : ¬ rightB p = true) : stepB i0 pk st p = none := by unfold stepB; rw [if_neg hr]
theorem step_none2 {i0 : Bool} {pk : Int} {st : List S60} {p : S60} (h : i0 = false ∧ st = []) : stepB i0 pk st p = none := by unfold stepB; rw [if_pos h]; split <;> rfl
theorem step_none3 {i0 : Bool} {pk : Int} {st : List S60} {p : S60} (h : p.f0 = 3 ∧ (i0 = true ∨ pk = 3)) : stepB i0 pk st p = none := by
  unfold stepB
  rw [if_pos h]
  split
  · split <;> rfl
  · rfl
theorem step_go {i0 : Bool} {pk : Int} {st : List S60} {p : S60} (hr : rightB p = true) (h2 : ¬ (i0 = false ∧ st = [])) (h3 : ¬ (p.f0 = 3 ∧ (i0 = true ∨ pk = 3))) : stepB i0 pk st p = capB (openB st p) := by
  unfold stepB; rw [if_pos hr, if_neg h2, if_neg h3]
def runB : Bool → Int → List S60 → List S60 → Bool
  | _, _, st, [] => decide (st = [])
  | i0, pk, st, p :: rest => match stepB i0 pk st p with
    | none => false
    | some s => runB false p.f0 s rest
def okB (ps : List S60) : Bool := decide (ps ≠ []) && runB true 0 [] ps
/-! ## Check -/
def sizeOkB (M : Nat) (p : S60) : Prop := p.f2.size ≤ M ∧ p.f3.size ≤ M
theorem letter_fX (c : UInt8) : xml_letter.f (c.toNat : Int) = some (letB c) := by
  have := byte_all (p := fun c => xml_letter.f (c.toNat : Int) == some (letB c)) (by decide +kernel) c
  exact beq_iff_eq.1 this
theorem lead_l0X (l : List UInt8) (hl : l.length ≤ 9223372036854775806) : ∀ (j k i : Nat), i + j = l.length → j + 1 ≤ k → 0 < i →
    xml_lead.l0 k ⟨l.toArray⟩ (i : Int) = some ((capN (i + ((l.drop i).takeWhile nameB).length) : Nat) : Int) := by
  have hz := sz_l l
  intro j
  induction j with
  | zero =>
    intro k i hi hk h0
    obtain ⟨k, rfl⟩ : ∃ k', k = k' + 1 := ⟨k - 1, by omega⟩
    rw [xml_lead.l0, if_neg (by omega), List.drop_of_length_le (by omega), cap_if]
    rfl
  | succ j ih =>
    intro k i hi hk h0
    obtain ⟨k, rfl⟩ : ∃ k', k = k' + 1 := ⟨k - 1, by omega⟩
    have hlt : i < l.length := by omega
    have hd := List.drop_eq_getElem_cons hlt
    have hn := ih k (i + 1) (by omega) (by omega) (by omega)
    have hb := bt_l l i hlt
    rw [xml_lead.l0, if_pos (by omega), if_pos (by omega), hb, letter_fX, Option.bind_some, wrapE ((i : Int) + 1) (i + 1) (by omega) (by omega), hn, hd, cap_if]
    generalize l[i] = c
    refine lead_step c i h0 _ _ _ (fun h => ?_) (fun h => ?_)
    · rw [List.takeWhile_cons_of_pos h, List.length_cons, show i + ((List.takeWhile nameB (List.drop (i + 1) l)).length + 1) = i + 1 + (List.takeWhile nameB (List.drop (i + 1) l)).length by omega]
    · rw [List.takeWhile_cons_of_neg (by rw [h]; simp)]
      rfl
theorem lead_fX (l : List UInt8) (hl : l.length ≤ 9223372036854775806) (k : Nat) (hk : l.length + 2 ≤ k) : xml_lead.f k ⟨l.toArray⟩ = some ((leadL l : Nat) : Int) := by
  obtain ⟨k, rfl⟩ : ∃ k', k = k' + 1 := ⟨k - 1, by omega⟩
  have hz := sz_l l
  unfold xml_lead.f leadL
  cases l with
  | nil => rw [xml_lead.l0, if_neg (by rw [hz]; simp)]; rfl
  | cons c l =>
    have hb : bt ⟨(c :: l).toArray⟩ 0 = (c.toNat : Int) := bt_l (c :: l) 0 (by simp)
    have h1 := lead_l0X (c :: l) hl l.length k 1 (by simp; omega) (by simp at hk; omega) (by omega)
    rw [List.drop_one, List.tail_cons] at h1
    simp only [List.length_cons] at hz hl hk
    rw [xml_lead.l0, if_pos (by omega), if_pos (by omega), hb, letter_fX, Option.bind_some, wrapE ((0 : Int) + 1) 1 (by omega) (by omega), nameN]
    by_cases h : letB c = true
    · rw [if_pos h, if_pos h]; exact h1
    · rw [if_neg h, if_neg h, if_neg (by omega), if_neg (by omega)]; rfl
theorem lead_ba (s : ByteArray) (hs : s.size ≤ 1000000000) (k : Nat) (hk : s.size + 2 ≤ k) : xml_lead.f k s = some ((leadL (bl s) : Nat) : Int) := by
  have h := lead_fX (bl s) (by rw [bl_size]; omega) k (by rw [bl_size]; omega)
  rw [bl_mk] at h
  exact h
theorem right_f (p : S60) (M : Nat) (hM : M ≤ 2000000) (hp : sizeOkB M p) (k : Nat) (hk : M + 3 ≤ k) : xml_right.f k p.f0 p.f1 p.f2 p.f3 = some (rightB p) := by
  obtain ⟨k, rfl⟩ : ∃ k', k = k' + 1 := ⟨k - 1, by omega⟩
  obtain ⟨f0, f1, f2, f3⟩ := p
  obtain ⟨h2, h3⟩ := hp
  simp only at h2 h3
  have e12 : (f0 = 1 ∨ f0 = 2) → xml_right.j0 (k + 1) f0 true f0 f1 f2 f3 = some (rightB ⟨f0, f1, f2, f3⟩) := by
    intro hk12
    rw [xml_right.j0, if_pos rfl]
    unfold rightB
    dsimp only
    rw [if_pos hk12]
    simp only [tl]
    by_cases c1 : bl f3 = []
    · rw [if_pos c1, decide_eq_true c1]
      by_cases c2 : f1 ≥ 0
      · rw [if_pos c2, decide_eq_true (show (0 : Int) ≤ f1 from c2)]
        by_cases c3 : f1 < 3
        · rw [if_pos c3, decide_eq_true (show f1 ≤ 2 by omega)]
          by_cases c4 : bl f2 = []
          · rw [if_pos c4, decide_eq_false (show ¬ (bl f2 ≠ []) from fun h => h c4)]; simp
          · rw [if_neg c4, decide_eq_true (show bl f2 ≠ [] from c4), lead_ba f2 (by omega) _ (by omega), Option.bind_some]
            congr 1
            rw [← bl_size]
            rw [Bool.eq_iff_iff]; simp
            omega
        · rw [if_neg c3, decide_eq_false (show ¬ f1 ≤ 2 by omega)]; simp
      · rw [if_neg c2, decide_eq_false (show ¬ (0 : Int) ≤ f1 from c2)]; simp
    · rw [if_neg c1, decide_eq_false c1]; simp
  unfold xml_right.f
  by_cases k1 : f0 = 1
  · rw [if_pos k1, beq_iff_eq.2 k1]; exact e12 (.inl k1)
  · rw [if_neg k1]
    by_cases k2 : f0 = 2
    · rw [beq_iff_eq.2 k2]; exact e12 (.inr k2)
    · rw [beq_eq_false_iff_ne.2 k2, xml_right.j0, if_neg Bool.false_ne_true]
      unfold rightB
      dsimp only
      rw [if_neg (show ¬ (f0 = 1 ∨ f0 = 2) by rintro (h | h); exact k1 h; exact k2 h)]
      by_cases k3 : f0 = 3
      · rw [if_pos k3, if_pos k3]
        simp only [tl]
        by_cases c1 : bl f2 = []
        · rw [if_pos c1, decide_eq_true c1]
          by_cases c2 : f1 = 0
          · rw [if_pos c2, decide_eq_true c2]
            have hv : char_Valid.f f3 = some (okL (bl f3)) := by unfold char_Valid.f; rw [if_pos (by omega), validB_eq]; rfl
            have ht : strings_Trim.f f3 (⟨#[32, 9, 13, 10]⟩ : ByteArray) = some ⟨(Lib.trimS (bl f3) [32, 9, 13, 10]).toArray⟩ := by unfold strings_Trim.f; rw [if_pos ⟨by omega, rfl⟩]; rfl
            rw [hv, Option.bind_some]
            cases hok : okL (bl f3) with
            | false => simp
            | true =>
              rw [if_pos rfl, ht, Option.bind_some, bl_of]
              congr 1
              unfold blankL
              cases Lib.trimS (bl f3) [32, 9, 13, 10] <;> rfl
          · rw [if_neg c2, decide_eq_false c2]; simp
        · rw [if_neg c1, decide_eq_false c1]; simp
      · rw [if_neg k3, if_neg k3]
theorem popB_snoc (s0 : List S60) (t p : S60) : popB (s0 ++ [t]) p = if bl t.f2 = bl p.f2 ∧ t.f1 = p.f1 then some s0 else none := by
  unfold popB; simp
theorem rd_last (s0 : List S60) (t : S60) (i : Int) (h : i = (s0.length : Int)) : rd_T60 (s0 ++ [t]) i = t := by
  subst h; unfold rd_T60; rw [Int.toNat_natCast]; simp
/-- How a step of the check ends, whatever comes behind. -/
def endC (o : Option (List S60)) (val : List S60 → Int) : Int := match o with | none => 70 | some s => val s
theorem check_j1 (K : Nat) (l0 : List S60) (i : Nat) (st : List S60) (p : S60) (val : List S60 → Int) (hi : i < 1000000) (hst : st.length ≤ 16)
    (IH : ∀ s k, K ≤ k → s.length ≤ 16 → xml_Check.l0 k l0 s l0 (l0.length : Int) (((i + 1 : Nat)) : Int) = some (val s)) (k : Nat) (hk : K + 2 ≤ k) :
    xml_Check.j1 k l0 st l0 (l0.length : Int) (i : Int) false p.f0 p.f1 p.f2 p.f3 = some (endC (capB (openB st p)) val) := by
  obtain ⟨k, rfl⟩ : ∃ k', k = k' + 2 := ⟨k - 2, by omega⟩
  have hw : wrap64 ((i : Int) + 1) = ((i + 1 : Nat) : Int) := wrapE _ _ (by omega) (by omega)
  rw [xml_Check.j1, if_neg Bool.false_ne_true]
  unfold openB
  by_cases k1 : p.f0 = 1
  · rw [if_pos k1, if_pos k1, if_pos (by omega), Option.bind_some]
    by_cases hc : 16 < (st ++ [p]).length
    · rw [if_pos (by have : (st ++ [(⟨p.f0, p.f1, p.f2, p.f3⟩ : S60)]).length = (st ++ [p]).length := by simp
                     omega)]
      rw [capB_some, if_pos hc]; rfl
    · rw [if_neg (by have : (st ++ [(⟨p.f0, p.f1, p.f2, p.f3⟩ : S60)]).length = (st ++ [p]).length := by simp
                     omega), hw]
      rw [capB_some, if_neg hc]
      exact IH (st ++ [p]) (k + 1) (by omega) (by omega)
  · rw [if_neg k1, if_neg k1]
    by_cases k2 : p.f0 = 2
    · rw [if_pos k2, if_pos k2]
      rcases List.eq_nil_or_concat st with rfl | ⟨s0, t, rfl⟩
      · rw [if_pos (by simp), xml_Check.j2, if_pos rfl]; rfl
      · rw [List.concat_eq_append] at hst ⊢
        have hl : (s0 ++ [t]).length = s0.length + 1 := by simp
        have hw2 : wrap64 (((s0 ++ [t]).length : Int) - 1) = ((s0.length : Nat) : Int) := wrapE _ _ (by omega) (by omega)
        rw [if_neg (by omega), hw2, if_pos (by omega), if_pos (by omega), rd_last s0 t _ rfl, popB_snoc, tl, tl]
        have hj2 : xml_Check.j2 (k + 1) l0 (s0 ++ [t]) l0 (l0.length : Int) (i : Int) true = some 70 := by rw [xml_Check.j2, if_pos rfl]
        by_cases c1 : bl t.f2 = bl p.f2
        · rw [if_pos c1]
          by_cases c2 : t.f1 = p.f1
          · rw [if_pos ⟨c1, c2⟩, show (t.f1 != p.f1) = false from bne_eq_false_iff_eq.2 c2, xml_Check.j2, if_neg Bool.false_ne_true, hw2, if_pos (by omega), if_pos (by omega), Option.bind_some, Int.toNat_natCast]
            rw [show (s0 ++ [t]).take s0.length = s0 by simp, if_neg (by omega), hw]
            rw [capB_some, if_neg (by omega)]
            exact IH s0 k (by omega) (by omega)
          · rw [if_neg (fun h => c2 h.2), show (t.f1 != p.f1) = true from bne_iff_ne.2 c2, hj2]; rfl
        · rw [if_neg c1, if_neg (fun h => c1 h.1), hj2]; rfl
    · rw [if_neg k2, if_neg k2, if_neg (by omega), hw]
      rw [capB_some, if_neg (by omega)]
      exact IH st (k + 1) (by omega) hst
theorem rd_at (l0 : List S60) (i : Nat) (p : S60) (rest : List S60) (h : l0.drop i = p :: rest) : rd_T60 l0 (i : Int) = p ∧ i < l0.length := by
  have hlt : i < l0.length := by
    rcases Nat.lt_or_ge i l0.length with h' | h'
    · exact h'
    · rw [List.drop_of_length_le h'] at h; cases h
  rw [List.drop_eq_getElem_cons hlt] at h
  injection h with h1 h2
  unfold rd_T60
  rw [Int.toNat_natCast, List.getD_eq_getElem?_getD, List.getElem?_eq_getElem hlt]
  exact ⟨h1, hlt⟩
theorem check_l0 (l0 : List S60) (M : Nat) (hM : M ≤ 2000000) (hl : l0.length ≤ 1000) (hs : ∀ p ∈ l0, sizeOkB M p) (hne : l0 ≠ []) : ∀ (rest : List S60) (i : Nat) (st : List S60), l0.drop i = rest → st.length ≤ 16 →
    ∀ k, 3 * rest.length + M + 5 ≤ k → xml_Check.l0 k l0 st l0 (l0.length : Int) (i : Int) = some (if runB (decide (i = 0)) (rd_T60 l0 ((i : Int) - 1)).f0 st rest = true then 0 else 70)
  | [], i, st, hd, hst, k, hk => by
    obtain ⟨k, rfl⟩ : ∃ k', k = k' + 1 := ⟨k - 1, by omega⟩
    have hi : l0.length ≤ i := by
      rcases Nat.lt_or_ge i l0.length with h' | h'
      · rw [List.drop_eq_getElem_cons h'] at hd; cases hd
      · exact h'
    have h0 : 0 < l0.length := List.length_pos_iff.2 hne
    rw [xml_Check.l0, if_neg (by omega), if_neg (by omega)]
    unfold runB
    cases st with
    | nil => rw [if_neg (by simp)]; rfl
    | cons a l => rw [if_pos (show ((a :: l).length : Int) > 0 by rw [List.length_cons]; omega)]; rfl
  | p :: rest, i, st, hd, hst, k, hk => by
    rw [List.length_cons] at hk
    obtain ⟨k, rfl⟩ : ∃ k', k = k' + 1 := ⟨k - 1, by omega⟩
    obtain ⟨hrd, hi⟩ := rd_at l0 i p rest hd
    have hp : sizeOkB M p := hs p (by rw [← List.take_append_drop i l0, hd]; simp)
    have hd' : l0.drop (i + 1) = rest := by rw [← List.drop_drop, hd]; rfl
    have IH : ∀ s k, 3 * rest.length + M + 5 ≤ k → s.length ≤ 16 → xml_Check.l0 k l0 s l0 (l0.length : Int) (((i + 1 : Nat)) : Int) = some (if runB false p.f0 s rest = true then 0 else 70) := fun s k hk hs' => by
      have h := check_l0 l0 M hM hl hs hne rest (i + 1) s hd' hs' k hk
      rw [show (((i + 1 : Nat) : Int) - 1) = (i : Int) by omega, hrd, show decide (i + 1 = 0) = false from decide_eq_false (by omega)] at h
      exact h
    have hj := check_j1 (3 * rest.length + M + 5) l0 i st p _ (by omega) hst IH k (by omega)
    have hbad : xml_Check.j1 k l0 st l0 (l0.length : Int) (i : Int) true p.f0 p.f1 p.f2 p.f3 = some 70 := by
      obtain ⟨k, rfl⟩ : ∃ k', k = k' + 1 := ⟨k - 1, by omega⟩
      rw [xml_Check.j1, if_pos rfl]
    have hE : ∀ o, endC o (fun s => if runB false p.f0 s rest = true then 0 else 70) = if (match o with | none => false | some s => runB false p.f0 s rest) = true then 0 else 70 := fun o => by cases o <;> rfl
    rw [hE] at hj
    rw [xml_Check.l0, if_pos (by omega), if_pos (by omega), if_pos (by omega), hrd, right_f p M hM hp k (by omega), Option.bind_some]
    rw [runB]
    by_cases hr : rightB p = true
    · rw [if_pos hr]
      by_cases h0 : i = 0
      · subst h0
        rw [if_neg (show ¬ (((0 : Nat) : Int) > 0) by decide)]
        have hn2 : ¬ (decide ((0 : Nat) = 0) = false ∧ st = []) := fun h => by cases h.1
        by_cases k3 : p.f0 = 3
        · rw [if_pos k3, if_pos (show ((0 : Nat) : Int) = 0 from rfl), hbad, step_none3 (i0 := decide ((0 : Nat) = 0)) ⟨k3, .inl rfl⟩]; rfl
        · rw [if_neg k3, step_go hr hn2 (fun h => k3 h.1)]; exact hj
      · rw [if_pos (show (i : Int) > 0 by omega)]
        by_cases hs0 : st = []
        · rw [if_pos (show (st.length : Int) = 0 by rw [hs0]; rfl), hbad, step_none2 ⟨decide_eq_false h0, hs0⟩]; rfl
        · rw [if_neg (show ¬ ((st.length : Int) = 0) by have := List.length_pos_iff.2 hs0; omega)]
          have hn2 : ¬ (decide (i = 0) = false ∧ st = []) := fun h => hs0 h.2
          by_cases k3 : p.f0 = 3
          · have hw : wrap64 ((i : Int) - 1) = ((i : Int) - 1) := by unfold wrap64; omega
            rw [if_pos k3, if_neg (show ¬ ((i : Int) = 0) by omega), hw, if_pos (show (0 : Int) ≤ (i : Int) - 1 by omega), if_pos (show (i : Int) - 1 < (l0.length : Int) by omega)]
            by_cases kp : (rd_T60 l0 ((i : Int) - 1)).f0 = 3
            · rw [beq_iff_eq.2 kp, hbad, step_none3 ⟨k3, .inr kp⟩]; rfl
            · rw [beq_eq_false_iff_ne.2 kp, step_go hr hn2 (fun h => h.2.elim (fun h => h0 (of_decide_eq_true h)) kp)]; exact hj
          · rw [if_neg k3, step_go hr hn2 (fun h => k3 h.1)]; exact hj
    · rw [if_neg hr, hbad, step_none1 hr]; rfl
theorem check_f (l0 : List S60) (M : Nat) (hM : M ≤ 2000000) (hl : l0.length ≤ 1000) (hs : ∀ p ∈ l0, sizeOkB M p) (k : Nat) (hk : 3 * l0.length + M + 5 ≤ k) : xml_Check.f k l0 = some (if okB l0 = true then 0 else 70) := by
  unfold xml_Check.f okB
  by_cases hne : l0 = []
  · subst hne
    obtain ⟨k, rfl⟩ : ∃ k', k = k' + 1 := ⟨k - 1, by omega⟩
    rw [xml_Check.l0]; rfl
  · have h := check_l0 l0 M hM hl hs hne l0 0 [] rfl (by simp) k hk
    rw [show ((0 : Nat) : Int) = 0 from rfl] at h
    rw [h, decide_eq_true hne, Bool.true_and]
    cases l0 with
    | nil => exact absurd rfl hne
    | cons p rest =>
      have e : ∀ pk pk', runB true pk [] (p :: rest) = runB true pk' [] (p :: rest) := fun pk pk' => by
        unfold runB stepB
        simp
      rw [show decide ((0 : Nat) = 0) = true from rfl, e _ 0]
end Go.Proofs.YtpaopeiegaijiaaGreatDoor.PwXmlRemarks
