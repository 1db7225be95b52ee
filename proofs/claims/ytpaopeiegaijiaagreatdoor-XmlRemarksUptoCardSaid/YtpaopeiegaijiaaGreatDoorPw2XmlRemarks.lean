import Derived.Test.YtpaopeiegaijiaaGreatDoorPw1XmlRemarks
/- The reference's check of pieces. -/
namespace Go.Proofs.YtpaopeiegaijiaaGreatDoor.PwXmlRemarks
open Go.RowKit Go.Lib Go.Proofs.YtpaopeiegaijiaaGreatDoor Go.Proofs.YtpaopeiegaijiaaGreatDoor.XXmlRemarks Go.Proofs.YtpaopeiegaijiaaGreatDoorW.PrintWords Go.Proofs.YtpaopeiegaijiaaGreatDoorW.PrintLast
set_option linter.unusedVariables false
set_option linter.unusedSimpArgs false
theorem rfirst_f (c : UInt8) : calepinref07_first.f (c.toNat : Int) = some (letB c) := by
  have := Go.Proofs.YtpaopeiegaijiaaGreatDoor.byte_all (p := fun c => calepinref07_first.f (c.toNat : Int) == some (letB c)) (by decide +kernel) c
  exact beq_iff_eq.1 this
theorem rblank_f (c : UInt8) : calepinref07_blank.f (c.toNat : Int) = some (isBl c) := by
  have := Go.Proofs.YtpaopeiegaijiaaGreatDoor.byte_all (p := fun c => calepinref07_blank.f (c.toNat : Int) == some (isBl c)) (by decide +kernel) c
  exact beq_iff_eq.1 this
theorem rname_step (c : UInt8) (X T R : Option Int) (hy : nameB c = true → X = R) (hn : nameB c = false → T = R) :
    (if letB c = true then X else (if (c.toNat : Int) ≥ 48 then (if (c.toNat : Int) ≤ 57 then X else (if (c.toNat : Int) = 45 then X else (if (c.toNat : Int) = 46 then X else T))) else (if (c.toNat : Int) = 45 then X else (if (c.toNat : Int) = 46 then X else T)))) = R := by
  have h := lead_step c 1 (by decide) X T R hy hn
  rw [if_pos (show ((1 : Nat) : Int) > 0 by decide)] at h
  exact h
theorem rname_l0 (l : List UInt8) (hl : l.length ≤ 9223372036854775806) : ∀ (j k i : Nat), i + j = l.length → j + 1 ≤ k → 0 < i →
    calepinref07_Name.l0 k ⟨l.toArray⟩ 0 (i : Int) = some ((capN (i + ((l.drop i).takeWhile nameB).length) : Nat) : Int) := by
  have hz := sz_l l
  intro j
  induction j with
  | zero =>
    intro k i hi hk h0
    obtain ⟨k, rfl⟩ : ∃ k', k = k' + 1 := ⟨k - 1, by omega⟩
    rw [calepinref07_Name.l0, wrapE ((0 : Int) + i) i (by omega) (by omega), if_neg (by omega), List.drop_of_length_le (by omega), cap_if]
    rfl
  | succ j ih =>
    intro k i hi hk h0
    obtain ⟨k, rfl⟩ : ∃ k', k = k' + 1 := ⟨k - 1, by omega⟩
    have hlt : i < l.length := by omega
    have hd := List.drop_eq_getElem_cons hlt
    have hn := ih k (i + 1) (by omega) (by omega) (by omega)
    have hb := bt_l l i hlt
    rw [calepinref07_Name.l0, wrapE ((0 : Int) + i) i (by omega) (by omega), if_pos (by omega), if_pos (by omega), hb, rfirst_f, Option.bind_some, wrapE ((i : Int) + 1) (i + 1) (by omega) (by omega), hn, hd, cap_if]
    generalize l[i] = c
    refine rname_step c _ _ _ (fun h => ?_) (fun h => ?_)
    · rw [List.takeWhile_cons_of_pos h, List.length_cons, show i + ((List.takeWhile nameB (List.drop (i + 1) l)).length + 1) = i + 1 + (List.takeWhile nameB (List.drop (i + 1) l)).length by omega]
    · rw [List.takeWhile_cons_of_neg (by rw [h]; simp)]
      rfl
theorem rname_f (l : List UInt8) (hl : l.length ≤ 9223372036854775806) (k : Nat) (hk : l.length + 3 ≤ k) : calepinref07_Name.f k ⟨l.toArray⟩ 0 = some ((leadL l : Nat) : Int) := by
  obtain ⟨k, rfl⟩ : ∃ k', k = k' + 1 := ⟨k - 1, by omega⟩
  have hz := sz_l l
  unfold calepinref07_Name.f leadL
  cases l with
  | nil => rw [if_pos (by rw [hz]; simp)]; rfl
  | cons c l =>
    have hb : bt ⟨(c :: l).toArray⟩ 0 = (c.toNat : Int) := bt_l (c :: l) 0 (by simp)
    have h1 := rname_l0 (c :: l) hl l.length k 1 (by simp; omega) (by simp at hk; omega) (by omega)
    rw [List.drop_one, List.tail_cons] at h1
    simp only [List.length_cons] at hz hl hk
    rw [if_neg (by omega), if_pos (by omega), if_pos (by omega), hb, rfirst_f, Option.bind_some, nameN, calepinref07_Name.j0]
    by_cases h : letB c = true
    · rw [h, if_neg (by decide), if_pos rfl]; exact h1
    · have h' : letB c = false := by simpa using h
      rw [h', if_pos (by decide), if_neg (by decide)]; rfl
theorem rname_ba (s : ByteArray) (hs : s.size ≤ 1000000000) (k : Nat) (hk : s.size + 3 ≤ k) : calepinref07_Name.f k s 0 = some ((leadL (bl s) : Nat) : Int) := by
  have h := rname_f (bl s) (by rw [bl_size]; omega) k (by rw [bl_size]; omega)
  rw [bl_mk] at h
  exact h
theorem rblanks_l0 (l : List UInt8) (hl : l.length ≤ 1000000000) : ∀ (j k i : Nat), i + j = l.length → j + 1 ≤ k → calepinref07_Blanks.l0 k ⟨l.toArray⟩ (i : Int) = some ((l.drop i).all isBl) := by
  have hz := sz_l l
  intro j
  induction j with
  | zero =>
    intro k i hi hk
    obtain ⟨k, rfl⟩ : ∃ k', k = k' + 1 := ⟨k - 1, by omega⟩
    rw [calepinref07_Blanks.l0, if_neg (by omega), List.drop_of_length_le (by omega)]
    rfl
  | succ j ih =>
    intro k i hi hk
    obtain ⟨k, rfl⟩ : ∃ k', k = k' + 1 := ⟨k - 1, by omega⟩
    have hlt : i < l.length := by omega
    rw [calepinref07_Blanks.l0, if_pos (by omega), if_pos (by omega), bt_l l i hlt, rblank_f, Option.bind_some, wrapE ((i : Int) + 1) (i + 1) (by omega) (by omega), ih k (i + 1) (by omega) (by omega), List.drop_eq_getElem_cons hlt, List.all_cons]
    cases isBl l[i] <;> simp
theorem rblanks_ba (s : ByteArray) (hs : s.size ≤ 1000000000) (k : Nat) (hk : s.size + 1 ≤ k) : calepinref07_Blanks.f k s = some (blankL (bl s)) := by
  have h := rblanks_l0 (bl s) (by rw [bl_size]; omega) (bl s).length k 0 (by omega) (by rw [bl_size]; omega)
  rw [bl_mk, List.drop_zero, ← blank_all] at h
  exact h
theorem rvalid_ba (s : ByteArray) (hs : s.size ≤ 1000000000) (k : Nat) (hk : s.size + 13 ≤ k) : calepinref01_Valid.f k s = some (okL (bl s)) := refValid s.size s k (Nat.le_refl _) (by omega) hk
def endR (o : Option (List S60)) (val : List S60 → Bool) : Bool := match o with | none => false | some s => val s
theorem right_j3 (K : Nat) (l0 : List S60) (i : Nat) (st : List S60) (p : S60) (val : List S60 → Bool) (hi : i < 1000000) (hst : st.length ≤ 16)
    (IH : ∀ s k, K ≤ k → s.length ≤ 16 → calepinref07_Right.l0 k l0 s l0 (l0.length : Int) (((i + 1 : Nat)) : Int) = some (val s)) (k : Nat) (hk : K + 3 ≤ k) :
    calepinref07_Right.j3 k l0 st l0 (l0.length : Int) (i : Int) p.f0 p.f1 p.f2 p.f3 = some (endR (capB (openB st p)) val) := by
  obtain ⟨k, rfl⟩ : ∃ k', k = k' + 3 := ⟨k - 3, by omega⟩
  have hw : wrap64 ((i : Int) + 1) = ((i + 1 : Nat) : Int) := wrapE _ _ (by omega) (by omega)
  rw [calepinref07_Right.j3]
  unfold openB
  by_cases k1 : p.f0 = 1
  · rw [if_pos k1, if_pos k1, if_pos (by omega), calepinref07_Right.j4, if_neg (by omega)]
    have hln : (st ++ [(⟨p.f0, p.f1, p.f2, p.f3⟩ : S60)]).length = (st ++ [p]).length := by simp
    by_cases hc : 16 < (st ++ [p]).length
    · rw [if_pos (by omega)]
      rw [capB_some, if_pos hc]; rfl
    · rw [if_neg (by omega), hw]
      rw [capB_some, if_neg hc]
      exact IH (st ++ [p]) (k + 1) (by omega) (by omega)
  · rw [if_neg k1, if_neg k1, calepinref07_Right.j4]
    by_cases k2 : p.f0 = 2
    · rw [if_pos k2, if_pos k2]
      rcases List.eq_nil_or_concat st with rfl | ⟨s0, t, rfl⟩
      · rw [if_pos (by simp), calepinref07_Right.j5, if_pos rfl]; rfl
      · rw [List.concat_eq_append] at hst ⊢
        have hl : (s0 ++ [t]).length = s0.length + 1 := by simp
        have hw2 : wrap64 (((s0 ++ [t]).length : Int) - 1) = ((s0.length : Nat) : Int) := wrapE _ _ (by omega) (by omega)
        rw [if_neg (by omega), hw2, if_pos (by omega), if_pos (by omega), rd_last s0 t _ rfl, popB_snoc, tl, tl]
        have hj2 : calepinref07_Right.j5 (k + 1) l0 (s0 ++ [t]) (((s0 ++ [t]).length : Nat) : Int) l0 (l0.length : Int) (i : Int) true = some false := by rw [calepinref07_Right.j5, if_pos rfl]
        by_cases c1 : bl t.f2 = bl p.f2
        · rw [if_pos c1]
          by_cases c2 : t.f1 = p.f1
          · rw [if_pos ⟨c1, c2⟩, show (t.f1 != p.f1) = false from bne_eq_false_iff_eq.2 c2, calepinref07_Right.j5, if_neg Bool.false_ne_true, hw2, if_pos (by omega), if_pos (by omega), Option.bind_some, Int.toNat_natCast]
            rw [show (s0 ++ [t]).take s0.length = s0 by simp, if_neg (by omega), hw]
            rw [capB_some, if_neg (by omega)]
            exact IH s0 k (by omega) (by omega)
          · rw [if_neg (fun h => c2 h.2), show (t.f1 != p.f1) = true from bne_iff_ne.2 c2, hj2]; rfl
        · rw [if_neg c1, if_neg (fun h => c1 h.1), hj2]; rfl
    · rw [if_neg k2, if_neg k2, if_neg (by omega), hw]
      rw [capB_some, if_neg (by omega)]
      exact IH st (k + 1) (by omega) hst
theorem right_l0 (l0 : List S60) (M : Nat) (hM : M ≤ 2000000) (hl : l0.length ≤ 1000) (hs : ∀ p ∈ l0, sizeOkB M p) (hne : l0 ≠ []) : ∀ (rest : List S60) (i : Nat) (st : List S60), l0.drop i = rest → st.length ≤ 16 →
    ∀ k, 6 * rest.length + M + 20 ≤ k → calepinref07_Right.l0 k l0 st l0 (l0.length : Int) (i : Int) = some (runB (decide (i = 0)) (rd_T60 l0 ((i : Int) - 1)).f0 st rest)
  | [], i, st, hd, hst, k, hk => by
    obtain ⟨k, rfl⟩ : ∃ k', k = k' + 1 := ⟨k - 1, by omega⟩
    have hi : l0.length ≤ i := by
      rcases Nat.lt_or_ge i l0.length with h' | h'
      · rw [List.drop_eq_getElem_cons h'] at hd; cases hd
      · exact h'
    have h0 : 0 < l0.length := List.length_pos_iff.2 hne
    rw [calepinref07_Right.l0, if_neg (by omega), if_pos (by omega)]
    unfold runB
    cases st with
    | nil => rfl
    | cons a l => rfl
  | p :: rest, i, st, hd, hst, k, hk => by
    rw [List.length_cons] at hk
    obtain ⟨k, rfl⟩ : ∃ k', k = k' + 3 := ⟨k - 3, by omega⟩
    obtain ⟨hrd, hi⟩ := rd_at l0 i p rest hd
    have hp : sizeOkB M p := hs p (by rw [← List.take_append_drop i l0, hd]; simp)
    have hd' : l0.drop (i + 1) = rest := by rw [← List.drop_drop, hd]; rfl
    have IH : ∀ s k, 6 * rest.length + M + 20 ≤ k → s.length ≤ 16 → calepinref07_Right.l0 k l0 s l0 (l0.length : Int) (((i + 1 : Nat)) : Int) = some (runB false p.f0 s rest) := fun s k hk hs' => by
      have h := right_l0 l0 M hM hl hs hne rest (i + 1) s hd' hs' k hk
      rw [show (((i + 1 : Nat) : Int) - 1) = (i : Int) by omega, hrd, show decide (i + 1 = 0) = false from decide_eq_false (by omega)] at h
      exact h
    have hj := right_j3 (6 * rest.length + M + 20) l0 i st p _ (by omega) hst IH k (by omega)
    have hE : ∀ o, endR o (fun s => runB false p.f0 s rest) = (match o with | none => false | some s => runB false p.f0 s rest) := fun o => by cases o <;> rfl
    rw [hE] at hj
    -- the middle: what j2 says
    have hmid : ∀ x23 : Bool, (x23 = true ↔ (p.f0 = 1 ∨ p.f0 = 2)) → calepinref07_Right.j2 (k + 1) l0 st (i : Int) l0 (l0.length : Int) (i : Int) p.f0 x23 p.f0 p.f1 p.f2 p.f3 =
        some (if rightB p = true then (if p.f0 = 3 ∧ (i = 0 ∨ (rd_T60 l0 ((i : Int) - 1)).f0 = 3) then false else (match capB (openB st p) with | none => false | some s => runB false p.f0 s rest)) else false) := by
      intro x23 hx
      obtain ⟨f0, f1, f2, f3⟩ := p
      obtain ⟨hp2, hp3⟩ := hp
      simp only at hp2 hp3 hx hj
      rw [calepinref07_Right.j2]
      unfold rightB
      simp only
      by_cases k12 : f0 = 1 ∨ f0 = 2
      · rw [if_pos (hx.2 k12), if_pos k12]
        have hn3 : ¬ (f0 = 3 ∧ (i = 0 ∨ (rd_T60 l0 ((i : Int) - 1)).f0 = 3)) := fun h => by omega
        rw [if_neg hn3]
        by_cases c1 : (f3.size : Int) > 0
        · rw [if_pos c1, decide_eq_false (show ¬ bl f3 = [] from fun h => by have := bl_size f3; rw [h] at this; simp at this; omega)]; simp
        · rw [if_neg c1, decide_eq_true (show bl f3 = [] from List.eq_nil_of_length_eq_zero (by rw [bl_size]; omega))]
          by_cases c2 : f1 < 0
          · rw [if_pos c2, decide_eq_false (show ¬ (0 : Int) ≤ f1 by omega)]; simp
          · rw [if_neg c2, decide_eq_true (show (0 : Int) ≤ f1 by omega)]
            by_cases c3 : f1 > 2
            · rw [if_pos c3, decide_eq_false (show ¬ f1 ≤ 2 by omega)]; simp
            · rw [if_neg c3, decide_eq_true (show f1 ≤ 2 by omega), rname_ba f2 (by omega) _ (by omega), Option.bind_some]
              by_cases c4 : leadL (bl f2) = (bl f2).length
              · rw [if_pos (by rw [c4, bl_size]), decide_eq_true c4]
                by_cases c5 : (f2.size : Int) = 0
                · rw [if_pos c5, decide_eq_false (fun h => h (List.eq_nil_of_length_eq_zero (by rw [bl_size]; omega)))]; simp
                · rw [if_neg c5, decide_eq_true (show bl f2 ≠ [] from fun h => by have := bl_size f2; rw [h] at this; simp at this; omega), hj]; simp
              · rw [if_neg (fun h => c4 (by rw [bl_size]; omega)), decide_eq_false c4]; simp
      · have hxf : x23 = false := by
          cases x23 with
          | false => rfl
          | true => exact absurd (hx.1 rfl) k12
        rw [hxf, if_neg Bool.false_ne_true, if_neg k12]
        by_cases k3 : f0 = 3
        · rw [if_pos k3, if_pos k3]
          have hw : wrap64 ((i : Int) - 1) = (i : Int) - 1 := by unfold wrap64; omega
          have hany : ∀ b : Bool, (i = 0 ∨ (rd_T60 l0 ((i : Int) - 1)).f0 = 3) → (some (if b = true then (if f0 = 3 ∧ (i = 0 ∨ (rd_T60 l0 ((i : Int) - 1)).f0 = 3) then false else (match capB (openB st ⟨f0, f1, f2, f3⟩) with | none => false | some s => runB false f0 s rest)) else false)) = some false := fun b h => by
            cases b with
            | false => rfl
            | true => rw [if_pos rfl, if_pos ⟨k3, h⟩]
          by_cases c0 : (i : Int) = 0
          · rw [if_pos c0, hany _ (.inl (by omega))]
          · rw [if_neg c0, hw, if_pos (by omega), if_pos (by omega)]
            by_cases cp : (rd_T60 l0 ((i : Int) - 1)).f0 = 3
            · rw [if_pos cp, hany _ (.inr cp)]
            · rw [if_neg cp, if_neg (show ¬ (f0 = 3 ∧ (i = 0 ∨ (rd_T60 l0 ((i : Int) - 1)).f0 = 3)) from fun h => h.2.elim (fun h => c0 (by omega)) cp)]
              by_cases c1 : (f2.size : Int) > 0
              · rw [if_pos c1, decide_eq_false (show ¬ bl f2 = [] from fun h => by have := bl_size f2; rw [h] at this; simp at this; omega)]; simp
              · rw [if_neg c1, decide_eq_true (show bl f2 = [] from List.eq_nil_of_length_eq_zero (by rw [bl_size]; omega))]
                by_cases c2 : f1 = 0
                · rw [if_pos c2, decide_eq_true c2, rvalid_ba f3 (by omega) _ (by omega), Option.bind_some]
                  cases hv : okL (bl f3) with
                  | false => simp
                  | true =>
                    rw [if_pos rfl, rblanks_ba f3 (by omega) _ (by omega), Option.bind_some]
                    cases hb : blankL (bl f3) with
                    | true => simp
                    | false => rw [if_neg Bool.false_ne_true, hj]; simp
                · rw [if_neg c2, decide_eq_false c2]; simp
        · rw [if_neg k3, if_neg k3]; simp
    have hj1 : calepinref07_Right.j1 (k + 2) l0 st (i : Int) l0 (l0.length : Int) (i : Int) false p.f0 p.f1 p.f2 p.f3 = some (if rightB p = true then (if p.f0 = 3 ∧ (i = 0 ∨ (rd_T60 l0 ((i : Int) - 1)).f0 = 3) then false else (match capB (openB st p) with | none => false | some s => runB false p.f0 s rest)) else false) := by
      rw [calepinref07_Right.j1, if_neg Bool.false_ne_true]
      by_cases k1 : p.f0 = 1
      · rw [if_pos k1]; exact hmid _ (by rw [beq_iff_eq]; omega)
      · rw [if_neg k1]; exact hmid _ (by rw [beq_iff_eq]; omega)
    have hbad : calepinref07_Right.j1 (k + 2) l0 st (i : Int) l0 (l0.length : Int) (i : Int) true p.f0 p.f1 p.f2 p.f3 = some false := by rw [calepinref07_Right.j1, if_pos rfl]
    rw [calepinref07_Right.l0, if_pos (by omega), if_pos (by omega), if_pos (by omega), hrd]
    rw [runB]
    by_cases h0 : i = 0
    · subst h0
      rw [if_neg (show ¬ (((0 : Nat) : Int) > 0) by decide), hj1]
      have hn2 : ¬ (decide ((0 : Nat) = 0) = false ∧ st = []) := fun h => by cases h.1
      by_cases hr : rightB p = true
      · rw [if_pos hr]
        by_cases k3 : p.f0 = 3
        · rw [if_pos ⟨k3, .inl rfl⟩, step_none3 (i0 := decide ((0 : Nat) = 0)) ⟨k3, .inl rfl⟩]
        · rw [if_neg (fun h => k3 h.1), step_go hr hn2 (fun h => k3 h.1)]; rfl
      · rw [if_neg hr, step_none1 hr]
    · rw [if_pos (show (i : Int) > 0 by omega)]
      by_cases hs0 : st = []
      · rw [show ((st.length : Int) == 0) = true by rw [hs0]; rfl, hbad, step_none2 ⟨decide_eq_false h0, hs0⟩]
      · have hl0 := List.length_pos_iff.2 hs0
        have hn2 : ¬ (decide (i = 0) = false ∧ st = []) := fun h => hs0 h.2
        rw [show ((st.length : Int) == 0) = false from beq_eq_false_iff_ne.2 (by omega), hj1]
        by_cases hr : rightB p = true
        · rw [if_pos hr]
          by_cases k3 : p.f0 = 3 ∧ (i = 0 ∨ (rd_T60 l0 ((i : Int) - 1)).f0 = 3)
          · rw [if_pos k3, step_none3 ⟨k3.1, .inr (k3.2.resolve_left h0)⟩]
          · rw [if_neg k3, step_go hr hn2 (fun h => k3 ⟨h.1, h.2.elim (fun h => absurd (of_decide_eq_true h) h0) .inr⟩)]; rfl
        · rw [if_neg hr, step_none1 hr]
theorem right_ref (l0 : List S60) (M : Nat) (hM : M ≤ 2000000) (hl : l0.length ≤ 1000) (hs : ∀ p ∈ l0, sizeOkB M p) (k : Nat) (hk : 6 * l0.length + M + 20 ≤ k) : calepinref07_Right.f k l0 = some (okB l0) := by
  unfold calepinref07_Right.f okB
  by_cases hne : l0 = []
  · subst hne
    obtain ⟨k, rfl⟩ : ∃ k', k = k' + 1 := ⟨k - 1, by omega⟩
    rw [calepinref07_Right.l0]; rfl
  · have h := right_l0 l0 M hM hl hs hne l0 0 [] rfl (by simp) k hk
    rw [show ((0 : Nat) : Int) = 0 from rfl] at h
    rw [h, decide_eq_true hne, Bool.true_and]
    cases l0 with
    | nil => exact absurd rfl hne
    | cons p rest =>
      have e : ∀ pk pk', runB true pk [] (p :: rest) = runB true pk' [] (p :: rest) := fun pk pk' => by
        unfold runB stepB
        simp
      rw [show decide ((0 : Nat) = 0) = true from rfl, e _ 0]
end Go.Proofs.YtpaopeiegaijiaaGreatDoor.PwXmlRemarks
