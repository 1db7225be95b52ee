import Derived.Test.YtpaopeiegaijiaaGreatDoorPw2XmlRemarks
import Derived.Test.YtpaopeiegaijiaaGreatDoorXpN
/- Pieces that are right: a document, and its text. -/
namespace Go.Proofs.YtpaopeiegaijiaaGreatDoor.PwXmlRemarks
open Go.RowKit Go.Lib Go.Proofs.YtpaopeiegaijiaaGreatDoor Go.Proofs.YtpaopeiegaijiaaGreatDoor.XXmlRemarks Go.Proofs.YtpaopeiegaijiaaGreatDoorW.PrintWords Go.Proofs.YtpaopeiegaijiaaGreatDoorW.PrintLast
set_option linter.unusedVariables false
set_option linter.unusedSimpArgs false
theorem okN_of {l : List UInt8} (h : leadL l = l.length) (h0 : l ≠ []) : okN l := by
  have hp : 0 < l.length := List.length_pos_iff.2 h0
  unfold leadL capN at h
  split at h
  · omega
  · exact ⟨h0, h, by omega⟩
theorem right_P {p : S60} (h : rightB p = true) : rightP (ofS60 p) := by
  unfold rightB at h
  split at h
  · rename_i hk
    simp only [Bool.and_eq_true, decide_eq_true_eq] at h
    obtain ⟨⟨⟨⟨h1, h2⟩, h3⟩, h4⟩, h5⟩ := h
    refine .inl ⟨hk, h1, ?_, okN_of h4 h5⟩
    show p.f1 = 0 ∨ p.f1 = 1 ∨ p.f1 = 2
    omega
  · split at h
    · rename_i hk
      simp only [Bool.and_eq_true, decide_eq_true_eq, Bool.not_eq_true'] at h
      obtain ⟨⟨⟨h1, h2⟩, h3⟩, h4⟩ := h
      exact .inr ⟨hk, h1, h2, by show validB p.f3 = true; rw [validB_eq]; exact h3, h4⟩
    · cases h
theorem right_kind {p : S60} (h : rightB p = true) : p.f0 = 1 ∨ p.f0 = 2 ∨ p.f0 = 3 := by
  unfold rightB at h
  split at h
  · omega
  · split at h
    · omega
    · cases h
theorem bl_inj {s t : ByteArray} (h : bl s = bl t) : s = t := by rw [← bl_mk s, ← bl_mk t, h]
theorem run_chk : ∀ (rest st : List S60) (pk : Int), st.length ≤ 16 → runB false pk st rest = true → chkP ((st.map ofS60).reverse) (decide (pk = 3)) (rest.map ofS60)
  | [], st, pk, _, h => by
    unfold runB at h
    rw [of_decide_eq_true h]
    rfl
  | p :: rest, st, pk, hst, h => by
    unfold runB at h
    cases hs : stepB false pk st p with
    | none => rw [hs] at h; cases h
    | some s =>
      rw [hs] at h
      dsimp only at h
      unfold stepB at hs
      split at hs
      · rename_i hr
        split at hs
        · cases hs
        · rename_i hne
          split at hs
          · cases hs
          · rename_i h3
            have hst0 : st ≠ [] := fun e => hne ⟨rfl, e⟩
            have hp3 : p.f0 = 3 → pk ≠ 3 := fun k3 e => h3 ⟨k3, .inr e⟩
            obtain ⟨s0, t, rfl⟩ : ∃ s0 t, st = s0 ++ [t] := by
              rcases List.eq_nil_or_concat st with e | ⟨s0, t, e⟩
              · exact absurd e hst0
              · exact ⟨s0, t, by rw [e, List.concat_eq_append]⟩
            have hrev : ((s0 ++ [t]).map ofS60).reverse = ofS60 t :: (s0.map ofS60).reverse := by simp
            have hcap : ∃ s', openB (s0 ++ [t]) p = some s' ∧ s' = s ∧ s.length ≤ 16 := by
              cases ho : openB (s0 ++ [t]) p with
              | none => rw [ho] at hs; cases hs
              | some s' =>
                rw [ho, capB_some] at hs
                split at hs
                · cases hs
                · injection hs with hs; subst hs; exact ⟨_, rfl, rfl, by omega⟩
            obtain ⟨s', ho, rfl, hsl⟩ := hcap
            have IH := run_chk rest s' p.f0 hsl h
            rw [List.map_cons]
            refine ⟨right_P hr, fun k3 => decide_eq_false (hp3 k3), ofS60 t, (s0.map ofS60).reverse, hrev, ?_⟩
            unfold openB at ho
            split at ho
            · rename_i k1
              injection ho with ho
              subst ho
              refine .inl ⟨k1, ?_, ?_⟩
              · simp at hsl ⊢; omega
              · have e : (((s0 ++ [t]) ++ [p]).map ofS60).reverse = ofS60 p :: ((s0 ++ [t]).map ofS60).reverse := by simp
                rw [e, decide_eq_false (show ¬ p.f0 = 3 by omega)] at IH
                exact IH
            · split at ho
              · rename_i k1 k2
                rw [popB_snoc] at ho
                split at ho
                · rename_i hn
                  injection ho with ho
                  subst ho
                  rw [decide_eq_false (show ¬ p.f0 = 3 by omega)] at IH
                  exact .inr (.inl ⟨k2, bl_inj hn.1, hn.2, IH⟩)
                · cases ho
              · rename_i k1 k2
                injection ho with ho
                subst ho
                have k3 : p.f0 = 3 := by have := right_kind hr; omega
                rw [decide_eq_true k3] at IH
                exact .inr (.inr ⟨k3, IH⟩)
      · cases hs
theorem okB_chk {l0 : List S60} (h : okB l0 = true) : chkAll (l0.map ofS60) := by
  unfold okB at h
  rw [Bool.and_eq_true, decide_eq_true_eq] at h
  obtain ⟨hne, h⟩ := h
  cases l0 with
  | nil => exact absurd rfl hne
  | cons p rest =>
    unfold runB at h
    cases hs : stepB true 0 [] p with
    | none => rw [hs] at h; cases h
    | some s =>
      rw [hs] at h
      dsimp only at h
      unfold stepB at hs
      split at hs
      · rename_i hr
        rw [if_neg (fun h => by cases h.1)] at hs
        split at hs
        · cases hs
        · rename_i h3
          have k3 : p.f0 ≠ 3 := fun e => h3 ⟨e, .inl rfl⟩
          unfold openB at hs
          split at hs
          · rename_i k1
            have : s = [p] := by
              rw [capB_some] at hs
              split at hs
              · cases hs
              · injection hs with hs; exact hs.symm
            subst this
            have := run_chk rest [p] p.f0 (by simp) h
            rw [decide_eq_false k3] at this
            exact ⟨right_P hr, k1, this⟩
          · split at hs
            · cases hs
            · have := right_kind hr; omega
      · cases hs
/-! ## The text by places, and piece by piece -/
theorem at_cons (ps : List Pc) (k : Nat) (p : Pc) (rest : List Pc) (h : ps.drop k = p :: rest) : pcAt ps k = p ∧ k < ps.length ∧ ps.drop (k + 1) = rest := by
  have hlt : k < ps.length := by
    rcases Nat.lt_or_ge k ps.length with h' | h'
    · exact h'
    · rw [List.drop_of_length_le h'] at h; cases h
  have h' := h
  rw [List.drop_eq_getElem_cons hlt] at h'
  injection h' with h1 h2
  refine ⟨?_, hlt, h2⟩
  unfold pcAt
  rw [List.getD_eq_getElem?_getD, List.getElem?_eq_getElem hlt]
  exact h1
theorem next_at (ps : List Pc) (k : Nat) (rest : List Pc) (h : ps.drop k = rest) : (decide ((pcAt ps k).kind = 2)) = nextCls rest := by
  cases rest with
  | nil =>
    have hl : ps.length ≤ k := by
      rcases Nat.lt_or_ge k ps.length with h' | h'
      · rw [List.drop_eq_getElem_cons h'] at h; cases h
      · exact h'
    unfold pcAt
    rw [List.getD_eq_getElem?_getD, List.getElem?_eq_none hl]
    rfl
  | cons p r => rw [(at_cons ps k p r h).1]; rfl
theorem emit_at (ps : List Pc) (k : Nat) (p : Pc) (rest : List Pc) (h : ps.drop (k + 1) = p :: rest) : emitA ps (k + 1) = emitL (pcAt ps k).kind p rest := by
  obtain ⟨h1, h2, h3⟩ := at_cons ps (k + 1) p rest h
  have hn := next_at ps (k + 2) rest h3
  unfold emitA emitL
  rw [h1]
  by_cases k3 : p.kind = 3
  · rw [if_pos k3, if_pos k3]
  · rw [if_neg k3, if_neg k3]
    by_cases k1 : p.kind = 1
    · rw [if_pos k1, if_pos k1, if_neg (by omega), List.nil_append]
      by_cases h2 : (pcAt ps (k + 2)).kind = 2
      · rw [if_pos h2, if_pos (by rw [← hn]; exact decide_eq_true h2)]
      · rw [if_neg h2, if_neg (by rw [← hn, decide_eq_false h2]; exact Bool.false_ne_true)]
    · rw [if_neg k1, if_neg k1]; rfl
theorem out_prt (ps : List Pc) : ∀ (rest : List Pc) (k : Nat), ps.drop (k + 1) = rest → outL ps ps.length = outL ps (k + 1) ++ prtL (pcAt ps k).kind rest ∨ ps.length ≤ k
  | [], k, h => by
    have hl : ps.length ≤ k + 1 := by
      rcases Nat.lt_or_ge (k + 1) ps.length with h' | h'
      · rw [List.drop_eq_getElem_cons h'] at h; cases h
      · exact h'
    rcases Nat.lt_or_ge k ps.length with h' | h'
    · left; rw [show ps.length = k + 1 by omega]; simp [prtL]
    · exact .inr h'
  | p :: rest, k, h => by
    obtain ⟨h1, h2, h3⟩ := at_cons ps (k + 1) p rest h
    rcases out_prt ps rest (k + 1) h3 with e | e
    · left
      rw [e, outL, emit_at ps k p rest h, prtL, h1, List.append_assoc]
    · omega
theorem out_print {ps : List Pc} (h : chkAll ps) : outL ps ps.length = printL ps := by
  cases ps with
  | nil => exact h.elim
  | cons p rest =>
    rcases out_prt (p :: rest) rest 0 rfl with e | e
    · rw [e]
      have hk : p.kind = 1 := h.2.1
      have hn := next_at (p :: rest) 1 rest rfl
      have h0 : pcAt (p :: rest) 0 = p := rfl
      rw [h0, hk, printL]
      congr 1
      rw [outL, outL, List.nil_append]
      unfold emitA
      rw [h0, if_neg (by omega), if_pos hk, if_pos rfl]
      by_cases h2 : (pcAt (p :: rest) (0 + 1)).kind = 2
      · rw [if_pos h2, if_pos (by rw [← hn]; exact decide_eq_true h2)]
      · rw [if_neg h2, if_neg (by rw [← hn, decide_eq_false h2]; exact Bool.false_ne_true)]
    · simp at e
theorem chk_good : ∀ (rest st : List Pc) (b : Bool), chkP st b rest → ∀ (j : Nat) (p : Pc), rest[j]? = some p → rightP p ∧ (p.kind = 1 → j + 1 < rest.length)
  | [], st, b, h, j, p, hj => by simp at hj
  | q :: rest, st, b, h, j, p, hj => by
    obtain ⟨hr, _, o, st', e, h⟩ := h
    cases j with
    | zero =>
      simp only [List.getElem?_cons_zero, Option.some.injEq] at hj
      subst hj
      refine ⟨hr, fun k1 => ?_⟩
      rcases h with ⟨_, _, h⟩ | ⟨k2, _⟩ | ⟨k3, _⟩
      · cases rest with
        | nil => cases h
        | cons a l => simp
      · omega
      · omega
    | succ j =>
      simp only [List.getElem?_cons_succ] at hj
      rcases h with ⟨_, _, h⟩ | ⟨_, _, _, h⟩ | ⟨_, h⟩
      · have := chk_good rest _ _ h j p hj; simp only [List.length_cons]; exact ⟨this.1, fun k1 => by have := this.2 k1; omega⟩
      · have := chk_good rest _ _ h j p hj; simp only [List.length_cons]; exact ⟨this.1, fun k1 => by have := this.2 k1; omega⟩
      · have := chk_good rest _ _ h j p hj; simp only [List.length_cons]; exact ⟨this.1, fun k1 => by have := this.2 k1; omega⟩
theorem all_good {ps : List Pc} (h : chkAll ps) (j : Nat) (p : Pc) (hj : ps[j]? = some p) : rightP p ∧ (p.kind = 1 → j + 1 < ps.length) ∧ (p.kind ≠ 1 → 0 < j) := by
  cases ps with
  | nil => exact h.elim
  | cons q rest =>
    obtain ⟨hr, hk, h⟩ := h
    cases j with
    | zero =>
      simp only [List.getElem?_cons_zero, Option.some.injEq] at hj
      subst hj
      refine ⟨hr, fun _ => ?_, fun h => absurd hk h⟩
      cases rest with
      | nil => cases h
      | cons a l => simp
    | succ j =>
      simp only [List.getElem?_cons_succ] at hj
      have := chk_good rest _ _ h j p hj
      simp only [List.length_cons]
      exact ⟨this.1, fun k1 => by have := this.2 k1; omega, fun _ => by omega⟩
theorem good_all {l0 : List S60} {M : Nat} (hM : M ≤ 2000000) (hs : ∀ p ∈ l0, sizeOkB M p) (h : chkAll (l0.map ofS60)) : (List.range l0.length).all (goodA (l0.map ofS60)) = true := by
  rw [List.all_eq_true]
  intro j hj
  rw [List.mem_range] at hj
  have hjm : (l0.map ofS60)[j]? = some (ofS60 l0[j]) := by rw [List.getElem?_map, List.getElem?_eq_getElem hj]; rfl
  have hp : pcAt (l0.map ofS60) j = ofS60 l0[j] := by unfold pcAt; rw [List.getD_eq_getElem?_getD, hjm]; rfl
  obtain ⟨hr, h1, h2⟩ := all_good h j _ hjm
  obtain ⟨s2, s3⟩ := hs l0[j] (List.getElem_mem hj)
  rw [List.length_map] at h1
  unfold goodA
  rw [hp]
  have hz : okZ (ofS60 l0[j]).space := by
    rcases hr with ⟨_, _, hz, _⟩ | ⟨_, _, hz, _⟩
    · exact hz
    · exact .inl hz
  have e2 : (ofS60 l0[j]).name.size ≤ 17592186044416 := by show (l0[j]).f2.size ≤ _; omega
  have e3 : (ofS60 l0[j]).text.size ≤ 17592186044416 := by show (l0[j]).f3.size ≤ _; omega
  simp only [Bool.and_eq_true, Bool.or_eq_true, decide_eq_true_eq, List.length_map]
  refine ⟨⟨⟨⟨⟨?_, ?_⟩, ?_⟩, ?_⟩, e3⟩, e2⟩
  · rcases hz with h | h | h <;> rw [h] <;> decide
  · rcases hz with h | h | h <;> rw [h] <;> decide
  · by_cases k1 : (ofS60 l0[j]).kind = 1
    · exact .inr (h1 k1)
    · exact .inl k1
  · by_cases k1 : (ofS60 l0[j]).kind = 1
    · exact .inl (.inl k1)
    · exact .inr (h2 k1)
/-! ## The text is valid -/
theorem ok_app {a b : List UInt8} (ha : okL a = true) (hb : okL b = true) : okL (a ++ b) = true := by rw [okL_append a.length a b (Nat.le_refl _) ha]; exact hb
theorem esc_ok : ∀ (n : Nat) (l : List UInt8), l.length ≤ n → okL l = true → okL (escL l) = true
  | n, l, hn, h => by
    by_cases hx : l.any isEsc = true
    · obtain ⟨a, c, r, hl, ha, hc⟩ : ∃ a c r, l = a ++ c :: r ∧ a.all (fun x => !isEsc x) = true ∧ isEsc c = true := by
        clear hn h
        induction l with
        | nil => simp at hx
        | cons x l ih =>
          cases hc : isEsc x with
          | true => exact ⟨[], x, l, rfl, rfl, hc⟩
          | false =>
            rw [List.any_cons, hc, Bool.false_or] at hx
            obtain ⟨a, c, r, e, ha, hc'⟩ := ih hx
            exact ⟨x :: a, c, r, by rw [e]; rfl, by rw [List.all_cons, hc, ha]; rfl, hc'⟩
      subst hl
      have hlt : c.toNat < 128 := by
        simp only [isEsc, Bool.or_eq_true, beq_iff_eq] at hc
        rcases hc with ((rfl | rfl) | rfl) | rfl <;> decide
      have hst : startAt (a ++ c :: r) a.length = true := by
        unfold startAt
        have : (a ++ c :: r).getD a.length 0 = c := by simp
        rw [this, decide_eq_true hlt]; simp
      obtain ⟨h1, h2⟩ := okL_cut (a ++ c :: r).length (a ++ c :: r) a.length (Nat.le_refl _) (by simp) h
      rw [hst] at h1 h2
      rw [show (a ++ c :: r).take a.length = a by simp] at h1
      rw [show (a ++ c :: r).drop a.length = c :: r by simp] at h2
      have h1c : okL [c] = true := by
        simp only [isEsc, Bool.or_eq_true, beq_iff_eq] at hc
        rcases hc with ((rfl | rfl) | rfl) | rfl <;> decide
      have h2c : okL (escB c) = true := by
        simp only [isEsc, Bool.or_eq_true, beq_iff_eq] at hc
        rcases hc with ((rfl | rfl) | rfl) | rfl <;> decide
      have h3 : okL r = true := by
        rw [show c :: r = [c] ++ r from rfl, okL_append 1 [c] r (Nat.le_refl _) h1c] at h2
        exact h2
      obtain ⟨n, rfl⟩ : ∃ m, n = m + 1 := ⟨n - 1, by simp at hn; omega⟩
      have ih := esc_ok n r (by simp at hn; omega) h3
      have ea : escL a = a := by
        clear hn h hx hst h1 h2 h3 ih
        induction a with
        | nil => rfl
        | cons x a ih =>
          rw [List.all_cons, Bool.and_eq_true, Bool.not_eq_true'] at ha
          rw [escL_cons, esc_no ha.1, ih ha.2]; rfl
      rw [escL_app, escL_cons, ea]
      exact ok_app h1 (ok_app h2c ih)
    · have ea : escL l = l := by
        clear hn h
        induction l with
        | nil => rfl
        | cons x l ih =>
          rw [List.any_cons, Bool.or_eq_true, not_or] at hx
          rw [escL_cons, esc_no (by simpa using hx.1), ih hx.2]; rfl
      rw [ea]; exact h
theorem nm_plain {z : Int} {n : List UInt8} (hn : okN n) : (nmL z n).all plainB = true := by
  unfold nmL
  rw [List.all_append, name_plain hn, Bool.and_true]
  split
  · decide
  · split <;> decide
theorem doc_valid {d : Nat} {b : Bool} {ks : List Pc} {s : List UInt8} (h : Doc d b ks s) (hv : ∀ p ∈ ks, p.kind = 3 → okL (bl p.text) = true) : okL s = true := by
  induction h with
  | nil d b => rfl
  | @ch d x ks s hx h1 ih =>
    have h0 := hv (chars x) (by simp) rfl
    rw [show bl (chars x).text = x from bl_of x] at h0
    exact ok_app (esc_ok x.length x (Nat.le_refl _) h0) (ih (fun p hp => hv p (by simp [hp])))
  | @emp d b z n ks s hz hn hd h1 ih =>
    have hs := ih (fun p hp => hv p (by simp [hp]))
    have h0 : okL (60 :: (nmL z n ++ [47, 62])) = true := plain_ok _ (by rw [List.all_cons, List.all_append, nm_plain hn]; rfl)
    have e : 60 :: (nmL z n ++ 47 :: 62 :: s) = (60 :: (nmL z n ++ [47, 62])) ++ s := by simp
    rw [e]
    exact ok_app h0 hs
  | @el d b z n js ks u s hz hn hd hj h0 h1 ih0 ih1 =>
    have hu := ih0 (fun p hp => hv p (by simp [hp]))
    have hs := ih1 (fun p hp => hv p (by simp [hp]))
    have a0 : okL (60 :: (nmL z n ++ [62])) = true := plain_ok _ (by rw [List.all_cons, List.all_append, nm_plain hn]; rfl)
    have a1 : okL (60 :: 47 :: (nmL z n ++ [62])) = true := plain_ok _ (by rw [List.all_cons, List.all_cons, List.all_append, nm_plain hn]; rfl)
    have e : 60 :: (nmL z n ++ 62 :: (u ++ 60 :: 47 :: (nmL z n ++ 62 :: s))) = (60 :: (nmL z n ++ [62])) ++ (u ++ ((60 :: 47 :: (nmL z n ++ [62])) ++ s)) := by simp
    rw [e]
    exact ok_app a0 (ok_app hu (ok_app a1 hs))
theorem print_valid {ps : List Pc} (h : chkAll ps) : okL (printL ps) = true := by
  cases ps with
  | nil => exact h.elim
  | cons p rest =>
    obtain ⟨js, u, e, hz, hn, hj, hp⟩ := chk_all h
    have hv : ∀ q ∈ js, q.kind = 3 → okL (bl q.text) = true := fun q hq k3 => by
      have hm : q ∈ p :: rest := by rw [e]; simp [hq]
      obtain ⟨j, hjq⟩ := List.getElem?_of_mem hm
      obtain ⟨hr, _⟩ := all_good h j q hjq
      have := (rightP_chars hr k3).2.2
      rw [validB_eq] at this
      exact this
    have hu := doc_valid hj hv
    rw [hp]
    by_cases hj0 : js = []
    · rw [if_pos hj0]
      exact plain_ok _ (by rw [List.all_cons, List.all_append, nm_plain hn]; decide)
    · rw [if_neg hj0]
      have a0 : okL (60 :: (nmL p.space (bl p.name) ++ (attrsL ++ [62]))) = true := plain_ok _ (by rw [List.all_cons, List.all_append, nm_plain hn]; decide)
      have a1 : okL (60 :: 47 :: (nmL p.space (bl p.name) ++ [62])) = true := plain_ok _ (by rw [List.all_cons, List.all_cons, List.all_append, nm_plain hn]; rfl)
      have e2 : 60 :: (nmL p.space (bl p.name) ++ (attrsL ++ 62 :: (u ++ 60 :: 47 :: (nmL p.space (bl p.name) ++ [62])))) = (60 :: (nmL p.space (bl p.name) ++ (attrsL ++ [62]))) ++ (u ++ (60 :: 47 :: (nmL p.space (bl p.name) ++ [62]))) := by simp
      rw [e2]
      exact ok_app a0 (ok_app hu a1)
end Go.Proofs.YtpaopeiegaijiaaGreatDoor.PwXmlRemarks
