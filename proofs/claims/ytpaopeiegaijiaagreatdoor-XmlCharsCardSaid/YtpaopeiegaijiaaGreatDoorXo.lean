import Derived.Test.YtpaopeiegaijiaaGreatDoorXn
/- Pieces that are right are a document, and the document is read as these pieces. Plain lists alone. -/
namespace Go.Proofs.YtpaopeiegaijiaaGreatDoor
open Go.Lib
set_option linter.unusedVariables false
set_option linter.unusedSimpArgs false
def bl (s : ByteArray) : List UInt8 := s.data.toList
theorem bl_mk (s : ByteArray) : (⟨(bl s).toArray⟩ : ByteArray) = s := by cases s; simp [bl]
theorem bl_of (l : List UInt8) : bl ⟨l.toArray⟩ = l := by simp [bl]
theorem bl_nil {s : ByteArray} (h : bl s = []) : s = ⟨#[]⟩ := by rw [← bl_mk s, h]
/-- A piece that is right. -/
def rightP (p : Pc) : Prop := ((p.kind = 1 ∨ p.kind = 2) ∧ bl p.text = [] ∧ okZ p.space ∧ okN (bl p.name)) ∨ (p.kind = 3 ∧ bl p.name = [] ∧ p.space = 0 ∧ validB p.text = true ∧ blankL (bl p.text) = false)
/-- The check, behind the first piece: the elements that are open, whether characters stand before. -/
def chkP : List Pc → Bool → List Pc → Prop
  | st, _, [] => st = []
  | st, b, p :: rest => rightP p ∧ (p.kind = 3 → b = false) ∧ ∃ o st', st = o :: st' ∧
      ((p.kind = 1 ∧ st.length < 16 ∧ chkP (p :: st) false rest) ∨ (p.kind = 2 ∧ o.name = p.name ∧ o.space = p.space ∧ chkP st' false rest) ∨ (p.kind = 3 ∧ chkP st true rest))
theorem rightP_opn {p : Pc} (h : rightP p) (hk : p.kind = 1) : p = opnP p.space (bl p.name) ∧ okZ p.space ∧ okN (bl p.name) := by
  rcases h with ⟨_, h1, h2, h3⟩ | ⟨h0, _⟩
  · refine ⟨?_, h2, h3⟩
    obtain ⟨k, z, n, t⟩ := p
    simp only at hk h1
    subst hk
    rw [bl_nil h1, opnP, bl_mk]
  · omega
theorem rightP_cls {p : Pc} (h : rightP p) (hk : p.kind = 2) : p = clsP p.space (bl p.name) := by
  rcases h with ⟨_, h1, h2, h3⟩ | ⟨h0, _⟩
  · obtain ⟨k, z, n, t⟩ := p
    simp only at hk h1
    subst hk
    rw [bl_nil h1, clsP, bl_mk]
  · omega
theorem rightP_chars {p : Pc} (h : rightP p) (hk : p.kind = 3) : p = chars (bl p.text) ∧ blankL (bl p.text) = false ∧ validB p.text = true := by
  rcases h with ⟨h0, _⟩ | ⟨_, h1, h2, h3, h4⟩
  · omega
  · refine ⟨?_, h4, h3⟩
    obtain ⟨k, z, n, t⟩ := p
    simp only at hk h1 h2
    subst hk h2
    rw [bl_nil h1, chars, bl_mk]
/-- What a document's content is made of, told piece by piece. -/
theorem chk_doc : ∀ (m : Nat) (qs : List Pc), qs.length ≤ m → ∀ (o : Pc) (st : List Pc) (b : Bool), chkP (o :: st) b qs →
    ∃ ks rest s, qs = ks ++ clsP o.space (bl o.name) :: rest ∧ Doc (st.length + 1) b ks s ∧ chkP st false rest
  | m, [], _, o, st, b, h => by simp [chkP] at h
  | 0, p :: qs, hm, o, st, b, h => by simp at hm
  | m + 1, p :: qs, hm, o, st, b, h => by
    have hm' : qs.length ≤ m := by simpa using hm
    obtain ⟨hr, hb, o', st', e, h⟩ := h
    injection e with e1 e2
    subst e1 e2
    rcases h with ⟨hk, hd, h⟩ | ⟨hk, h1, h2, h⟩ | ⟨hk, h⟩
    · obtain ⟨js, rest, u, rfl, hj, h'⟩ := chk_doc m qs hm' p (o :: st) false h
      obtain ⟨ks, rest', s, rfl, hks, h''⟩ := chk_doc m rest (by simp at hm'; omega) o st false h'
      obtain ⟨hp, hz, hn⟩ := rightP_opn hr hk
      have hd' : st.length + 1 < 16 := by simpa using hd
      by_cases hj0 : js = []
      · subst hj0
        refine ⟨opnP p.space (bl p.name) :: clsP p.space (bl p.name) :: ks, rest', _, ?_, .emp hz hn hd' hks, h''⟩
        conv => lhs; rw [hp]
        simp [opnP, bl_of]
      · refine ⟨opnP p.space (bl p.name) :: (js ++ clsP p.space (bl p.name) :: ks), rest', _, ?_, .el hz hn hd' hj0 hj hks, h''⟩
        conv => lhs; rw [hp]
        simp [opnP, bl_of]
    · refine ⟨[], qs, [], ?_, .nil _ _, h⟩
      rw [rightP_cls hr hk, h1, h2]; simp [clsP]
    · obtain ⟨ks, rest, s, rfl, hks, h'⟩ := chk_doc m qs hm' o st true h
      obtain ⟨hp, hbl, _⟩ := rightP_chars hr hk
      have := hb hk
      subst this
      refine ⟨chars (bl p.text) :: ks, rest, _, ?_, .ch hbl hks, h'⟩
      conv => lhs; rw [hp]
      simp [chars]
theorem doc_head {d : Nat} {b : Bool} {p : Pc} {ks : List Pc} {s : List UInt8} (h : Doc d b (p :: ks) s) : p.kind ≠ 2 := by
  cases h with
  | ch h h1 => simp [chars]
  | emp hz hn hd h1 => simp [opnP]
  | el hz hn hd hj h0 h1 => simp [opnP]
/-! ## The text -/
def nextCls : List Pc → Bool
  | [] => false
  | p :: _ => decide (p.kind = 2)
def emitL (pk : Int) (p : Pc) (rest : List Pc) : List UInt8 :=
  if p.kind = 3 then escL (bl p.text) else if p.kind = 1 then 60 :: (nmL p.space (bl p.name) ++ ((if nextCls rest = true then [47] else []) ++ [62]))
  else if pk ≠ 1 then 60 :: 47 :: (nmL p.space (bl p.name) ++ [62]) else []
def prtL : Int → List Pc → List UInt8
  | _, [] => []
  | pk, p :: rest => emitL pk p rest ++ prtL p.kind rest
theorem doc_text {d : Nat} {b : Bool} {ks : List Pc} {s : List UInt8} (h : Doc d b ks s) : ∀ (pk : Int) (c : Pc) (r : List Pc), c.kind = 2 →
    ∃ pk', prtL pk (ks ++ c :: r) = s ++ prtL pk' (c :: r) ∧ (ks = [] → pk' = pk) ∧ (ks ≠ [] → pk' ≠ 1) := by
  induction h with
  | nil d b => intro pk c r hc; exact ⟨pk, rfl, fun _ => rfl, fun h => absurd rfl h⟩
  | @ch d x ks s hx h1 ih =>
    intro pk c r hc
    obtain ⟨pk', e, e1, e2⟩ := ih 3 c r hc
    refine ⟨pk', ?_, (fun h => by cases h), fun _ => ?_⟩
    · rw [List.cons_append, prtL, show (chars x).kind = 3 from rfl, e]
      simp [emitL, chars, bl_of]
    · by_cases hk : ks = []
      · rw [e1 hk]; decide
      · exact e2 hk
  | @emp d b z n ks s hz hn hd h1 ih =>
    intro pk c r hc
    obtain ⟨pk', e, e1, e2⟩ := ih 2 c r hc
    refine ⟨pk', ?_, (fun h => by cases h), fun _ => ?_⟩
    · rw [List.cons_append, List.cons_append, prtL, prtL, show (clsP z n).kind = 2 from rfl, e]
      simp [emitL, opnP, clsP, bl_of, nextCls]
    · by_cases hk : ks = []
      · rw [e1 hk]; decide
      · exact e2 hk
  | @el d b z n js ks u s hz hn hd hj h0 h1 ih0 ih1 =>
    intro pk c r hc
    obtain ⟨pk1, a, _, a2⟩ := ih0 1 (clsP z n) (ks ++ c :: r) rfl
    obtain ⟨pk', e, e1, e2⟩ := ih1 2 c r hc
    refine ⟨pk', ?_, (fun h => by cases h), fun _ => ?_⟩
    · have hnx : nextCls (js ++ clsP z n :: (ks ++ c :: r)) = false := by
        cases js with
        | nil => exact absurd rfl hj
        | cons p l => simp [nextCls, doc_head h0]
      have hpk := a2 hj
      have ho : emitL pk (opnP z n) (js ++ clsP z n :: (ks ++ c :: r)) = 60 :: (nmL z n ++ [62]) := by
        unfold emitL; rw [hnx]; simp [opnP, bl_of]
      rw [List.cons_append, prtL, List.append_assoc, List.cons_append, show (opnP z n).kind = 1 from rfl, a, prtL, show (clsP z n).kind = 2 from rfl, e, ho]
      simp [emitL, clsP, bl_of, hpk]
    · by_cases hk : ks = []
      · rw [e1 hk]; decide
      · exact e2 hk
/-- The declarations of a document's first tag. -/
def attrsL : List UInt8 := [32, 120, 109, 108, 110, 115, 58, 68, 61, 34, 68, 65, 86, 58, 34, 32, 120, 109, 108, 110, 115, 58, 67, 61, 34, 117, 114, 110, 58, 105, 101, 116, 102, 58, 112, 97, 114, 97, 109, 115, 58, 120, 109, 108, 58, 110, 115, 58, 99, 97, 114, 100, 100, 97, 118, 34]
def printL : List Pc → List UInt8
  | [] => []
  | p :: rest => 60 :: (nmL p.space (bl p.name) ++ (attrsL ++ ((if nextCls rest = true then [47] else []) ++ [62]))) ++ prtL 1 rest
/-- Pieces that are right, from the first on. -/
def chkAll : List Pc → Prop
  | [] => False
  | p :: rest => rightP p ∧ p.kind = 1 ∧ chkP [p] false rest
theorem chk_all {p : Pc} {rest : List Pc} (h : chkAll (p :: rest)) : ∃ js u, p :: rest = opnP p.space (bl p.name) :: (js ++ [clsP p.space (bl p.name)]) ∧ okZ p.space ∧ okN (bl p.name) ∧ Doc 1 false js u ∧
    printL (p :: rest) = 60 :: (nmL p.space (bl p.name) ++ (attrsL ++ (if js = [] then [47, 62] else 62 :: (u ++ 60 :: 47 :: (nmL p.space (bl p.name) ++ [62]))))) := by
  obtain ⟨hr, hk, h⟩ := h
  obtain ⟨hp, hz, hn⟩ := rightP_opn hr hk
  obtain ⟨js, rest', u, rfl, hj, h'⟩ := chk_doc rest.length rest (Nat.le_refl _) p [] false h
  have : rest' = [] := by
    cases rest' with
    | nil => rfl
    | cons q l => obtain ⟨_, _, o, st, e, _⟩ := h'; cases e
  subst this
  refine ⟨js, u, by conv => { lhs; rw [hp] }; simp [opnP, bl_of], hz, hn, hj, ?_⟩
  obtain ⟨pk', e, e1, e2⟩ := doc_text hj 1 (clsP p.space (bl p.name)) [] rfl
  rw [printL, e]
  by_cases hj0 : js = []
  · subst hj0
    have := e1 rfl
    subst this
    cases hj
    simp [nextCls, prtL, emitL, clsP]
  · have hnx : nextCls (js ++ [clsP p.space (bl p.name)]) = false := by
      cases js with
      | nil => exact absurd rfl hj0
      | cons q l => simp [nextCls, doc_head hj]
    have := e2 hj0
    rw [hnx, if_neg hj0]
    simp [prtL, emitL, clsP, bl_of, this]
/-! ## The first tag read -/
theorem okN_xmlns : okN [120, 109, 108, 110, 115] := by refine ⟨by decide, by decide, by decide⟩
theorem decl_one (p v : List UInt8) (hp : okN p) (hv : 34 ∉ v) (hlt : hasLt v = false) (M : List UInt8 → Option Int) (hM : M p = none) (r : List UInt8) :
    declStep ([120, 109, 108, 110, 115] ++ 58 :: (p ++ 61 :: 34 :: (v ++ 34 :: r))) M = some (p, spaceL v, r) := by
  unfold declStep
  rw [written_pre okN_xmlns hp (fun x hx => by simp only [List.head?_cons, Option.some.injEq] at hx; subst hx; decide)]
  simp only [prefL, xmlnsL]
  rw [if_neg (by simp), if_pos trivial]
  simp only [List.drop_succ_cons, List.drop_zero, List.take_succ_cons, List.take_zero, until_one v 34 r hv, hlt, hM]
  simp [List.isPrefixOf, quoteL]
theorem declL_step (k : Nat) (b : UInt8) (s : List UInt8) (hb : isBl b = true) (c : UInt8) (hs : s.head? = some c) (hc : letB c = true) (M : List UInt8 → Option Int) (p : List UInt8) (z : Int) (r : List UInt8) (h : declStep s M = some (p, z, r)) :
    declL (k + 1) (b :: s) M = declL k r (ups M p z) := by
  obtain ⟨a1, a2, a3, a4, a5⟩ := letB_lt hc
  obtain ⟨l, hs⟩ : ∃ l, s = c :: l := by
    cases s with
    | nil => cases hs
    | cons x l => simp only [List.head?_cons, Option.some.injEq] at hs; subst hs; exact ⟨l, rfl⟩
  have e : afterBl (b :: s) = s := by
    unfold afterBl
    rw [List.dropWhile_cons, if_pos hb, hs, List.dropWhile_cons, if_neg (by rw [a5]; decide)]
  have h62 : c ≠ 62 := by rintro rfl; revert hc; decide
  rw [declL, e, if_pos ⟨by simp, by rw [hs]; simp [List.isPrefixOf, a1.symm], by rw [hs]; simp [List.isPrefixOf, h62.symm]⟩, h]
theorem hasLt_dav : hasLt [68, 65, 86, 58] = false := by decide
theorem hasLt_card : hasLt cardL = false := by decide
theorem declL_attrs (k : Nat) {c : UInt8} (hc : endB c) (r : List UInt8) : ∃ M, declL (k + 3) (attrsL ++ c :: r) (fun _ => none) = some (c :: r, M) ∧ okA M := by
  refine ⟨ups (ups (fun _ => none) [68] 1) [67] 2, ?_, by refine ⟨by decide, by decide, by decide⟩⟩
  have h1 := decl_one [68] [68, 65, 86, 58] okN_D (by decide) hasLt_dav (fun _ => none) rfl (32 :: ([120, 109, 108, 110, 115] ++ 58 :: ([67] ++ 61 :: 34 :: (cardL ++ 34 :: c :: r))))
  have h2 := decl_one [67] cardL okN_C (by decide) hasLt_card (ups (fun _ => none) [68] (spaceL [68, 65, 86, 58])) (by decide) (c :: r)
  have e : attrsL ++ c :: r = 32 :: ([120, 109, 108, 110, 115] ++ 58 :: ([68] ++ 61 :: 34 :: ([68, 65, 86, 58] ++ 34 :: 32 :: ([120, 109, 108, 110, 115] ++ 58 :: ([67] ++ 61 :: 34 :: (cardL ++ 34 :: c :: r)))))) := by simp [attrsL, cardL]
  rw [e, declL_step (k + 2) 32 _ (by decide) 120 (by rfl) (by decide) _ _ _ _ h1, declL_step (k + 1) 32 _ (by decide) 120 (by rfl) (by decide) _ _ _ _ h2, declL_end k hc]
  rw [show spaceL [68, 65, 86, 58] = 1 by decide, show spaceL cardL = 2 by decide]
theorem headL_first {z : Int} {n : List UInt8} (hz : okZ z) (hn : okN n) {c : UInt8} (hc : endB c) (r : List UInt8) :
    ∃ A, okA A ∧ headL (fun _ => none) (60 :: (nmL z n ++ (attrsL ++ c :: r))) = some ((pfL z, n, A, z), c :: r) := by
  have hst : stopB (attrsL ++ c :: r) := fun x hx => by simp [attrsL] at hx; subst hx; decide
  have h58 : ∀ x, (attrsL ++ c :: r).head? = some x → x ≠ 58 := fun x hx => by simp [attrsL] at hx; subst hx; decide
  obtain ⟨k, hk⟩ : ∃ k, (attrsL ++ c :: r).length + 1 = k + 3 := ⟨r.length + 1 + 53 + 1, by simp [attrsL]⟩
  obtain ⟨M, hM, hA⟩ := declL_attrs k hc r
  refine ⟨M, hA, ?_⟩
  unfold headL
  rw [if_pos (by simp [List.isPrefixOf])]
  simp only [List.drop_succ_cons, List.drop_zero, written_nm hz hn hst h58, hk, hM, Option.or_none]
  rcases A_pf hA hz with h | ⟨h1, h2, h3⟩
  · rw [h]
  · rw [h1, h2, h3]; simp
theorem misc_no (k : Nat) (s : List UInt8) (h : afterBl s = s) (h1 : remarkL s = some (false, s)) : miscL (k + 1) s = some (some s) := by
  rw [miscL, h, if_neg (by omega), h1]
theorem remark_nil : remarkL [] = some (false, []) := by unfold remarkL; rw [if_neg (by decide)]
/-- A document that is printed is read as its pieces. -/
theorem doc_print (h13 : entL [35, 49, 51] = some (some [13])) {p : Pc} {rest : List Pc} (h : chkAll (p :: rest)) (k : Nat) (hk : (printL (p :: rest)).length ≤ k) : docL k (printL (p :: rest)) = some (some (p :: rest)) := by
  obtain ⟨js, u, e, hz, hn, hj, hp⟩ := chk_all h
  rw [hp] at hk ⊢
  rw [e]
  obtain ⟨c, l, hc, hl⟩ := nm_head hz hn
  obtain ⟨a1, a2, a3, a4, a5⟩ := letB_lt hl
  generalize htl : (attrsL ++ (if js = [] then [47, 62] else 62 :: (u ++ 60 :: 47 :: (nmL p.space (bl p.name) ++ [62])))) = tl at *
  have hm : miscL ((60 :: (nmL p.space (bl p.name) ++ tl)).length + 1) (60 :: (nmL p.space (bl p.name) ++ tl)) = some (some (60 :: (nmL p.space (bl p.name) ++ tl))) :=
    misc_no _ _ (after_nb (by decide)) (nm_tag hz hn tl).2
  have hx : ([60, 63, 120, 109, 108] : List UInt8).isPrefixOf (60 :: (nmL p.space (bl p.name) ++ tl)) = false := by rw [hc]; simp [List.isPrefixOf, a3.symm]
  have he : elemF (bodyL k) 0 (fun _ => none) (60 :: (nmL p.space (bl p.name) ++ tl)) [] [] = some (some ([], opnP p.space (bl p.name) :: (js ++ [clsP p.space (bl p.name)]), [])) := by
    subst htl
    unfold elemF
    rw [if_pos (by decide)]
    by_cases hj0 : js = []
    · subst hj0
      rw [if_pos rfl]
      obtain ⟨A, hA, hh⟩ := headL_first hz hn (c := 47) (.inr rfl) [62]
      rw [hh]
      simp [List.isPrefixOf, flush_nil]
    · rw [if_neg hj0]
      rw [if_neg hj0] at hk
      obtain ⟨A, hA, hh⟩ := headL_first hz hn (c := 62) (.inl rfl) (u ++ 60 :: 47 :: (nmL p.space (bl p.name) ++ [62]))
      rw [hh]
      obtain ⟨k1, ps1, t1, b1, b2, b3⟩ := doc_body h13 hA hj 0 k (pfL p.space) (bl p.name) p.space (60 :: 47 :: (nmL p.space (bl p.name) ++ [62])) [opnP p.space (bl p.name)] [] rfl (by simp) (by simp at hk ⊢; omega)
      obtain ⟨k1, rfl⟩ : ∃ k2, k1 = k2 + 1 := ⟨k1 - 1, by simp at b2; omega⟩
      have hc2 := closeL_plain hz hn [] ps1 t1
      simp only [List.isPrefixOf]
      simp only [List.drop_succ_cons, List.drop_zero, flush_nil, List.nil_append]
      rw [if_neg (by decide), if_pos (by decide), b1, bodyL_end, hc2, b3, flush_nil]
      simp
  unfold docL
  rw [hx]
  simp only [Bool.false_eq_true, if_false, hm, he]
  rw [misc_no _ _ rfl remark_nil]
  simp
end Go.Proofs.YtpaopeiegaijiaaGreatDoor
