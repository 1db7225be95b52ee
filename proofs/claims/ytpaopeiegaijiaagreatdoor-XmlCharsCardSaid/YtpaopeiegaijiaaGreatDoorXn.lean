import Derived.Test.YtpaopeiegaijiaaGreatDoorXh
import Derived.Test.YtpaopeiegaijiaaGreatDoorXz
/- Documents as they are printed: what the reader reads them as. Plain lists alone. -/
namespace Go.Proofs.YtpaopeiegaijiaaGreatDoor
open Go.Lib
set_option linter.unusedVariables false
set_option linter.unusedSimpArgs false
def okN (n : List UInt8) : Prop := n ≠ [] ∧ nameN n = n.length ∧ n.length ≤ 64
theorem okN_all {n : List UInt8} (h : okN n) : ∃ c l, n = c :: l ∧ letB c = true ∧ (∀ x ∈ l, nameB x = true) := by
  obtain ⟨h1, h2, _⟩ := h
  cases n with
  | nil => exact absurd rfl h1
  | cons c l =>
    simp only [nameN, List.length_cons] at h2
    split at h2
    · rename_i hc
      have h3 : (l.takeWhile nameB).length = l.length := by omega
      have h4 : l.takeWhile nameB = l := (List.takeWhile_prefix nameB).eq_of_length h3
      exact ⟨c, l, rfl, hc, fun x hx => List.all_eq_true.1 (by rw [← h4]; exact List.all_takeWhile) x hx⟩
    · omega
def stopB (rest : List UInt8) : Prop := ∀ c, rest.head? = some c → nameB c = false
theorem takeWhile_stop {rest : List UInt8} (h : stopB rest) : rest.takeWhile nameB = [] := by
  cases rest with
  | nil => rfl
  | cons c l => rw [List.takeWhile_cons, if_neg (by rw [h c rfl]; decide)]
theorem nameN_put {n rest : List UInt8} (hn : okN n) (hr : stopB rest) : nameN (n ++ rest) = n.length := by
  obtain ⟨c, l, rfl, hc, hl⟩ := okN_all hn
  rw [List.cons_append]
  simp only [nameN, hc, if_true, List.length_cons]
  rw [List.takeWhile_append_of_pos hl, takeWhile_stop hr, List.append_nil]
  omega
theorem leadL_put {n rest : List UInt8} (hn : okN n) (hr : stopB rest) : leadL (n ++ rest) = n.length := by
  unfold leadL capN
  rw [nameN_put hn hr, if_neg (by have := hn.2.2; omega)]
theorem nameL_put {n rest : List UInt8} (hn : okN n) (hr : stopB rest) : nameL (n ++ rest) = some (n, rest) := by
  unfold nameL
  rw [leadL_put hn hr, if_pos (List.length_pos_iff.2 hn.1)]
  simp
theorem pre_false {x : UInt8} {l rest : List UInt8} (h : ∀ c, rest.head? = some c → c ≠ x) : (x :: l).isPrefixOf rest = false := by
  cases rest with
  | nil => rfl
  | cons c r => simp [List.isPrefixOf, (h c rfl).symm]
theorem written_plain {n rest : List UInt8} (hn : okN n) (hr : stopB rest) (h58 : ∀ c, rest.head? = some c → c ≠ 58) : writtenL (n ++ rest) = some (([], n), rest) := by
  unfold writtenL
  rw [nameL_put hn hr]
  simp only
  rw [if_neg (by rw [pre_false h58]; decide)]
theorem stop58 (r : List UInt8) : stopB (58 :: r) := fun c h => by simp only [List.head?_cons, Option.some.injEq] at h; subst h; decide
theorem written_pre {p n rest : List UInt8} (hp : okN p) (hn : okN n) (hr : stopB rest) : writtenL (p ++ 58 :: (n ++ rest)) = some ((p, n), rest) := by
  unfold writtenL
  rw [nameL_put hp (stop58 _)]
  simp only
  rw [if_pos (by simp [List.isPrefixOf])]
  simp only [List.drop_succ_cons, List.drop_zero, nameL_put hn hr]
/-- A name as it is printed, its prefix. -/
def pfL (z : Int) : List UInt8 := if z = 1 then [68] else if z = 2 then [67] else []
def nmL (z : Int) (n : List UInt8) : List UInt8 := (if z = 1 then [68, 58] else if z = 2 then [67, 58] else []) ++ n
def okZ (z : Int) : Prop := z = 0 ∨ z = 1 ∨ z = 2
theorem okN_D : okN [68] := by refine ⟨by decide, by decide, by decide⟩
theorem okN_C : okN [67] := by refine ⟨by decide, by decide, by decide⟩
theorem written_nm {z : Int} {n rest : List UInt8} (hz : okZ z) (hn : okN n) (hr : stopB rest) (h58 : ∀ c, rest.head? = some c → c ≠ 58) : writtenL (nmL z n ++ rest) = some ((pfL z, n), rest) := by
  rcases hz with rfl | rfl | rfl
  · exact written_plain hn hr h58
  · exact written_pre okN_D hn hr
  · exact written_pre okN_C hn hr
theorem letB_lt {c : UInt8} (h : letB c = true) : c ≠ 47 ∧ c ≠ 33 ∧ c ≠ 63 ∧ c ≠ 60 ∧ isBl c = false := by
  refine ⟨?_, ?_, ?_, ?_, ?_⟩
  · rintro rfl; revert h; decide
  · rintro rfl; revert h; decide
  · rintro rfl; revert h; decide
  · rintro rfl; revert h; decide
  · by_cases hb : isBl c = true
    · exfalso
      simp only [isBl, List.contains_cons, List.contains_nil, Bool.or_false, Bool.or_eq_true, beq_iff_eq] at hb
      rcases hb with rfl | rfl | rfl | rfl <;> revert h <;> decide
    · simpa using hb
theorem nm_head {z : Int} {n : List UInt8} (hz : okZ z) (hn : okN n) : ∃ c l, nmL z n = c :: l ∧ letB c = true := by
  obtain ⟨c, l, rfl, hc, _⟩ := okN_all hn
  rcases hz with rfl | rfl | rfl
  · exact ⟨c, l, rfl, hc⟩
  · exact ⟨68, 58 :: c :: l, rfl, by decide⟩
  · exact ⟨67, 58 :: c :: l, rfl, by decide⟩
/-! ## Up to a byte -/
theorem index_one (a : List UInt8) (c : UInt8) (r : List UInt8) (h : c ∉ a) : Lib.index (a ++ c :: r) [c] = (a.length : Int) := by
  induction a with
  | nil => unfold Lib.index; simp [List.isPrefixOf]
  | cons x l ih =>
    have hx : c ≠ x := fun e => h (by rw [e]; exact List.mem_cons_self)
    have hl := ih (fun e => h (List.mem_cons_of_mem _ e))
    rw [List.cons_append]
    unfold Lib.index
    rw [hl]
    have h1 : ([c] : List UInt8).isPrefixOf (x :: (l ++ c :: r)) = false := by simp [List.isPrefixOf, hx]
    rw [h1]
    have h2 : (((l.length : Nat) : Int) == -1) = false := by rw [beq_eq_false_iff_ne]; omega
    simp [h2]
theorem until_one (a : List UInt8) (c : UInt8) (r : List UInt8) (h : c ∉ a) : untilL [c] (a ++ c :: r) = some (a, r) := by
  unfold untilL Lib.cut
  rw [index_one a c r h]
  simp
/-! ## Heads -/
def okA (A : Sps) : Prop := A [68] = some 1 ∧ A [67] = some 2 ∧ A [] = none
theorem A_pf {A : Sps} (hA : okA A) {z : Int} (hz : okZ z) : A (pfL z) = some z ∨ (A (pfL z) = none ∧ pfL z = [] ∧ z = 0) := by
  rcases hz with rfl | rfl | rfl
  · exact .inr ⟨hA.2.2, rfl, rfl⟩
  · exact .inl hA.1
  · exact .inl hA.2.1
def endB (c : UInt8) : Prop := c = 62 ∨ c = 47
theorem endB_stop {c : UInt8} (h : endB c) (r : List UInt8) : stopB (c :: r) := fun x hx => by
  simp only [List.head?_cons, Option.some.injEq] at hx; subst hx
  rcases h with rfl | rfl <;> decide
theorem endB_58 {c : UInt8} (h : endB c) (r : List UInt8) : ∀ x, (c :: r).head? = some x → x ≠ 58 := fun x hx => by
  simp only [List.head?_cons, Option.some.injEq] at hx; subst hx
  rcases h with rfl | rfl <;> decide
theorem after_nb {c : UInt8} {r : List UInt8} (h : isBl c = false) : afterBl (c :: r) = c :: r := by
  unfold afterBl; rw [List.dropWhile_cons, if_neg (by rw [h]; decide)]
theorem declL_end (k : Nat) {c : UInt8} (h : endB c) (r : List UInt8) (M : List UInt8 → Option Int) : declL (k + 1) (c :: r) M = some (c :: r, M) := by
  have hb : isBl c = false := by rcases h with rfl | rfl <;> decide
  rw [declL, after_nb hb, if_neg (by simp)]
theorem headL_plain {A : Sps} (hA : okA A) {z : Int} {n : List UInt8} (hz : okZ z) (hn : okN n) {c : UInt8} (hc : endB c) (r : List UInt8) :
    headL A (60 :: (nmL z n ++ c :: r)) = some ((pfL z, n, A, z), c :: r) := by
  unfold headL
  rw [if_pos (by simp [List.isPrefixOf])]
  simp only [List.drop_succ_cons, List.drop_zero, written_nm hz hn (endB_stop hc r) (endB_58 hc r), declL_end _ hc, Option.none_or]
  rcases A_pf hA hz with h | ⟨h1, h2, h3⟩
  · rw [h]
  · rw [h1, h2, h3]; simp
theorem closeL_plain {z : Int} {n : List UInt8} (hz : okZ z) (hn : okN n) (r : List UInt8) (ps : List Pc) (t : List UInt8) :
    closeL (pfL z) n z (60 :: 47 :: (nmL z n ++ 62 :: r)) ps t = some (r, flushL ps t ++ [clsP z n], []) := by
  unfold closeL
  simp only [List.drop_succ_cons, List.drop_zero, written_nm hz hn (endB_stop (.inl rfl) r) (endB_58 (.inl rfl) r), and_self, if_true]
  rw [after_nb (by decide), if_pos (by simp [List.isPrefixOf])]
  simp
/-! ## Characters -/
theorem ent_amp : entL [97, 109, 112] = some (some [38]) := by decide
theorem ent_lt : entL [108, 116] = some (some [60]) := by decide
theorem ent_gt : entL [103, 116] = some (some [62]) := by decide
theorem bodyL_cons (k deep : Nat) (M : Sps) (pf nm : List UInt8) (z : Int) (c : UInt8) (r : List UInt8) (ps : List Pc) (t : List UInt8) (h : ([60, 47] : List UInt8).isPrefixOf (c :: r) = false) (hr : remarkL (c :: r) = some (false, c :: r)) :
    bodyL (k + 1) deep M pf nm z (c :: r) ps t = if c = 60 then (match elemF (bodyL k) (deep + 1) M (c :: r) ps t with
          | none => none
          | some none => some none
          | some (some (s1, ps1, t1)) => bodyL k deep M pf nm z s1 ps1 t1)
        else if c = 38 then (match untilL [59] r with
          | none => some none
          | some (a, s1) => match entL a with
            | none => none
            | some none => some none
            | some (some x) => bodyL k deep M pf nm z s1 ps (t ++ x))
        else bodyL k deep M pf nm z r ps (t ++ [c]) := by
  show (if ([60, 47] : List UInt8).isPrefixOf (c :: r) = true then some (closeL pf nm z (c :: r) ps t) else _) = _
  rw [if_neg (by rw [h]; decide)]
  show (match remarkL (c :: r) with | none => _ | some (true, s1) => _ | some (false, _) => _) = _
  rw [hr]
  rfl
theorem bodyL_end (k deep : Nat) (M : Sps) (pf nm : List UInt8) (z : Int) (r : List UInt8) (ps : List Pc) (t : List UInt8) : bodyL (k + 1) deep M pf nm z (60 :: 47 :: r) ps t = some (closeL pf nm z (60 :: 47 :: r) ps t) := by
  have h := show ([60, 47] : List UInt8).isPrefixOf (60 :: 47 :: r) = true by simp [List.isPrefixOf]
  simp only [bodyL, h, if_true]
theorem remark_no {c : UInt8} {r : List UInt8} (h : c ≠ 60 ∨ r.head? ≠ some 33) : remarkL (c :: r) = some (false, c :: r) := by
  unfold remarkL
  rw [if_neg]
  rcases h with h | h
  · simp [List.isPrefixOf, h.symm]
  · cases r with
    | nil => simp [List.isPrefixOf]
    | cons d r =>
      have : d ≠ 33 := fun e => h (by rw [e]; rfl)
      simp [List.isPrefixOf, this.symm]
theorem body_amp (k deep : Nat) (A : Sps) (pf nm : List UInt8) (z : Int) (a : List UInt8) (x r : List UInt8) (ps : List Pc) (t : List UInt8) (ha : 59 ∉ a) (he : entL a = some (some x)) :
    bodyL (k + 1) deep A pf nm z (38 :: (a ++ 59 :: r)) ps t = bodyL k deep A pf nm z r ps (t ++ x) := by
  rw [bodyL_cons _ _ _ _ _ _ _ _ _ _ (by simp [List.isPrefixOf]) (remark_no (.inl (by decide)))]
  simp only [until_one a 59 r ha, he]
  simp
theorem body_char (h13 : entL [35, 49, 51] = some (some [13])) (k deep : Nat) (A : Sps) (pf nm : List UInt8) (z : Int) (c : UInt8) (r : List UInt8) (ps : List Pc) (t : List UInt8) :
    bodyL (k + 1) deep A pf nm z (escB c ++ r) ps t = bodyL k deep A pf nm z r ps (t ++ [c]) := by
  unfold escB
  split
  · rename_i h; subst h; exact body_amp k deep A pf nm z [97, 109, 112] [38] r ps t (by decide) ent_amp
  split
  · rename_i h; subst h; exact body_amp k deep A pf nm z [108, 116] [60] r ps t (by decide) ent_lt
  split
  · rename_i h; subst h; exact body_amp k deep A pf nm z [103, 116] [62] r ps t (by decide) ent_gt
  split
  · rename_i h; subst h; exact body_amp k deep A pf nm z [35, 49, 51] [13] r ps t (by decide) h13
  rename_i h1 h2 h3 h4
  rw [List.singleton_append, bodyL_cons _ _ _ _ _ _ _ _ _ _ (by simp [List.isPrefixOf, Ne.symm h2]) (remark_no (.inl h2))]
  simp [h1, h2]
theorem body_text (h13 : entL [35, 49, 51] = some (some [13])) (deep : Nat) (A : Sps) (pf nm : List UInt8) (z : Int) : ∀ (x : List UInt8) (k : Nat) (r : List UInt8) (ps : List Pc) (t : List UInt8),
    bodyL (k + x.length) deep A pf nm z (escL x ++ r) ps t = bodyL k deep A pf nm z r ps (t ++ x)
  | [], k, r, ps, t => by simp [escL]
  | c :: x, k, r, ps, t => by
    have h := body_char h13 (k + x.length) deep A pf nm z c (escL x ++ r) ps t
    rw [List.length_cons, ← Nat.add_assoc, show escL (c :: x) ++ r = escB c ++ (escL x ++ r) by simp [escL], h, body_text h13 deep A pf nm z x k r ps (t ++ [c])]
    simp
/-! ## Pieces that are a document's, and its text -/
inductive Doc : Nat → Bool → List Pc → List UInt8 → Prop
  | nil (d : Nat) (b : Bool) : Doc d b [] []
  | ch {d : Nat} {x : List UInt8} {ks : List Pc} {s : List UInt8} (h : blankL x = false) (h1 : Doc d true ks s) : Doc d false (chars x :: ks) (escL x ++ s)
  | emp {d : Nat} {b : Bool} {z : Int} {n : List UInt8} {ks : List Pc} {s : List UInt8} (hz : okZ z) (hn : okN n) (hd : d < 16) (h1 : Doc d false ks s) : Doc d b (opnP z n :: clsP z n :: ks) (60 :: (nmL z n ++ 47 :: 62 :: s))
  | el {d : Nat} {b : Bool} {z : Int} {n : List UInt8} {js ks : List Pc} {u s : List UInt8} (hz : okZ z) (hn : okN n) (hd : d < 16) (hj : js ≠ []) (h0 : Doc (d + 1) false js u) (h1 : Doc d false ks s) :
      Doc d b (opnP z n :: (js ++ clsP z n :: ks)) (60 :: (nmL z n ++ 62 :: (u ++ 60 :: 47 :: (nmL z n ++ 62 :: s))))
theorem flush_nil (ps : List Pc) : flushL ps [] = ps := by
  unfold flushL; rw [if_pos (by decide)]
theorem flush_txt {x : List UInt8} (ps : List Pc) (h : blankL x = false) : flushL ps x = ps ++ [chars x] := by
  unfold flushL; rw [if_neg (by rw [h]; decide)]
theorem nm_tag {z : Int} {n : List UInt8} (hz : okZ z) (hn : okN n) (r : List UInt8) : ([60, 47] : List UInt8).isPrefixOf (60 :: (nmL z n ++ r)) = false ∧ remarkL (60 :: (nmL z n ++ r)) = some (false, 60 :: (nmL z n ++ r)) := by
  obtain ⟨c, l, hc, hl⟩ := nm_head hz hn
  obtain ⟨a1, a2, a3, a4, a5⟩ := letB_lt hl
  rw [hc]
  refine ⟨by simp [List.isPrefixOf, a1.symm], remark_no (.inr ?_)⟩
  simp [a2]
theorem doc_body (h13 : entL [35, 49, 51] = some (some [13])) {A : Sps} (hA : okA A) {d : Nat} {b : Bool} {ks : List Pc} {s : List UInt8} (h : Doc d b ks s) :
    ∀ (deep k : Nat) (pf nm : List UInt8) (z : Int) (r : List UInt8) (ps : List Pc) (t : List UInt8), d = deep + 1 → (if b = true then blankL t = false else t = []) → s.length + r.length ≤ k →
      ∃ k' ps' t', bodyL k deep A pf nm z (s ++ r) ps t = bodyL k' deep A pf nm z r ps' t' ∧ r.length ≤ k' ∧ flushL ps' t' = flushL ps t ++ ks := by
  induction h with
  | nil d b => intro deep k pf nm z r ps t hd ht hk; exact ⟨k, ps, t, rfl, by simpa using hk, by simp⟩
  | @ch d x ks s hx h1 ih =>
    intro deep k pf nm z r ps t hd ht hk
    rw [if_neg (by decide)] at ht; subst ht
    rw [List.length_append] at hk
    have hl := escL_len x
    obtain ⟨k1, rfl⟩ : ∃ k1, k = k1 + x.length := ⟨k - x.length, by omega⟩
    obtain ⟨k', ps', t', e1, e2, e3⟩ := ih deep k1 pf nm z r ps x hd (by rw [if_pos rfl]; exact hx) (by omega)
    refine ⟨k', ps', t', ?_, e2, ?_⟩
    · rw [List.append_assoc, body_text h13, List.nil_append, e1]
    · rw [e3, flush_txt ps hx, flush_nil]; simp
  | @emp d b z1 n ks s hz hn hd1 h1 ih =>
    intro deep k pf nm z r ps t hd ht hk
    obtain ⟨k, rfl⟩ : ∃ k1, k = k1 + 1 := ⟨k - 1, by simp at hk; omega⟩
    obtain ⟨g1, g2⟩ := nm_tag hz hn (47 :: 62 :: (s ++ r))
    obtain ⟨k', ps', t', e1, e2, e3⟩ := ih deep k pf nm z r (flushL ps t ++ [opnP z1 n] ++ [clsP z1 n]) [] hd (by simp) (by simp at hk; omega)
    refine ⟨k', ps', t', ?_, e2, ?_⟩
    · rw [show 60 :: (nmL z1 n ++ 47 :: 62 :: s) ++ r = 60 :: (nmL z1 n ++ 47 :: 62 :: (s ++ r)) by simp, bodyL_cons _ _ _ _ _ _ _ _ _ _ g1 g2]
      have he : elemF (bodyL k) (deep + 1) A (60 :: (nmL z1 n ++ 47 :: 62 :: (s ++ r))) ps t = some (some (s ++ r, flushL ps t ++ [opnP z1 n] ++ [clsP z1 n], [])) := by
        unfold elemF
        rw [if_pos (by omega), headL_plain hA hz hn (.inr rfl)]
        simp [List.isPrefixOf]
      simp only [if_true, he]
      exact e1
    · rw [e3, flush_nil]; simp
  | @el d b z1 n js ks u s hz hn hd1 hj h0 h1 ih0 ih1 =>
    intro deep k pf nm z r ps t hd ht hk
    obtain ⟨k, rfl⟩ : ∃ k1, k = k1 + 1 := ⟨k - 1, by simp at hk; omega⟩
    obtain ⟨g1, g2⟩ := nm_tag hz hn (62 :: (u ++ 60 :: 47 :: (nmL z1 n ++ 62 :: (s ++ r))))
    obtain ⟨k1, ps1, t1, a1, a2, a3⟩ := ih0 (deep + 1) k (pfL z1) n z1 (60 :: 47 :: (nmL z1 n ++ 62 :: (s ++ r))) (flushL ps t ++ [opnP z1 n]) [] (by omega) (by simp) (by simp at hk ⊢; omega)
    obtain ⟨k1, rfl⟩ : ∃ k2, k1 = k2 + 1 := ⟨k1 - 1, by simp at a2; omega⟩
    obtain ⟨k', ps', t', e1, e2, e3⟩ := ih1 deep k pf nm z r (flushL ps1 t1 ++ [clsP z1 n]) [] hd (by simp) (by simp at hk; omega)
    refine ⟨k', ps', t', ?_, e2, ?_⟩
    · rw [show 60 :: (nmL z1 n ++ 62 :: (u ++ 60 :: 47 :: (nmL z1 n ++ 62 :: s))) ++ r = 60 :: (nmL z1 n ++ 62 :: (u ++ 60 :: 47 :: (nmL z1 n ++ 62 :: (s ++ r)))) by simp, bodyL_cons _ _ _ _ _ _ _ _ _ _ g1 g2]
      have he : elemF (bodyL k) (deep + 1) A (60 :: (nmL z1 n ++ 62 :: (u ++ 60 :: 47 :: (nmL z1 n ++ 62 :: (s ++ r))))) ps t = some (some (s ++ r, flushL ps1 t1 ++ [clsP z1 n], [])) := by
        unfold elemF
        rw [if_pos (by omega), headL_plain hA hz hn (.inl rfl)]
        simp only [List.isPrefixOf]
        simp only [List.drop_succ_cons, List.drop_zero]
        rw [if_neg (by decide), if_pos (by decide), a1, bodyL_end, closeL_plain hz hn]
      simp only [if_true, he]
      exact e1
    · rw [e3, flush_nil, a3, flush_nil]; simp
end Go.Proofs.YtpaopeiegaijiaaGreatDoor
