import Derived.Test.YtpaopeiegaijiaaGreatDoorXo
import Derived.Test.YtpaopeiegaijiaaGreatDoorXp
/- A remark ahead of a tag changes nothing of what is read. Plain lists alone. -/
namespace Go.Proofs.YtpaopeiegaijiaaGreatDoor
open Go.Lib
set_option linter.unusedVariables false
set_option linter.unusedSimpArgs false
/-- No two hyphens together, none at the end. -/
def noDD : List UInt8 → Bool
  | [] => true
  | [c] => c != 45
  | a :: b :: l => !(a == 45 && b == 45) && noDD (b :: l)
theorem index_dd : ∀ (t r : List UInt8), noDD t = true → Lib.index (t ++ 45 :: 45 :: r) [45, 45] = (t.length : Int)
  | [], r, h => by rw [List.nil_append]; unfold Lib.index; simp [List.isPrefixOf]
  | [c], r, h => by
    have hl := index_dd [] r rfl
    have hc : ¬ 45 = c := fun e => by subst e; revert h; decide
    rw [List.nil_append] at hl
    rw [List.singleton_append]
    unfold Lib.index
    rw [hl]
    have h1 : ([45, 45] : List UInt8).isPrefixOf (c :: 45 :: 45 :: r) = false := by simp [List.isPrefixOf, hc]
    rw [h1]
    simp
  | a :: b :: l, r, h => by
    simp only [noDD, Bool.and_eq_true, Bool.not_eq_true'] at h
    have hl := index_dd (b :: l) r h.2
    rw [List.cons_append]
    unfold Lib.index
    rw [hl]
    have h1 : ([45, 45] : List UInt8).isPrefixOf (a :: (b :: l ++ 45 :: 45 :: r)) = false := by
      have h2 := h.1
      simp only [List.cons_append, List.isPrefixOf, Bool.and_true]
      rw [Bool.eq_false_iff] at h2 ⊢
      intro e
      simp only [Bool.and_eq_true, beq_iff_eq] at e
      exact h2 (by simp [e.1.symm, e.2.symm])
    rw [h1]
    have h2 : ((((b :: l).length : Nat) : Int) == -1) = false := by rw [beq_eq_false_iff_ne]; omega
    simp [h2]
    omega
theorem until_dd (t r : List UInt8) (h : noDD t = true) : untilL [45, 45] (t ++ 45 :: 45 :: r) = some (t, r) := by
  unfold untilL Lib.cut
  rw [index_dd t r h]
  simp
/-- A remark, and what follows it. -/
def remR (t r : List UInt8) : List UInt8 := 60 :: 33 :: 45 :: 45 :: (t ++ 45 :: 45 :: 62 :: r)
theorem remark_rem {t : List UInt8} (h : noDD t = true) (r : List UInt8) : remarkL (remR t r) = some (true, r) := by
  unfold remarkL remR
  rw [if_pos (by simp [List.isPrefixOf])]
  simp only [List.drop_succ_cons, List.drop_zero, until_dd t _ h]
  rw [if_pos (by simp [List.isPrefixOf])]
theorem body_rem {t : List UInt8} (h : noDD t = true) (k deep : Nat) (A : Sps) (pf nm : List UInt8) (z : Int) (r : List UInt8) (ps : List Pc) (x : List UInt8) :
    bodyL (k + 1) deep A pf nm z (remR t r) ps x = bodyL k deep A pf nm z r ps x := by
  have hr := remark_rem h r
  have hp : ([60, 47] : List UInt8).isPrefixOf (remR t r) = false := by simp [remR, List.isPrefixOf]
  unfold remR at hr hp ⊢
  simp only [bodyL, hp, Bool.false_eq_true, if_false, hr]
theorem misc_rem {t : List UInt8} (h : noDD t = true) (k : Nat) (r : List UInt8) : miscL (k + 1) (remR t r) = miscL k r := by
  have hr := remark_rem h r
  have ha : afterBl (remR t r) = remR t r := after_nb (by decide)
  rw [miscL, ha, if_neg (by omega), hr]
theorem rem_app (t r s : List UInt8) : remR t r ++ s = remR t (r ++ s) := by simp [remR]
theorem rem_len (t r : List UInt8) : (remR t r).length = t.length + r.length + 7 := by simp [remR]; omega
theorem split60 {s1 s2 a v : List UInt8} (h : s1 ++ s2 = a ++ 60 :: v) (h1 : (60 : UInt8) ∉ s1) : ∃ a', a = s1 ++ a' ∧ s2 = a' ++ 60 :: v := by
  rcases List.append_eq_append_iff.1 h with ⟨c, e1, e2⟩ | ⟨c, e1, e2⟩
  · exact ⟨c, e1, e2⟩
  · cases c with
    | nil => exact ⟨[], by simpa using e1.symm, by simpa using e2.symm⟩
    | cons x c =>
      rw [List.cons_append] at e2
      injection e2 with e2 e3
      subst e2
      exact absurd (by rw [e1]; simp) h1
theorem esc_no60 (x : List UInt8) : (60 : UInt8) ∉ escL x := by
  induction x with
  | nil => simp [escL]
  | cons c l ih =>
    rw [show escL (c :: l) = escB c ++ escL l by simp [escL]]
    intro h
    rcases List.mem_append.1 h with h | h
    · unfold escB at h
      split at h; · revert h; decide
      split at h; · revert h; decide
      split at h; · revert h; decide
      split at h; · revert h; decide
      rename_i h1 h2 h3 h4
      rcases List.mem_singleton.1 h with rfl
      exact h2 rfl
    · exact ih h
theorem nm_no60 {z : Int} {n : List UInt8} (hn : okN n) : (60 : UInt8) ∉ nmL z n := by
  obtain ⟨c, l, rfl, hc, hl⟩ := okN_all hn
  have hb : (60 : UInt8) ∉ c :: l := by
    intro h
    rcases List.mem_cons.1 h with rfl | h
    · revert hc; decide
    · have := hl _ h; revert this; decide
  unfold nmL
  intro h
  rcases List.mem_append.1 h with h | h
  · split at h
    · revert h; decide
    · split at h
      · revert h; decide
      · cases h
  · exact hb h
theorem emp_go {A : Sps} (hA : okA A) {z1 : Int} {n : List UInt8} (hz : okZ z1) (hn : okN n) {deep : Nat} (hd : deep + 1 < 16) (k : Nat) (pf nm : List UInt8) (z : Int) (S : List UInt8) (ps : List Pc) (t : List UInt8) :
    bodyL (k + 1) deep A pf nm z (60 :: (nmL z1 n ++ 47 :: 62 :: S)) ps t = bodyL k deep A pf nm z S (flushL ps t ++ [opnP z1 n] ++ [clsP z1 n]) [] := by
  obtain ⟨g1, g2⟩ := nm_tag hz hn (47 :: 62 :: S)
  rw [bodyL_cons _ _ _ _ _ _ _ _ _ _ g1 g2]
  have he : elemF (bodyL k) (deep + 1) A (60 :: (nmL z1 n ++ 47 :: 62 :: S)) ps t = some (some (S, flushL ps t ++ [opnP z1 n] ++ [clsP z1 n], [])) := by
    unfold elemF
    rw [if_pos hd, headL_plain hA hz hn (.inr rfl)]
    simp [List.isPrefixOf]
  simp only [if_true, he]
theorem el_go {A : Sps} (hA : okA A) {z1 : Int} {n : List UInt8} (hz : okZ z1) (hn : okN n) {deep : Nat} (hd : deep + 1 < 16) {k : Nat} (pf nm : List UInt8) (z : Int) {U S : List UInt8} {ps P : List Pc} {t : List UInt8}
    (hin : bodyL k (deep + 1) A (pfL z1) n z1 U (flushL ps t ++ [opnP z1 n]) [] = some (some (S, P, []))) :
    bodyL (k + 1) deep A pf nm z (60 :: (nmL z1 n ++ 62 :: U)) ps t = bodyL k deep A pf nm z S P [] := by
  obtain ⟨g1, g2⟩ := nm_tag hz hn (62 :: U)
  rw [bodyL_cons _ _ _ _ _ _ _ _ _ _ g1 g2]
  have he : elemF (bodyL k) (deep + 1) A (60 :: (nmL z1 n ++ 62 :: U)) ps t = some (some (S, P, [])) := by
    unfold elemF
    rw [if_pos hd, headL_plain hA hz hn (.inl rfl)]
    simp only [List.isPrefixOf]
    simp only [List.drop_succ_cons, List.drop_zero]
    rw [if_neg (by decide), if_pos (by decide), hin]
  simp only [if_true, he]
/-- An element's content read, and its end. -/
theorem in_end {A : Sps} {z1 : Int} {n : List UInt8} (hz : okZ z1) (hn : okN n) {k k1 deep : Nat} {U S : List UInt8} {ps0 ps1 : List Pc} {t1 : List UInt8}
    (h : bodyL k deep A (pfL z1) n z1 U ps0 [] = bodyL (k1 + 1) deep A (pfL z1) n z1 (60 :: 47 :: (nmL z1 n ++ 62 :: S)) ps1 t1) :
    bodyL k deep A (pfL z1) n z1 U ps0 [] = some (some (S, flushL ps1 t1 ++ [clsP z1 n], [])) := by
  rw [h, bodyL_end, closeL_plain hz hn]
theorem doc_ins (h13 : entL [35, 49, 51] = some (some [13])) {A : Sps} (hA : okA A) {x : List UInt8} (hx : noDD x = true) {d : Nat} {b : Bool} {ks : List Pc} {s : List UInt8} (h : Doc d b ks s) :
    ∀ (a v : List UInt8), s = a ++ 60 :: v → ∀ (deep k : Nat) (pf nm : List UInt8) (z : Int) (r : List UInt8) (ps : List Pc) (t : List UInt8), d = deep + 1 → (if b = true then blankL t = false else t = []) → s.length + (x.length + 7) + r.length ≤ k →
      ∃ k' ps' t', bodyL k deep A pf nm z (a ++ remR x (60 :: (v ++ r))) ps t = bodyL k' deep A pf nm z r ps' t' ∧ r.length ≤ k' ∧ flushL ps' t' = flushL ps t ++ ks := by
  induction h with
  | nil d b => intro a v e; exact absurd e (by simp)
  | @ch d y ks s hy h1 ih =>
    intro a v e deep k pf nm z r ps t hd ht hk
    obtain ⟨a', rfl, e2⟩ := split60 e (esc_no60 y)
    rw [if_neg (by decide)] at ht; subst ht
    rw [List.length_append] at hk
    have hl := escL_len y
    obtain ⟨k1, rfl⟩ : ∃ k1, k = k1 + y.length := ⟨k - y.length, by omega⟩
    obtain ⟨k', ps', t', e1, e3, e4⟩ := ih a' v e2 deep k1 pf nm z r ps y hd (by rw [if_pos rfl]; exact hy) (by omega)
    refine ⟨k', ps', t', ?_, e3, ?_⟩
    · rw [List.append_assoc, body_text h13, List.nil_append, e1]
    · rw [e4, flush_txt ps hy, flush_nil]; simp
  | @emp d b z1 n ks s hz hn hd1 h1 ih =>
    intro a v e deep k pf nm z r ps t hd ht hk
    obtain ⟨k, rfl⟩ : ∃ k1, k = k1 + 1 := ⟨k - 1, by simp at hk; omega⟩
    cases a with
    | nil =>
      have hb := doc_body h13 hA (.emp hz hn hd1 h1 : Doc d b _ _) deep k pf nm z r ps t hd ht (by simp only [List.length_cons, List.length_append] at hk ⊢; omega)
      rw [e] at hb
      obtain ⟨k', ps', t', e1, e3, e4⟩ := hb
      refine ⟨k', ps', t', ?_, e3, e4⟩
      rw [List.nil_append, body_rem hx]
      exact e1
    | cons c a =>
      rw [List.cons_append] at e
      injection e with ec e
      subst ec
      rw [show nmL z1 n ++ 47 :: 62 :: s = (nmL z1 n ++ [47, 62]) ++ s by simp] at e
      obtain ⟨a', rfl, e2⟩ := split60 e (fun hh => by rcases List.mem_append.1 hh with hh | hh; exact nm_no60 hn hh; revert hh; decide)
      obtain ⟨k', ps', t', e1, e3, e4⟩ := ih a' v e2 deep k pf nm z r (flushL ps t ++ [opnP z1 n] ++ [clsP z1 n]) [] hd (by simp) (by simp only [List.length_cons, List.length_append] at hk ⊢; omega)
      refine ⟨k', ps', t', ?_, e3, ?_⟩
      · rw [show 60 :: (nmL z1 n ++ [47, 62] ++ a') ++ remR x (60 :: (v ++ r)) = 60 :: (nmL z1 n ++ 47 :: 62 :: (a' ++ remR x (60 :: (v ++ r)))) by simp, emp_go hA hz hn (by omega), e1]
      · rw [e4, flush_nil]; simp
  | @el d b z1 n js ks u s hz hn hd1 hj h0 h1 ih0 ih1 =>
    intro a v e deep k pf nm z r ps t hd ht hk
    obtain ⟨k, rfl⟩ : ∃ k1, k = k1 + 1 := ⟨k - 1, by simp at hk; omega⟩
    cases a with
    | nil =>
      have hb := doc_body h13 hA (.el hz hn hd1 hj h0 h1 : Doc d b _ _) deep k pf nm z r ps t hd ht (by simp only [List.length_cons, List.length_append] at hk ⊢; omega)
      rw [e] at hb
      obtain ⟨k', ps', t', e1, e3, e4⟩ := hb
      refine ⟨k', ps', t', ?_, e3, e4⟩
      rw [List.nil_append, body_rem hx]
      exact e1
    | cons c a =>
      rw [List.cons_append] at e
      injection e with ec e
      subst ec
      simp only [List.length_cons, List.length_append] at hk
      rw [show nmL z1 n ++ 62 :: (u ++ 60 :: 47 :: (nmL z1 n ++ 62 :: s)) = (nmL z1 n ++ [62]) ++ (u ++ 60 :: 47 :: (nmL z1 n ++ 62 :: s)) by simp] at e
      obtain ⟨a2, rfl, e2⟩ := split60 e (fun hh => by rcases List.mem_append.1 hh with hh | hh; exact nm_no60 hn hh; revert hh; decide)
      have hsh : 60 :: (nmL z1 n ++ [62] ++ a2) ++ remR x (60 :: (v ++ r)) = 60 :: (nmL z1 n ++ 62 :: (a2 ++ remR x (60 :: (v ++ r)))) := by simp
      rw [hsh]
      have fin : ∀ {ps' t' ps1 t1}, flushL ps1 t1 = flushL (flushL ps t ++ [opnP z1 n]) [] ++ js → flushL ps' t' = flushL (flushL ps1 t1 ++ [clsP z1 n]) [] ++ ks → flushL ps' t' = flushL ps t ++ (opnP z1 n :: (js ++ clsP z1 n :: ks)) := by
        intro ps' t' ps1 t1 f1 f2
        rw [f2, flush_nil, f1, flush_nil]; simp
      have inner : ∀ {v' : List UInt8}, u = a2 ++ 60 :: v' → v = v' ++ 60 :: 47 :: (nmL z1 n ++ 62 :: s) → ∃ k' ps' t', bodyL (k + 1) deep A pf nm z (60 :: (nmL z1 n ++ 62 :: (a2 ++ remR x (60 :: (v ++ r))))) ps t = bodyL k' deep A pf nm z r ps' t' ∧ r.length ≤ k' ∧ flushL ps' t' = flushL ps t ++ (opnP z1 n :: (js ++ clsP z1 n :: ks)) := by
        intro v' eu ev
        obtain ⟨k1, ps1, t1, a1, b1, c1⟩ := ih0 a2 v' eu (deep + 1) k (pfL z1) n z1 (60 :: 47 :: (nmL z1 n ++ 62 :: (s ++ r))) (flushL ps t ++ [opnP z1 n]) [] (by omega) (by simp) (by simp only [List.length_cons, List.length_append]; omega)
        obtain ⟨k1, rfl⟩ : ∃ k2, k1 = k2 + 1 := ⟨k1 - 1, by simp at b1; omega⟩
        obtain ⟨k', ps', t', e1, e3, e4⟩ := doc_body h13 hA h1 deep k pf nm z r (flushL ps1 t1 ++ [clsP z1 n]) [] hd (by simp) (by omega)
        refine ⟨k', ps', t', ?_, e3, fin c1 e4⟩
        rw [el_go hA hz hn (by omega) pf nm z (in_end hz hn (by rw [← a1, ev]; simp)), e1]
      rcases List.append_eq_append_iff.1 e2 with ⟨c, f1, f2⟩ | ⟨c, f1, f2⟩
      · cases c with
        | nil =>
          rw [List.append_nil] at f1
          subst f1
          rw [List.nil_append] at f2
          injection f2 with _ f2
          subst f2
          obtain ⟨k1, ps1, t1, a1, b1, c1⟩ := doc_body h13 hA h0 (deep + 1) k (pfL z1) n z1 (remR x (60 :: 47 :: (nmL z1 n ++ 62 :: (s ++ r)))) (flushL ps t ++ [opnP z1 n]) [] (by omega) (by simp) (by rw [rem_len]; simp only [List.length_cons, List.length_append]; omega)
          rw [rem_len] at b1
          simp only [List.length_cons, List.length_append] at b1
          obtain ⟨k1, rfl⟩ : ∃ k2, k1 = k2 + 1 + 1 := ⟨k1 - 2, by omega⟩
          rw [body_rem hx] at a1
          obtain ⟨k', ps', t', e1, e3, e4⟩ := doc_body h13 hA h1 deep k pf nm z r (flushL ps1 t1 ++ [clsP z1 n]) [] hd (by simp) (by omega)
          refine ⟨k', ps', t', ?_, e3, fin c1 e4⟩
          rw [el_go hA hz hn (by omega) pf nm z (in_end hz hn (by rw [← a1]; simp)), e1]
        | cons c0 c =>
          rw [List.cons_append] at f2
          injection f2 with f0 f2
          subst f0
          rw [show 47 :: (nmL z1 n ++ 62 :: s) = (47 :: (nmL z1 n ++ [62])) ++ s by simp] at f2
          obtain ⟨a', rfl, e5⟩ := split60 f2 (fun hh => by
            rcases List.mem_cons.1 hh with hh | hh
            · revert hh; decide
            · rcases List.mem_append.1 hh with hh | hh
              · exact nm_no60 hn hh
              · revert hh; decide)
          subst f1
          obtain ⟨k1, ps1, t1, a1, b1, c1⟩ := doc_body h13 hA h0 (deep + 1) k (pfL z1) n z1 (60 :: 47 :: (nmL z1 n ++ 62 :: (a' ++ remR x (60 :: (v ++ r))))) (flushL ps t ++ [opnP z1 n]) [] (by omega) (by simp) (by
            rw [e5] at hk
            simp only [List.length_cons, List.length_append, rem_len] at hk ⊢; omega)
          obtain ⟨k1, rfl⟩ : ∃ k2, k1 = k2 + 1 := ⟨k1 - 1, by simp at b1; omega⟩
          obtain ⟨k', ps', t', e1, e3, e4⟩ := ih1 a' v e5 deep k pf nm z r (flushL ps1 t1 ++ [clsP z1 n]) [] hd (by simp) (by omega)
          refine ⟨k', ps', t', ?_, e3, fin c1 e4⟩
          rw [el_go hA hz hn (by omega) pf nm z (in_end hz hn (by rw [← a1]; simp)), e1]
      · cases c with
        | nil =>
          rw [List.append_nil] at f1
          subst f1
          rw [List.nil_append] at f2
          injection f2 with _ f2
          subst f2
          obtain ⟨k1, ps1, t1, a1, b1, c1⟩ := doc_body h13 hA h0 (deep + 1) k (pfL z1) n z1 (remR x (60 :: 47 :: (nmL z1 n ++ 62 :: (s ++ r)))) (flushL ps t ++ [opnP z1 n]) [] (by omega) (by simp) (by rw [rem_len]; simp only [List.length_cons, List.length_append]; omega)
          rw [rem_len] at b1
          simp only [List.length_cons, List.length_append] at b1
          obtain ⟨k1, rfl⟩ : ∃ k2, k1 = k2 + 1 + 1 := ⟨k1 - 2, by omega⟩
          rw [body_rem hx] at a1
          obtain ⟨k', ps', t', e1, e3, e4⟩ := doc_body h13 hA h1 deep k pf nm z r (flushL ps1 t1 ++ [clsP z1 n]) [] hd (by simp) (by omega)
          refine ⟨k', ps', t', ?_, e3, fin c1 e4⟩
          rw [el_go hA hz hn (by omega) pf nm z (in_end hz hn (by rw [← a1]; simp)), e1]
        | cons c0 c =>
          rw [List.cons_append] at f2
          injection f2 with f0 f2
          subst f0
          exact inner f1 f2
theorem root_el {z : Int} {n : List UInt8} (hz : okZ z) (hn : okN n) {k : Nat} {U S : List UInt8} {P : List Pc} (h : ∀ A : Sps, okA A → bodyL k 0 A (pfL z) n z U [opnP z n] [] = some (some (S, P, []))) :
    elemF (bodyL k) 0 (fun _ => none) (60 :: (nmL z n ++ (attrsL ++ 62 :: U))) [] [] = some (some (S, P, [])) := by
  obtain ⟨A, hA, hh⟩ := headL_first hz hn (c := 62) (.inl rfl) U
  unfold elemF
  rw [if_pos (by decide), hh]
  simp only [List.isPrefixOf]
  simp only [List.drop_succ_cons, List.drop_zero, flush_nil, List.nil_append]
  rw [if_neg (by decide), if_pos (by decide), h A hA]
theorem root_emp {z : Int} {n : List UInt8} (hz : okZ z) (hn : okN n) (k : Nat) (S : List UInt8) :
    elemF (bodyL k) 0 (fun _ => none) (60 :: (nmL z n ++ (attrsL ++ 47 :: 62 :: S))) [] [] = some (some (S, [opnP z n, clsP z n], [])) := by
  obtain ⟨A, hA, hh⟩ := headL_first hz hn (c := 47) (.inr rfl) (62 :: S)
  unfold elemF
  rw [if_pos (by decide), hh]
  simp [List.isPrefixOf, flush_nil]
theorem doc_root {z : Int} {n : List UInt8} (hz : okZ z) (hn : okN n) {k : Nat} {tl S t : List UInt8} {P : List Pc} (he : elemF (bodyL k) 0 (fun _ => none) (60 :: (nmL z n ++ tl)) [] [] = some (some (S, P, t))) (hm : miscL (S.length + 1) S = some (some [])) :
    docL k (60 :: (nmL z n ++ tl)) = some (some P) := by
  obtain ⟨c, l, hc, hl⟩ := nm_head hz hn
  obtain ⟨a1, a2, a3, a4, a5⟩ := letB_lt hl
  have hm0 : miscL ((60 :: (nmL z n ++ tl)).length + 1) (60 :: (nmL z n ++ tl)) = some (some (60 :: (nmL z n ++ tl))) :=
    misc_no _ _ (after_nb (by decide)) (nm_tag hz hn tl).2
  have hx : ([60, 63, 120, 109, 108] : List UInt8).isPrefixOf (60 :: (nmL z n ++ tl)) = false := by rw [hc]; simp [List.isPrefixOf, a3.symm]
  unfold docL
  rw [hx]
  simp only [Bool.false_eq_true, if_false, hm0, he, hm, if_true]
theorem doc_rem {x : List UInt8} (hxd : noDD x = true) {z : Int} {n : List UInt8} (hz : okZ z) (hn : okN n) {k : Nat} {tl S t : List UInt8} {P : List Pc} (he : elemF (bodyL k) 0 (fun _ => none) (60 :: (nmL z n ++ tl)) [] [] = some (some (S, P, t))) (hm : miscL (S.length + 1) S = some (some [])) :
    docL k (remR x (60 :: (nmL z n ++ tl))) = some (some P) := by
  have hm0 : miscL ((remR x (60 :: (nmL z n ++ tl))).length + 1) (remR x (60 :: (nmL z n ++ tl))) = some (some (60 :: (nmL z n ++ tl))) := by
    rw [misc_rem hxd, rem_len, show x.length + (60 :: (nmL z n ++ tl)).length + 7 = (x.length + (60 :: (nmL z n ++ tl)).length + 6) + 1 by omega]
    exact misc_no _ _ (after_nb (by decide)) (nm_tag hz hn tl).2
  have hx : ([60, 63, 120, 109, 108] : List UInt8).isPrefixOf (remR x (60 :: (nmL z n ++ tl))) = false := by simp [remR, List.isPrefixOf]
  unfold docL
  rw [hx]
  simp only [Bool.false_eq_true, if_false, hm0, he, hm, if_true]
theorem misc_end : miscL ([] : List UInt8).length.succ [] = some (some []) := misc_no _ _ rfl remark_nil
theorem misc_rem_end {x : List UInt8} (hxd : noDD x = true) : miscL ((remR x []).length + 1) (remR x []) = some (some []) := by
  rw [misc_rem hxd, rem_len]
  exact misc_no _ _ rfl remark_nil
/-- A document that is printed, with a remark ahead of one of its tags or at its end, is read as its pieces. -/
theorem rem_print (h13 : entL [35, 49, 51] = some (some [13])) {p : Pc} {rest : List Pc} (h : chkAll (p :: rest)) {x : List UInt8} (hx : noDD x = true) (a v : List UInt8) (hs : printL (p :: rest) = a ++ v) (hv : v = [] ∨ ∃ v', v = 60 :: v')
    (k : Nat) (hk : (printL (p :: rest)).length + x.length + 7 ≤ k) : docL k (a ++ remR x v) = some (some (p :: rest)) := by
  obtain ⟨js, u, e, hz, hn, hj, hp⟩ := chk_all h
  rw [hp] at hk hs
  rw [e]
  generalize hzz : p.space = z at *
  generalize hnn : bl p.name = n at *
  have body1 : ∀ (r : List UInt8), js ≠ [] → u.length + n.length + r.length + 20 ≤ k → ∀ A : Sps, okA A → bodyL k 0 A (pfL z) n z (u ++ 60 :: 47 :: (nmL z n ++ 62 :: r)) [opnP z n] [] = some (some (r, opnP z n :: (js ++ [clsP z n]), [])) := by
    intro r hj0 hk A hA
    have hnl : (nmL z n).length ≤ n.length + 2 := by unfold nmL; split <;> (try split) <;> simp <;> omega
    obtain ⟨k1, ps1, t1, b1, b2, b3⟩ := doc_body h13 hA hj 0 k (pfL z) n z (60 :: 47 :: (nmL z n ++ 62 :: r)) [opnP z n] [] rfl (by simp) (by simp only [List.length_cons, List.length_append]; omega)
    obtain ⟨k1, rfl⟩ : ∃ k2, k1 = k2 + 1 := ⟨k1 - 1, by simp at b2; omega⟩
    rw [in_end hz hn b1, b3, flush_nil]; simp
  by_cases hj0 : js = []
  · subst hj0
    rw [if_pos rfl] at hs
    rcases hv with rfl | ⟨v', rfl⟩
    · rw [List.append_nil] at hs
      subst hs
      rw [show 60 :: (nmL z n ++ (attrsL ++ [47, 62])) ++ remR x [] = 60 :: (nmL z n ++ (attrsL ++ 47 :: 62 :: remR x [])) by simp]
      exact doc_root hz hn (root_emp hz hn k _) (misc_rem_end hx)
    · cases a with
      | nil =>
        rw [List.nil_append] at hs ⊢
        rw [← hs]
        exact doc_rem hx hz hn (root_emp hz hn k []) misc_end
      | cons c a =>
        rw [List.cons_append] at hs
        injection hs with _ hs
        exfalso
        have h60 : (60 : UInt8) ∈ nmL z n ++ (attrsL ++ [47, 62]) := by rw [hs]; simp
        rcases List.mem_append.1 h60 with hh | hh
        · exact nm_no60 hn hh
        · revert hh; decide
  · rw [if_neg hj0] at hs hk
    simp only [List.length_cons, List.length_append] at hk
    have hnl : n.length ≤ (nmL z n).length := by unfold nmL; rw [List.length_append]; omega
    have hal : 20 ≤ attrsL.length := by decide
    rcases hv with rfl | ⟨v', rfl⟩
    · rw [List.append_nil] at hs
      subst hs
      rw [show 60 :: (nmL z n ++ (attrsL ++ 62 :: (u ++ 60 :: 47 :: (nmL z n ++ [62])))) ++ remR x [] = 60 :: (nmL z n ++ (attrsL ++ 62 :: (u ++ 60 :: 47 :: (nmL z n ++ 62 :: remR x [])))) by simp]
      exact doc_root hz hn (root_el hz hn (body1 (remR x []) hj0 (by rw [rem_len]; simp; omega))) (misc_rem_end hx)
    · cases a with
      | nil =>
        rw [List.nil_append] at hs ⊢
        rw [← hs]
        exact doc_rem hx hz hn (root_el hz hn (body1 [] hj0 (by simp; omega))) misc_end
      | cons c a =>
        rw [List.cons_append] at hs
        injection hs with hc hs
        subst hc
        rw [show nmL z n ++ (attrsL ++ 62 :: (u ++ 60 :: 47 :: (nmL z n ++ [62]))) = (nmL z n ++ (attrsL ++ [62])) ++ (u ++ 60 :: 47 :: (nmL z n ++ [62])) by simp] at hs
        obtain ⟨a2, rfl, e2⟩ := split60 hs (fun hh => by
          rcases List.mem_append.1 hh with hh | hh
          · exact nm_no60 hn hh
          · revert hh; decide)
        rw [show 60 :: (nmL z n ++ (attrsL ++ [62]) ++ a2) ++ remR x (60 :: v') = 60 :: (nmL z n ++ (attrsL ++ 62 :: (a2 ++ remR x (60 :: v')))) by simp]
        have atEnd : a2 = u → v' = 47 :: (nmL z n ++ [62]) → docL k (60 :: (nmL z n ++ (attrsL ++ 62 :: (a2 ++ remR x (60 :: v'))))) = some (some (opnP z n :: (js ++ [clsP z n]))) := by
          intro f1 f2
          subst f1 f2
          refine doc_root hz hn (root_el hz hn (S := []) fun A hA => ?_) misc_end
          obtain ⟨k1, ps1, t1, b1, b2, b3⟩ := doc_body h13 hA hj 0 k (pfL z) n z (remR x (60 :: 47 :: (nmL z n ++ [62]))) [opnP z n] [] rfl (by simp) (by rw [rem_len]; simp only [List.length_cons, List.length_append, List.length_nil] at hk ⊢; omega)
          rw [rem_len] at b2
          simp only [List.length_cons, List.length_append] at b2
          obtain ⟨k1, rfl⟩ : ∃ k2, k1 = k2 + 1 + 1 := ⟨k1 - 2, by omega⟩
          rw [body_rem hx] at b1
          rw [in_end hz hn b1, b3, flush_nil]; simp
        rcases List.append_eq_append_iff.1 e2 with ⟨c, f1, f2⟩ | ⟨c, f1, f2⟩
        · cases c with
          | nil =>
            rw [List.nil_append] at f2
            injection f2 with _ f2
            exact atEnd (by simpa using f1) f2.symm
          | cons c0 c =>
            rw [List.cons_append] at f2
            injection f2 with _ f2
            exfalso
            have h60 : (60 : UInt8) ∈ 47 :: (nmL z n ++ [62]) := by rw [f2]; simp
            rcases List.mem_cons.1 h60 with hh | hh
            · revert hh; decide
            · rcases List.mem_append.1 hh with hh | hh
              · exact nm_no60 hn hh
              · revert hh; decide
        · cases c with
          | nil =>
            rw [List.nil_append] at f2
            injection f2 with _ f2
            exact atEnd (by simpa using f1.symm) f2
          | cons c0 c =>
            rw [List.cons_append] at f2
            injection f2 with f0 f2
            subst f0
            refine doc_root hz hn (root_el hz hn (S := []) fun A hA => ?_) misc_end
            obtain ⟨k1, ps1, t1, b1, b2, b3⟩ := doc_ins h13 hA hx hj a2 c f1 0 k (pfL z) n z (60 :: 47 :: (nmL z n ++ [62])) [opnP z n] [] rfl (by simp) (by simp only [List.length_cons, List.length_append, List.length_nil] at hk ⊢; omega)
            rw [← f2] at b1
            obtain ⟨k1, rfl⟩ : ∃ k2, k1 = k2 + 1 := ⟨k1 - 1, by simp at b2; omega⟩
            rw [in_end hz hn b1, b3, flush_nil]; simp
end Go.Proofs.YtpaopeiegaijiaaGreatDoor
