import Derived.Test.YtpaopeiegaijiaaGreatDoorXo
import Derived.Test.YtpaopeiegaijiaaGreatDoorVe
/- Documents with prefixes of one's own. Plain lists alone. -/
namespace Go.Proofs.YtpaopeiegaijiaaGreatDoor
open Go.Lib
set_option linter.unusedVariables false
set_option linter.unusedSimpArgs false
theorem decl_q (q : UInt8) (hq : q = 34 ∨ q = 39) (p v : List UInt8) (hp : okN p) (hv : q ∉ v) (hlt : hasLt v = false) (M : List UInt8 → Option Int) (hM : M p = none) (r : List UInt8) :
    declStep ([120, 109, 108, 110, 115] ++ 58 :: (p ++ 61 :: q :: (v ++ q :: r))) M = some (p, spaceL v, r) := by
  unfold declStep
  rw [written_pre okN_xmlns hp (fun x hx => by simp only [List.head?_cons, Option.some.injEq] at hx; subst hx; decide)]
  simp only [prefL, xmlnsL]
  rw [if_neg (by simp), if_pos trivial]
  have hquo : quoteL (q :: (v ++ q :: r)) = true := by rcases hq with rfl | rfl <;> rfl
  simp only [List.drop_succ_cons, List.drop_zero, List.take_succ_cons, List.take_zero, until_one v q r hv, hlt, hM, hquo]
  simp [List.isPrefixOf]
theorem decl_own (q : UInt8) (hq : q = 34 ∨ q = 39) (v : List UInt8) (hv : q ∉ v) (hlt : hasLt v = false) (M : List UInt8 → Option Int) (hM : M [] = none) (r : List UInt8) :
    declStep ([120, 109, 108, 110, 115] ++ 61 :: q :: (v ++ q :: r)) M = some ([], spaceL v, r) := by
  unfold declStep
  rw [written_plain okN_xmlns (fun x hx => by simp only [List.head?_cons, Option.some.injEq] at hx; subst hx; decide) (fun x hx => by simp only [List.head?_cons, Option.some.injEq] at hx; subst hx; decide)]
  simp only [prefL, xmlnsL]
  rw [if_pos (by simp)]
  have hquo : quoteL (q :: (v ++ q :: r)) = true := by rcases hq with rfl | rfl <;> rfl
  simp only [List.drop_succ_cons, List.drop_zero, List.take_succ_cons, List.take_zero, until_one v q r hv, hlt, hM, hquo]
  simp [List.isPrefixOf]
theorem head_let {n : List UInt8} (hn : okN n) : ∃ c l, n = c :: l ∧ letB c = true := by
  obtain ⟨c, l, rfl, hc, _⟩ := okN_all hn
  exact ⟨c, l, rfl, hc⟩
theorem tag_no {n r : List UInt8} (hn : okN n) : ([60, 47] : List UInt8).isPrefixOf (60 :: (n ++ r)) = false ∧ remarkL (60 :: (n ++ r)) = some (false, 60 :: (n ++ r)) ∧ ([60, 63, 120, 109, 108] : List UInt8).isPrefixOf (60 :: (n ++ r)) = false := by
  obtain ⟨c, l, rfl, hc⟩ := head_let hn
  obtain ⟨a1, a2, a3, a4, a5⟩ := letB_lt hc
  exact ⟨by simp [List.isPrefixOf, a1.symm], remark_no (.inr (by simp [a2])), by simp [List.isPrefixOf, a3.symm]⟩
theorem stop_of {c : UInt8} (h : nameB c = false) (r : List UInt8) : stopB (c :: r) := fun x hx => by simp only [List.head?_cons, Option.some.injEq] at hx; subst hx; exact h
theorem no58 {c : UInt8} (h : c ≠ 58) (r : List UInt8) : ∀ x, (c :: r).head? = some x → x ≠ 58 := fun x hx => by simp only [List.head?_cons, Option.some.injEq] at hx; subst hx; exact h
/-- A document out of its first element. -/
theorem doc_of {k : Nat} {n r : List UInt8} (hn : okN n) {res : Option (List Pc)} (h : elemF (bodyL k) 0 (fun _ => none) (60 :: (n ++ r)) [] [] = some (res.map fun ps => ([], ps, []))) : docL k (60 :: (n ++ r)) = some res := by
  obtain ⟨g1, g2, g3⟩ := tag_no (r := r) hn
  unfold docL
  rw [g3]
  simp only [Bool.false_eq_true, if_false, misc_no _ _ (after_nb (c := 60) (r := n ++ r) (by decide)) g2, h]
  cases res with
  | none => rfl
  | some ps => simp only [Option.map_some]; rw [misc_no _ _ rfl remark_nil]; simp
def davQ : List UInt8 := [61, 39, 68, 65, 86, 58, 39]
theorem doc_self (k : Nat) (p n : List UInt8) (hp : okN p) (hn : okN n) :
    docL k (60 :: (p ++ 58 :: (n ++ 32 :: ([120, 109, 108, 110, 115] ++ 58 :: (p ++ 61 :: 39 :: ([68, 65, 86, 58] ++ 39 :: [47, 62])))))) = some (some [opnP 1 n, clsP 1 n]) := by
  refine doc_of hp (res := some _) ?_
  have hd := decl_q 39 (.inr rfl) p [68, 65, 86, 58] hp (by decide) (by decide) (fun _ => none) rfl [47, 62]
  obtain ⟨m, hm⟩ : ∃ m, (32 :: ([120, 109, 108, 110, 115] ++ 58 :: (p ++ 61 :: 39 :: ([68, 65, 86, 58] ++ 39 :: [47, 62])))).length + 1 = m + 2 := ⟨_, rfl⟩
  have hD : declL (m + 2) (32 :: ([120, 109, 108, 110, 115] ++ 58 :: (p ++ 61 :: 39 :: ([68, 65, 86, 58] ++ 39 :: [47, 62])))) (fun _ => none) = some ([47, 62], ups (fun _ => none) p 1) := by
    rw [declL_step (m + 1) 32 _ (by decide) 120 (by rfl) (by decide) _ _ _ _ hd, declL_end m (.inr rfl)]
    rw [show spaceL [68, 65, 86, 58] = 1 by decide]
  unfold elemF
  rw [if_pos (by decide)]
  have hh : headL (fun _ => none) (60 :: (p ++ 58 :: (n ++ 32 :: ([120, 109, 108, 110, 115] ++ 58 :: (p ++ 61 :: 39 :: ([68, 65, 86, 58] ++ 39 :: [47, 62])))))) = some ((p, n, ups (fun _ => none) p 1, 1), [47, 62]) := by
    unfold headL
    rw [if_pos (by simp [List.isPrefixOf])]
    simp only [List.drop_succ_cons, List.drop_zero, written_pre hp hn (stop_of (c := 32) (by decide) _), hm, hD, Option.or_none]
    rw [show ups (fun _ => none) p 1 p = some 1 by unfold ups; rw [if_pos rfl]]
  rw [hh]
  simp [List.isPrefixOf, flush_nil]
theorem doc_none (k : Nat) (p n : List UInt8) (hp : okN p) (hn : okN n) : docL k (60 :: (p ++ 58 :: (n ++ [47, 62]))) = some none := by
  refine doc_of hp (res := none) ?_
  unfold elemF
  rw [if_pos (by decide)]
  have hh : headL (fun _ => none) (60 :: (p ++ 58 :: (n ++ [47, 62]))) = none := by
    unfold headL
    rw [if_pos (by simp [List.isPrefixOf])]
    simp only [List.drop_succ_cons, List.drop_zero, written_pre hp hn (stop_of (c := 47) (by decide) _), declL_end _ (c := 47) (.inr rfl), Option.none_or]
    rw [if_neg hp.1]
  rw [hh]
  rfl
theorem doc_around (k : Nat) (p n : List UInt8) (hp : okN p) (hn : okN n) :
    docL (k + 2) (60 :: ([111] ++ 32 :: ([120, 109, 108, 110, 115] ++ 58 :: (p ++ 61 :: 39 :: ([68, 65, 86, 58] ++ 39 :: 32 :: ([120, 109, 108, 110, 115] ++ 61 :: 39 :: ([117, 114, 110, 58, 120] ++ 39 :: 62 :: 60 :: (p ++ 58 :: (n ++ [47, 62, 60, 47, 111, 62]))))))))) = some (some [opnP 3 [111], opnP 1 n, clsP 1 n, clsP 3 [111]]) := by
  have ho : okN [111] := by refine ⟨by decide, by decide, by decide⟩
  refine doc_of ho (res := some _) ?_
  obtain ⟨T, hT⟩ : ∃ T, 60 :: (p ++ 58 :: (n ++ [47, 62, 60, 47, 111, 62])) = T := ⟨_, rfl⟩
  have hd1 := decl_q 39 (.inr rfl) p [68, 65, 86, 58] hp (by decide) (by decide) (fun _ => none) rfl (32 :: ([120, 109, 108, 110, 115] ++ 61 :: 39 :: ([117, 114, 110, 58, 120] ++ 39 :: 62 :: T)))
  have hd2 := decl_own 39 (.inr rfl) [117, 114, 110, 58, 120] (by decide) (by decide) (ups (fun _ => none) p (spaceL [68, 65, 86, 58])) (by unfold ups; rw [if_neg hp.1.symm]) (62 :: T)
  rw [hT]
  obtain ⟨m, hm⟩ : ∃ m, (32 :: ([120, 109, 108, 110, 115] ++ 58 :: (p ++ 61 :: 39 :: ([68, 65, 86, 58] ++ 39 :: 32 :: ([120, 109, 108, 110, 115] ++ 61 :: 39 :: ([117, 114, 110, 58, 120] ++ 39 :: 62 :: T)))))).length + 1 = m + 3 := ⟨_, rfl⟩
  have hD : declL (m + 3) (32 :: ([120, 109, 108, 110, 115] ++ 58 :: (p ++ 61 :: 39 :: ([68, 65, 86, 58] ++ 39 :: 32 :: ([120, 109, 108, 110, 115] ++ 61 :: 39 :: ([117, 114, 110, 58, 120] ++ 39 :: 62 :: T)))))) (fun _ => none) = some (62 :: T, ups (ups (fun _ => none) p 1) [] 3) := by
    rw [declL_step (m + 2) 32 _ (by decide) 120 (by rfl) (by decide) _ _ _ _ hd1, declL_step (m + 1) 32 _ (by decide) 120 (by rfl) (by decide) _ _ _ _ hd2, declL_end m (.inl rfl)]
    rw [show spaceL [68, 65, 86, 58] = 1 by decide, show spaceL [117, 114, 110, 58, 120] = 3 by decide]
  have hh : headL (fun _ => none) (60 :: ([111] ++ 32 :: ([120, 109, 108, 110, 115] ++ 58 :: (p ++ 61 :: 39 :: ([68, 65, 86, 58] ++ 39 :: 32 :: ([120, 109, 108, 110, 115] ++ 61 :: 39 :: ([117, 114, 110, 58, 120] ++ 39 :: 62 :: T))))))) = some (([], [111], ups (ups (fun _ => none) p 1) [] 3, 3), 62 :: T) := by
    unfold headL
    rw [if_pos (by simp [List.isPrefixOf])]
    simp only [List.drop_succ_cons, List.drop_zero, written_plain ho (stop_of (c := 32) (by decide) _) (no58 (c := 32) (by decide) _), hm, hD, Option.or_none]
    rw [show ups (ups (fun _ => none) p 1) [] 3 [] = some 3 by unfold ups; rw [if_pos rfl]]
  unfold elemF
  rw [if_pos (by decide), hh]
  simp only [List.isPrefixOf]
  simp only [List.drop_succ_cons, List.drop_zero, flush_nil, List.nil_append]
  rw [if_neg (by decide), if_pos (by decide), ← hT]
  obtain ⟨g1, g2, _⟩ := tag_no (r := 58 :: (n ++ [47, 62, 60, 47, 111, 62])) hp
  rw [bodyL_cons _ _ _ _ _ _ _ _ _ _ g1 g2]
  have hin : headL (ups (ups (fun _ => none) p 1) [] 3) (60 :: (p ++ 58 :: (n ++ [47, 62, 60, 47, 111, 62]))) = some ((p, n, ups (ups (fun _ => none) p 1) [] 3, 1), [47, 62, 60, 47, 111, 62]) := by
    unfold headL
    rw [if_pos (by simp [List.isPrefixOf])]
    simp only [List.drop_succ_cons, List.drop_zero, written_pre hp hn (stop_of (c := 47) (by decide) _), declL_end _ (c := 47) (.inr rfl), Option.none_or]
    have : ups (ups (fun _ => none) p 1) [] 3 p = some 1 := by unfold ups; rw [if_neg hp.1, if_pos rfl]
    rw [this]
  have he : elemF (bodyL (k + 1)) (0 + 1) (ups (ups (fun _ => none) p 1) [] 3) (60 :: (p ++ 58 :: (n ++ [47, 62, 60, 47, 111, 62]))) [opnP 3 [111]] [] = some (some ([60, 47, 111, 62], [opnP 3 [111], opnP 1 n, clsP 1 n], [])) := by
    unfold elemF
    rw [if_pos (by decide), hin]
    simp [List.isPrefixOf, flush_nil]
  simp only [if_true, he]
  rw [bodyL_end]
  have hcl : closeL [] [111] 3 [60, 47, 111, 62] [opnP 3 [111], opnP 1 n, clsP 1 n] [] = some ([], [opnP 3 [111], opnP 1 n, clsP 1 n] ++ [clsP 3 [111]], []) := by
    unfold closeL
    have hw : writtenL [111, 62] = some (([], [111]), [62]) := by decide
    simp only [List.drop_succ_cons, List.drop_zero, hw, and_self, if_true, flush_nil]
    rw [after_nb (by decide), if_pos (by decide)]
    rfl
  rw [hcl]
  rfl
theorem doc_around' (k : Nat) (hk : 2 ≤ k) (p n : List UInt8) (hp : okN p) (hn : okN n) :
    docL k (60 :: ([111] ++ 32 :: ([120, 109, 108, 110, 115] ++ 58 :: (p ++ 61 :: 39 :: ([68, 65, 86, 58] ++ 39 :: 32 :: ([120, 109, 108, 110, 115] ++ 61 :: 39 :: ([117, 114, 110, 58, 120] ++ 39 :: 62 :: 60 :: (p ++ 58 :: (n ++ [47, 62, 60, 47, 111, 62]))))))))) = some (some [opnP 3 [111], opnP 1 n, clsP 1 n, clsP 3 [111]]) := by
  obtain ⟨m, rfl⟩ : ∃ m, k = m + 2 := ⟨k - 2, by omega⟩
  exact doc_around m p n hp hn
/-- Plain letters are a text. -/
def plainB (c : UInt8) : Bool := decide (32 ≤ c.toNat) && decide (c.toNat < 127)
theorem plain_one (c : UInt8) (h : plainB c = true) : okL [c] = true := by
  have := byte_all (p := fun c => !plainB c || okL [c]) (by decide +kernel) c
  rw [h] at this
  simpa using this
theorem plain_ok : ∀ (l : List UInt8), l.all plainB = true → okL l = true
  | [], _ => rfl
  | c :: l, h => by
    rw [List.all_cons, Bool.and_eq_true] at h
    rw [show c :: l = [c] ++ l from rfl, okL_append 1 [c] l (Nat.le_refl _) (plain_one c h.1)]
    exact plain_ok l h.2
theorem name_plain {n : List UInt8} (hn : okN n) : n.all plainB = true := by
  obtain ⟨c, l, rfl, hc, hl⟩ := okN_all hn
  have hb : ∀ c, nameB c = true → plainB c = true := fun c h => by
    have := byte_all (p := fun c => !nameB c || plainB c) (by decide +kernel) c
    rw [h] at this
    simpa using this
  rw [List.all_cons, Bool.and_eq_true, List.all_eq_true]
  exact ⟨hb c (by unfold nameB; rw [hc]; rfl), fun x hx => hb x (hl x hx)⟩
end Go.Proofs.YtpaopeiegaijiaaGreatDoor
