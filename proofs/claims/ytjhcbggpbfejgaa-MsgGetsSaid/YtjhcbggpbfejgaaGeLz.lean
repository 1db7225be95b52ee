import Derived.Test.YtjhcbggpbfejgaaMz
import Derived.Test.YtjhcbggpbfejgaaGeSim
import Derived.Test.YtjhcbggpbfejgaaGeBd
namespace Go.Proofs.Ytjhcbggpbfejgaa.XCodecGets
open Go.RowKit Go.Proofs.zjt.zjq Go.Proofs.zjt.zjr Go.Proofs.zjt.zjs
open Go.Proofs.Ytjhcbggpbfejgaa.Cp
open Go.Proofs.Ytjhcbggpbfejgaa.Mz (refLog zhs zeg)
set_option linter.unusedVariables false
set_option linter.unusedSimpArgs false
/-- An entry that is read whole is written as it was. -/
theorem getLog_whole (xs : List Int) (hb : Bs xs) (hl : xs.length ≤ 60000) (h : (getLog xs).2 = 0) : getLog xs = ((logR (xs, 0)).1, 0) ∧ refLog (getLog xs).1 = (xs, true) := by
  unfold getLog at h ⊢
  by_cases c : doneE (logR (xs, 0)).2 = 0
  · rw [if_pos c]
    refine ⟨rfl, ?_⟩
    have h1 := doneE_zero c
    clear h c
    dsimp only
    have e : logR (xs, 0) = if (byteR 3 (numR (xs, 0)).2).1 = 1 then (⟨(numR (xs, 0)).1, (byteR 3 (numR (xs, 0)).2).1, (cmdR (byteR 3 (numR (xs, 0)).2).2).1, []⟩, (cmdR (byteR 3 (numR (xs, 0)).2).2).2)
      else if (byteR 3 (numR (xs, 0)).2).1 = 2 then (⟨(numR (xs, 0)).1, (byteR 3 (numR (xs, 0)).2).1, zeroCmd, (many numR (byteR 3 (numR (xs, 0)).2).2).1⟩, (many numR (byteR 3 (numR (xs, 0)).2).2).2)
      else (⟨(numR (xs, 0)).1, (byteR 3 (numR (xs, 0)).2).1, zeroCmd, []⟩, (byteR 3 (numR (xs, 0)).2).2) := rfl
    have hend : (logR (xs, 0)).2.2 = 0 := by rw [h1]
    have hkeep2 : (byteR 3 (numR (xs, 0)).2).2.2 = 0 := by
      by_cases c : (byteR 3 (numR (xs, 0)).2).2.2 = 0
      · exact c
      · exfalso
        rw [e] at hend
        split at hend
        · exact Inv.cmdR.2.1 _ c hend
        · split at hend
          · exact (Inv.many Inv.numR).2.1 _ c hend
          · exact c hend
    have hn : (numR (xs, 0)).2.2 = 0 := by
      by_cases c : (numR (xs, 0)).2.2 = 0
      · exact c
      · exact absurd hkeep2 (byteR_keep 3 _ c)
    have n2 : (numR (xs, 0)).2 = ((numR (xs, 0)).2.1, 0) := Prod.ext rfl hn
    have hx := Inv.numR.1 xs hb hn
    have hb1 := zcw (xs, 0) hb
    rw [n2] at hkeep2 e
    obtain ⟨x, t, hxt, hx3, hby⟩ := byteR_ok 3 _ hkeep2
    rw [hby] at e
    dsimp only at e
    rw [hxt] at hx hb1
    have hbt : Bs t := fun y hy => hb1 y (List.mem_cons_of_mem _ hy)
    have hx0 := hb1 x (by simp)
    have hz : noneB zeroCmd = true := (zhs zeroCmd zfl.1 (by rw [zfl.2.2]; omega)).2 rfl
    have : x = 0 ∨ x = 1 ∨ x = 2 := by omega
    rcases this with rfl | rfl | rfl
    · rw [if_neg (by omega), if_neg (by omega)] at e
      rw [e] at h1 ⊢
      have ht : t = [] := congrArg Prod.fst h1
      subst ht
      have hr : refLog ⟨(numR (xs, 0)).1, 0, zeroCmd, []⟩ = (be8 (numR (xs, 0)).1 ++ [0], noneB zeroCmd && decide (([] : List Int).length = 0)) := by unfold refLog; rw [if_pos rfl]
      exact hr.trans (by rw [hz]; exact Prod.ext hx.symm rfl)
    · rw [if_pos rfl] at e
      rw [e] at h1 ⊢
      have h2 := Inv.cmdR.1 t hbt (by rw [h1])
      rw [h1, List.append_nil] at h2
      have hr : refLog ⟨(numR (xs, 0)).1, 1, (cmdR (t, 0)).1, []⟩ = (be8 (numR (xs, 0)).1 ++ [1] ++ enc (cmdR (t, 0)).1, decide (([] : List Int).length = 0)) := by
        unfold refLog
        rw [if_neg (show ¬ ((1 : Int) = 0) by decide), if_pos rfl]
      have h3 : be8 (numR (xs, 0)).1 ++ [1] ++ enc (cmdR (t, 0)).1 = be8 (numR (xs, 0)).1 ++ 1 :: enc (cmdR (t, 0)).1 := by rw [List.append_assoc]; rfl
      exact hr.trans (Prod.ext (h3.trans ((congrArg (fun q => be8 (numR (xs, 0)).1 ++ 1 :: q) h2.symm).trans hx.symm)) rfl)
    · rw [if_neg (by omega), if_pos rfl] at e
      rw [e] at h1 ⊢
      have h2 := (Inv.many Inv.numR).1 t hbt (by rw [h1])
      rw [h1, List.append_nil] at h2
      have hr : refLog ⟨(numR (xs, 0)).1, 2, zeroCmd, (many numR (t, 0)).1⟩ = (be8 (numR (xs, 0)).1 ++ [2] ++ be8 ((many numR (t, 0)).1.length : Int) ++ nums8 (many numR (t, 0)).1, noneB zeroCmd) := by
        unfold refLog
        rw [if_neg (show ¬ ((2 : Int) = 0) by decide), if_neg (show ¬ ((2 : Int) = 1) by decide), if_pos rfl]
      have h3 : be8 (numR (xs, 0)).1 ++ [2] ++ be8 ((many numR (t, 0)).1.length : Int) ++ nums8 (many numR (t, 0)).1 = be8 (numR (xs, 0)).1 ++ 2 :: (be8 ((many numR (t, 0)).1.length : Int) ++ (many numR (t, 0)).1.flatMap be8) := by rw [List.append_assoc, List.append_assoc]; rfl
      exact hr.trans (Prod.ext (h3.trans ((congrArg (fun q => be8 (numR (xs, 0)).1 ++ 2 :: q) h2.symm).trans hx.symm)) hz)
  · rw [if_neg c] at h
    exact absurd h c
end Go.Proofs.Ytjhcbggpbfejgaa.XCodecGets
