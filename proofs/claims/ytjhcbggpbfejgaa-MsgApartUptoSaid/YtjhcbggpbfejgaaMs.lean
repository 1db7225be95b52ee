/- Plain functions for messages' bytes: what is read; no program in it. -/
import Derived.Test.YtjhcbggpbfejgaaMr
namespace Go.Proofs.Ytjhcbggpbfejgaa.Ms
open Go.RowKit Go.Proofs.YtjhcbggpbfejgaaW.PrintWords
open Go.Proofs.Ytjhcbggpbfejgaa.Cp
open Go.Proofs.Ytjhcbggpbfejgaa.Mk
open Go.Proofs.Ytjhcbggpbfejgaa.Mq
open Go.Proofs.Ytjhcbggpbfejgaa.Mr (cntR numsR numsR_bs numsR_le)

/-- The bytes of a text. -/
def textR (s : St) : List Int × St := take (raw s).2 (raw s).1
/-- Entries, one behind the other: these, whether one was bad, what is left. -/
def logsGo : Nat → St → List S38 × Bool × St
  | 0, s => ([], false, s)
  | k + 1, s => if (textR s).2.2 = 150 then ([], false, (textR s).2)
    else (ofLog (getLog (textR s).1).1 :: (logsGo k (textR s).2).1, decide ((getLog (textR s).1).2 ≠ 0) || (logsGo k (textR s).2).2.1, (logsGo k (textR s).2).2.2)
/-- Numbers, one behind the other. -/
def nodesGo : Nat → St → List Int × St
  | 0, s => ([], s)
  | k + 1, s => if (numR s).2.2 = 150 then ([], (numR s).2) else ((numR s).1 :: (nodesGo k (numR s).2).1, (nodesGo k (numR s).2).2)

def g1 (xs : List Int) : List Int × St := take (xs, 0) 1
def g2 (xs : List Int) : List Int × St := numsR 5 (g1 xs).2
def g3 (xs : List Int) : List Int × St := take (g2 xs).2 1
def g4 (xs : List Int) : List Int × St := numsR 2 (g3 xs).2
def g5 (xs : List Int) : Int × St := cntR (g4 xs).2
def g6 (xs : List Int) : List S38 × Bool × St := logsGo (g5 xs).1.toNat (g5 xs).2
def g7 (xs : List Int) : List Int × St := numsR 2 (g6 xs).2.2
def g8 (xs : List Int) : Int × St := cntR (g7 xs).2
def g9 (xs : List Int) : List Int × St := nodesGo (g8 xs).1.toNat (g8 xs).2
def g10 (xs : List Int) : List Int × St := textR (g9 xs).2
/-- The fault. -/
def gErr (xs : List Int) : Int :=
  if (g10 xs).2.2 = 150 then 150
  else if 0 < (g10 xs).2.1.length then 151
  else if (g6 xs).2.1 = true ∨ 1 < rd (g3 xs).1 0 ∨ rd (g1 xs).1 0 < 1 ∨ 6 < rd (g1 xs).1 0 then 31 else 0
def gRpc (xs : List Int) : Rpc := ⟨rd (g1 xs).1 0, rd (g2 xs).1 0, rd (g2 xs).1 1, rd (g2 xs).1 2, rd (g2 xs).1 3, rd (g2 xs).1 4, rd (g3 xs).1 0 == 1, rd (g4 xs).1 0, rd (g4 xs).1 1, (g6 xs).1, rd (g7 xs).1 0, rd (g7 xs).1 1, (g9 xs).1, strOfNums (g10 xs).1⟩
def zeroRpc : Rpc := ⟨0, 0, 0, 0, 0, 0, false, 0, 0, [], 0, 0, [], ⟨#[]⟩⟩
/-- A message of bytes; the fault. -/
def getRpc (xs : List Int) : Rpc × Int := if gErr xs = 0 then (gRpc xs, 0) else (zeroRpc, gErr xs)

theorem textR_bs (s : St) (h : Bs s.1) : Bs (textR s).1 ∧ Bs (textR s).2.1 := take_bs _ _ (raw_bs s h)
theorem textR_le (s : St) : (textR s).2.1.length ≤ s.1.length := Nat.le_trans (take_le _ _) (raw_le s)
theorem textR_len (s : St) : (textR s).1.length ≤ s.1.length := by
  have h1 := raw_le s
  unfold textR Cp.take
  split
  · simp
  · simp only [List.length_take]; omega
theorem logsGo_bs (k : Nat) : ∀ s : St, Bs s.1 → Bs (logsGo k s).2.2.1 := by
  induction k with
  | zero => exact fun s h => h
  | succ k ih =>
    intro s h
    rw [logsGo]
    split
    · exact (textR_bs s h).2
    · exact ih _ (textR_bs s h).2
theorem logsGo_le (k : Nat) : ∀ s : St, (logsGo k s).2.2.1.length ≤ s.1.length := by
  induction k with
  | zero => exact fun s => Nat.le_refl _
  | succ k ih =>
    intro s
    rw [logsGo]
    split
    · exact textR_le s
    · exact Nat.le_trans (ih _) (textR_le s)
theorem nodesGo_bs (k : Nat) : ∀ s : St, Bs s.1 → Bs (nodesGo k s).2.1 := by
  induction k with
  | zero => exact fun s h => h
  | succ k ih =>
    intro s h
    rw [nodesGo]
    split
    · exact numR_bs s h
    · exact ih _ (numR_bs s h)
theorem nodesGo_le (k : Nat) : ∀ s : St, (nodesGo k s).2.1.length ≤ s.1.length := by
  induction k with
  | zero => exact fun s => Nat.le_refl _
  | succ k ih =>
    intro s
    rw [nodesGo]
    split
    · exact raw_le s
    · exact Nat.le_trans (ih _) (raw_le s)
theorem cntR_bs (s : St) (h : Bs s.1) : Bs (cntR s).2.1 := counted_bs s h
theorem cntR_le (s : St) : (cntR s).2.1.length ≤ s.1.length := counted_le s
theorem cntR_bd (s : St) (h : Bs s.1) : 0 ≤ (cntR s).1 ∧ (cntR s).1 ≤ s.1.length := by
  have h1 := (raw_bd s h).1
  unfold cntR
  split
  · dsimp only; omega
  · rename_i h2
    exact ⟨h1, counted_n s h2⟩

/-! ### Once too short, always too short -/
theorem take_150 (s : St) (n : Int) (h : s.2 = 150) : (Cp.take s n).2.2 = 150 := by rw [Cp.take, if_pos (.inl h)]
theorem raw_150 (s : St) (h : s.2 = 150) : (raw s).2.2 = 150 := take_150 _ _ h
theorem numsR_150 (k : Nat) : ∀ s : St, s.2 = 150 → (numsR k s).2.2 = 150 := by
  induction k with
  | zero => exact fun s h => h
  | succ k ih => exact fun s h => ih _ (raw_150 s h)
theorem cntR_150 (s : St) (h : s.2 = 150) : (cntR s).2.2 = 150 := by
  show (counted s).2 = 150
  unfold counted
  split
  · rfl
  · exact raw_150 s h
theorem textR_150 (s : St) (h : s.2 = 150) : (textR s).2.2 = 150 := take_150 _ _ (raw_150 s h)
theorem logsGo_150 (k : Nat) (s : St) (h : s.2 = 150) : (logsGo k s).2.2.2 = 150 := by
  cases k with
  | zero => exact h
  | succ k => rw [logsGo, if_pos (textR_150 s h)]; exact textR_150 s h
theorem nodesGo_150 (k : Nat) (s : St) (h : s.2 = 150) : (nodesGo k s).2.2 = 150 := by
  cases k with
  | zero => exact h
  | succ k => rw [nodesGo, if_pos (show (numR s).2.2 = 150 from raw_150 s h)]; exact raw_150 s h
theorem take_one (s : St) (h : (Cp.take s 1).2.2 ≠ 150) : (Cp.take s 1).1.length = 1 := by
  unfold Cp.take at h ⊢
  split
  · rename_i hc; rw [if_pos hc] at h; exact absurd rfl h
  · rename_i hc; simp only [List.length_take]; omega
theorem g_whole (xs : List Int) (h : (g10 xs).2.2 ≠ 150) : (g1 xs).1.length = 1 ∧ (g3 xs).1.length = 1 := by
  have h9 : (g9 xs).2.2 ≠ 150 := fun e => h (textR_150 _ e)
  have h8 : (g8 xs).2.2 ≠ 150 := fun e => h9 (nodesGo_150 _ _ e)
  have h7 : (g7 xs).2.2 ≠ 150 := fun e => h8 (cntR_150 _ e)
  have h6 : (g6 xs).2.2.2 ≠ 150 := fun e => h7 (numsR_150 _ _ e)
  have h5 : (g5 xs).2.2 ≠ 150 := fun e => h6 (logsGo_150 _ _ e)
  have h4 : (g4 xs).2.2 ≠ 150 := fun e => h5 (cntR_150 _ e)
  have h3 : (g3 xs).2.2 ≠ 150 := fun e => h4 (numsR_150 _ _ e)
  have h2 : (g2 xs).2.2 ≠ 150 := fun e => h3 (take_150 _ _ e)
  have h1 : (g1 xs).2.2 ≠ 150 := fun e => h2 (numsR_150 _ _ e)
  exact ⟨take_one _ h1, take_one _ h3⟩
theorem nums5 (s : St) : ∃ a b c d e, (numsR 5 s).1 = [a, b, c, d, e] := ⟨_, _, _, _, _, rfl⟩
theorem nums2 (s : St) : ∃ a b, (numsR 2 s).1 = [a, b] := ⟨_, _, rfl⟩
end Go.Proofs.Ytjhcbggpbfejgaa.Ms
