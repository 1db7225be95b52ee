/- Plain functions for messages' bytes: what is read; no program in it. -/
import Derived.Test.YtjhcbggpbfejgaaMr
namespace Go.Proofs.Ytjhcbggpbfejgaa.Ms
open Go.RowKit Go.Proofs.zjt.zjq
open Go.Proofs.Ytjhcbggpbfejgaa.Cp
open Go.Proofs.Ytjhcbggpbfejgaa.Mk
open Go.Proofs.Ytjhcbggpbfejgaa.Mq
open Go.Proofs.Ytjhcbggpbfejgaa.Mr (cntR numsR zdr zdu)
/-- The bytes of a text. -/
def textR (s : St) : List Int × St := take (raw s).2 (raw s).1
/-- Entries, one behind the other: these, whether one was bad, what is left. -/
def logsGo : Nat → St → List S38 × Bool × St
  | 0, s => ([], false, s)
  | k + 1, s => if (textR s).2.2 = 150 then ([], false, (textR s).2)
    else (ofLog (getLog (textR s).1).1 :: (logsGo k (textR s).2).1, decide ((getLog (textR s).1).2 ≠ 0) || (logsGo k (textR s).2).2.1, (logsGo k (textR s).2).2.2)
/-- Numbers, one behind the other. -/
def nodesGo : Nat → St → List Int × St
  | 0, s => ([], s)
  | k + 1, s => if (numR s).2.2 = 150 then ([], (numR s).2) else ((numR s).1 :: (nodesGo k (numR s).2).1, (nodesGo k (numR s).2).2)
def g1 (xs : List Int) : List Int × St := take (xs, 0) 1
def g2 (xs : List Int) : List Int × St := numsR 5 (g1 xs).2
def g3 (xs : List Int) : List Int × St := take (g2 xs).2 1
def g4 (xs : List Int) : List Int × St := numsR 2 (g3 xs).2
def g5 (xs : List Int) : Int × St := cntR (g4 xs).2
def g6 (xs : List Int) : List S38 × Bool × St := logsGo (g5 xs).1.toNat (g5 xs).2
def g7 (xs : List Int) : List Int × St := numsR 2 (g6 xs).2.2
def g8 (xs : List Int) : Int × St := cntR (g7 xs).2
def g9 (xs : List Int) : List Int × St := nodesGo (g8 xs).1.toNat (g8 xs).2
def g10 (xs : List Int) : List Int × St := textR (g9 xs).2
/-- The fault. -/
def gErr (xs : List Int) : Int :=
  if (g10 xs).2.2 = 150 then 150
  else if 0 < (g10 xs).2.1.length then 151
  else if (g6 xs).2.1 = true ∨ 1 < rd (g3 xs).1 0 ∨ rd (g1 xs).1 0 < 1 ∨ 6 < rd (g1 xs).1 0 then 31 else 0
def gRpc (xs : List Int) : Rpc := ⟨rd (g1 xs).1 0, rd (g2 xs).1 0, rd (g2 xs).1 1, rd (g2 xs).1 2, rd (g2 xs).1 3, rd (g2 xs).1 4, rd (g3 xs).1 0 == 1, rd (g4 xs).1 0, rd (g4 xs).1 1, (g6 xs).1, rd (g7 xs).1 0, rd (g7 xs).1 1, (g9 xs).1, strOfNums (g10 xs).1⟩
def zeroRpc : Rpc := ⟨0, 0, 0, 0, 0, 0, false, 0, 0, [], 0, 0, [], ⟨#[]⟩⟩
/-- A message of bytes; the fault. -/
def getRpc (xs : List Int) : Rpc × Int := if gErr xs = 0 then (gRpc xs, 0) else (zeroRpc, gErr xs)
theorem zgj (s : St) (h : Bs s.1) : Bs (textR s).1 ∧ Bs (textR s).2.1 := zdl _ _ (zir s h)
theorem zgi (s : St) : (textR s).2.1.length ≤ s.1.length := Nat.le_trans (zel _ _) (zfe s)
theorem zha (s : St) : (textR s).1.length ≤ s.1.length := by
  have h1 := zfe s
  unfold textR Cp.take
  split
  · simp
  · simp only [List.length_take]; omega
theorem zid (k : Nat) : ∀ s : St, Bs s.1 → Bs (logsGo k s).2.2.1 := by
  induction k with
  | zero => exact fun s h => h
  | succ k ih =>
    intro s h
    rw [logsGo]
    split
    · exact (zgj s h).2
    · exact ih _ (zgj s h).2
theorem logsGo_le (k : Nat) : ∀ s : St, (logsGo k s).2.2.1.length ≤ s.1.length := by
  induction k with
  | zero => exact fun s => Nat.le_refl _
  | succ k ih =>
    intro s
    rw [logsGo]
    split
    · exact zgi s
    · exact Nat.le_trans (ih _) (zgi s)
theorem zgm (k : Nat) : ∀ s : St, Bs s.1 → Bs (nodesGo k s).2.1 := by
  induction k with
  | zero => exact fun s h => h
  | succ k ih =>
    intro s h
    rw [nodesGo]
    split
    · exact zcw s h
    · exact ih _ (zcw s h)
theorem zhm (s : St) (h : Bs s.1) : Bs (cntR s).2.1 := zen s h
theorem zhl (s : St) : (cntR s).2.1.length ≤ s.1.length := zfa s
theorem zgy (s : St) (h : Bs s.1) : 0 ≤ (cntR s).1 ∧ (cntR s).1 ≤ s.1.length := by
  have h1 := (zfb s h).1
  unfold cntR
  split
  · dsimp only; omega
  · rename_i h2
    exact ⟨h1, zfn s h2⟩
theorem zhq (s : St) (n : Int) (h : s.2 = 150) : (Cp.take s n).2.2 = 150 := by rw [Cp.take, if_pos (.inl h)]
theorem zib (s : St) (h : s.2 = 150) : (raw s).2.2 = 150 := zhq _ _ h
theorem zfc (k : Nat) : ∀ s : St, s.2 = 150 → (numsR k s).2.2 = 150 := by
  induction k with
  | zero => exact fun s h => h
  | succ k ih => exact fun s h => ih _ (zib s h)
theorem zhd (s : St) (h : s.2 = 150) : (cntR s).2.2 = 150 := by
  show (counted s).2 = 150
  unfold counted
  split
  · rfl
  · exact zib s h
theorem zfy (s : St) (h : s.2 = 150) : (textR s).2.2 = 150 := zhq _ _ (zib s h)
theorem logsGo_150 (k : Nat) (s : St) (h : s.2 = 150) : (logsGo k s).2.2.2 = 150 := by
  cases k with
  | zero => exact h
  | succ k => rw [logsGo, if_pos (zfy s h)]; exact zfy s h
theorem zgx (k : Nat) (s : St) (h : s.2 = 150) : (nodesGo k s).2.2 = 150 := by
  cases k with
  | zero => exact h
  | succ k => rw [nodesGo, if_pos (show (numR s).2.2 = 150 from zib s h)]; exact zib s h
theorem take_one (s : St) (h : (Cp.take s 1).2.2 ≠ 150) : (Cp.take s 1).1.length = 1 := by
  unfold Cp.take at h ⊢
  split
  · rename_i hc; rw [if_pos hc] at h; exact absurd rfl h
  · rename_i hc; simp only [List.length_take]; omega
theorem g_whole (xs : List Int) (h : (g10 xs).2.2 ≠ 150) : (g1 xs).1.length = 1 ∧ (g3 xs).1.length = 1 := by
  have h9 : (g9 xs).2.2 ≠ 150 := fun e => h (zfy _ e)
  have h8 : (g8 xs).2.2 ≠ 150 := fun e => h9 (zgx _ _ e)
  have h7 : (g7 xs).2.2 ≠ 150 := fun e => h8 (zhd _ e)
  have h6 : (g6 xs).2.2.2 ≠ 150 := fun e => h7 (zfc _ _ e)
  have h5 : (g5 xs).2.2 ≠ 150 := fun e => h6 (logsGo_150 _ _ e)
  have h4 : (g4 xs).2.2 ≠ 150 := fun e => h5 (zhd _ e)
  have h3 : (g3 xs).2.2 ≠ 150 := fun e => h4 (zfc _ _ e)
  have h2 : (g2 xs).2.2 ≠ 150 := fun e => h3 (zhq _ _ e)
  have h1 : (g1 xs).2.2 ≠ 150 := fun e => h2 (zfc _ _ e)
  exact ⟨take_one _ h1, take_one _ h3⟩
end Go.Proofs.Ytjhcbggpbfejgaa.Ms
