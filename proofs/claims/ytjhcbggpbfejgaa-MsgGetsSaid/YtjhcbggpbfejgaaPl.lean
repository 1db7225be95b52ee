import Derived.Test.YtjhcbggpbfejgaaGeLz
import Derived.Test.YtjhcbggpbfejgaaRefMsgPuts
namespace Go.Proofs.Ytjhcbggpbfejgaa.Pl
open Go.RowKit Go.Proofs.zjt.zjq
open Go.Proofs.Ytjhcbggpbfejgaa.Cp Go.Proofs.Ytjhcbggpbfejgaa.Mk Go.Proofs.Ytjhcbggpbfejgaa.Mq Go.Proofs.Ytjhcbggpbfejgaa.Ms Go.Proofs.Ytjhcbggpbfejgaa.Mz
open Go.Proofs.Ytjhcbggpbfejgaa.Mr (cntR numsR zdr zdu)
open Go.Proofs.Ytjhcbggpbfejgaa.XMsgPuts (refItem refOk refRpc zix)
set_option linter.unusedVariables false
set_option linter.unusedSimpArgs false
theorem Inv.nums (k : Nat) : Inv (numsR k) nums8 := by
  induction k with
  | zero => exact ⟨fun xs _ _ => rfl, fun s h => h, fun s h => h⟩
  | succ k ih => exact Inv.bind (F := numR) (G := fun _ s => numsR k s) (f := be8) (g := fun _ l => nums8 l) (h := nums8) (mk := fun a l => a :: l) Inv.numR (fun _ => ih) (fun _ _ _ _ _ _ => zeg _ _)
theorem counted_keep (s : St) (h : s.2 ≠ 0) : (counted s).2 ≠ 0 := by
  unfold counted
  split
  · simp
  · exact Inv.raw.2.1 s h
theorem Inv.cnt : Inv cntR be8 := by
  refine ⟨fun xs hb hz => ?_, fun s h => counted_keep s h, fun s h => zen s h⟩
  have hz' : (counted (xs, 0)).2 = 0 := hz
  have hc : counted (xs, 0) = (raw (xs, 0)).2 := by
    unfold counted at hz' ⊢
    split
    · rename_i c; rw [if_pos c] at hz'; simp at hz'
    · rfl
  show xs = be8 (if (counted (xs, 0)).2 = 150 then 0 else (raw (xs, 0)).1) ++ (counted (xs, 0)).1
  rw [if_neg (by rw [hz']; decide), hc]
  exact Inv.raw.1 xs hb (by rw [← hc]; exact hz')
theorem Inv.nodes (k : Nat) : Inv (nodesGo k) nums8 ∧ ∀ s : St, (nodesGo k s).2.2 ≠ 150 → (nodesGo k s).1.length = k := by
  induction k with
  | zero => exact ⟨⟨fun xs _ _ => rfl, fun s h => h, fun s h => h⟩, fun _ _ => rfl⟩
  | succ k ih =>
    refine ⟨⟨fun xs hb hz => ?_, fun s h => ?_, fun s h => zgm _ s h⟩, fun s h => ?_⟩
    · rw [nodesGo] at hz ⊢
      by_cases c : (numR (xs, 0)).2.2 = 150
      · rw [if_pos c] at hz; rw [c] at hz; simp at hz
      · rw [if_neg c] at hz ⊢
        have h1 : (numR (xs, 0)).2.2 = 0 := by
          by_cases d : (numR (xs, 0)).2.2 = 0
          · exact d
          · exact absurd hz (ih.1.2.1 _ d)
        have h2 : (numR (xs, 0)).2 = ((numR (xs, 0)).2.1, 0) := Prod.ext rfl h1
        have h3 := Inv.numR.1 xs hb h1
        have hb2 := Inv.numR.2.2 (xs, 0) hb
        dsimp only at hz ⊢
        rw [h2] at hz ⊢
        have h4 := ih.1.1 (numR (xs, 0)).2.1 hb2 hz
        rw [zeg, List.append_assoc, ← h4]
        exact h3
    · rw [nodesGo]
      split
      · rename_i c; show (numR s).2.2 ≠ 0; rw [c]; simp
      · exact ih.1.2.1 _ (Inv.numR.2.1 s h)
    · rw [nodesGo] at h ⊢
      by_cases c : (numR s).2.2 = 150
      · rw [if_pos c] at h; exact absurd c h
      · rw [if_neg c] at h ⊢
        rw [List.length_cons, ih.2 _ h]
theorem Inv.text : Inv textR (fun l => be8 (l.length : Int) ++ l) := by
  refine Inv.bind (F := Cp.raw) (G := fun n s => Cp.take s n) (f := be8) (g := fun _ l => l) (mk := fun _ l => l) Inv.raw (fun n => Inv.take n) ?_
  intro xs hb hz ys hy hzy
  obtain ⟨h1, h2⟩ := zgu ys _ hzy
  have h0 := (zfb (xs, 0) hb).1
  (try dsimp only)
  rw [h2]
  (try dsimp only)
  rw [List.length_take, show ((min (Cp.raw (xs, 0)).1.toNat ys.length : Nat) : Int) = (Cp.raw (xs, 0)).1 by omega]
/-- Entries that are all good. -/
theorem logs_whole (k : Nat) : ∀ xs : List Int, Bs xs → xs.length ≤ 60000 → (logsGo k (xs, 0)).2.2.2 = 0 → (logsGo k (xs, 0)).2.1 = false →
    xs = (logsGo k (xs, 0)).1.flatMap refItem ++ (logsGo k (xs, 0)).2.2.1 ∧ (logsGo k (xs, 0)).1.length = k ∧ (logsGo k (xs, 0)).1.all refOk = true := by
  induction k with
  | zero => exact fun xs _ _ _ _ => ⟨rfl, rfl, rfl⟩
  | succ k ih =>
    intro xs hb hl hz hbad
    rw [logsGo] at hz hbad ⊢
    by_cases c : (textR (xs, 0)).2.2 = 150
    · rw [if_pos c] at hz; rw [c] at hz; simp at hz
    · rw [if_neg c] at hz hbad ⊢
      dsimp only at hz hbad ⊢
      rw [Bool.or_eq_false_iff, decide_eq_false_iff_not] at hbad
      have hkeep : ∀ (k : Nat) (s : St), s.2 ≠ 0 → (logsGo k s).2.2.2 ≠ 0 := by
        intro k
        induction k with
        | zero => exact fun s h => h
        | succ k ih =>
          intro s h
          rw [logsGo]
          split
          · exact Inv.text.2.1 s h
          · exact ih _ (Inv.text.2.1 s h)
      have h1 : (textR (xs, 0)).2.2 = 0 := by
        by_cases d : (textR (xs, 0)).2.2 = 0
        · exact d
        · exact absurd hz (hkeep _ _ d)
      have h2 : (textR (xs, 0)).2 = ((textR (xs, 0)).2.1, 0) := Prod.ext rfl h1
      have h3 := Inv.text.1 xs hb h1
      have hb2 := zgj (xs, 0) hb
      have hle := zgi (xs, 0)
      have hlen := zha (xs, 0)
      obtain ⟨hz2, hbad2⟩ : (logsGo k (textR (xs, 0)).2).2.2.2 = 0 ∧ (logsGo k (textR (xs, 0)).2).2.1 = false := ⟨hz, hbad.2⟩
      rw [h2] at hz2 hbad2 ⊢
      obtain ⟨i1, i2, i3⟩ := ih (textR (xs, 0)).2.1 hb2.2 (Nat.le_trans hle hl) hz2 hbad2
      have hg : (getLog (textR (xs, 0)).1).2 = 0 := by simpa using hbad.1
      have hw := (XCodecGets.getLog_whole (textR (xs, 0)).1 hb2.1 (Nat.le_trans hlen hl) hg).2
      have hw' : refLog (logOf (ofLog (getLog (textR (xs, 0)).1).1)) = ((textR (xs, 0)).1, true) := hw
      refine ⟨?_, by rw [List.length_cons, i2], ?_⟩
      · rw [List.flatMap_cons, List.append_assoc, ← i1]
        have e : refItem (ofLog (getLog (textR (xs, 0)).1).1) = be8 ((textR (xs, 0)).1.length : Int) ++ (textR (xs, 0)).1 := by
          unfold refItem
          rw [hw']
        rw [e]
        exact h3
      · rw [List.all_cons, i3, Bool.and_true]
        show (refLog (logOf (ofLog (getLog (textR (xs, 0)).1).1))).2 = true
        rw [hw']
def Two (s : St) : Prop := s.2 = 0 ∨ s.2 = 150
theorem zgh (s : St) (n : Int) (h : Two s) : Two (Cp.take s n).2 := by
  unfold Cp.take
  split
  · exact .inr rfl
  · exact h
theorem ziv (s : St) (h : Two s) : Two (numR s).2 := zgh s 8 h
theorem zik (k : Nat) : ∀ s : St, Two s → Two (numsR k s).2 := by
  induction k with
  | zero => exact fun s h => h
  | succ k ih => exact fun s h => ih _ (ziv s h)
theorem two_cnt (s : St) (h : Two s) : Two (cntR s).2 := by
  show Two (counted s)
  unfold counted
  split
  · exact .inr rfl
  · exact zgh s 8 h
theorem zij (s : St) (h : Two s) : Two (textR s).2 := zgh _ _ (zgh s 8 h)
theorem two_logs (k : Nat) : ∀ s : St, Two s → Two (logsGo k s).2.2 := by
  induction k with
  | zero => exact fun s h => h
  | succ k ih =>
    intro s h
    rw [logsGo]
    split
    · exact zij s h
    · exact ih _ (zij s h)
theorem two_nodes (k : Nat) : ∀ s : St, Two s → Two (nodesGo k s).2 := by
  induction k with
  | zero => exact fun s h => h
  | succ k ih =>
    intro s h
    rw [nodesGo]
    split
    · exact ziv s h
    · exact ih _ (ziv s h)
theorem zgs {s : St} (h : Two s) (k : s.2 ≠ 150) : s.2 = 0 := by
  rcases h with h | h
  · exact h
  · exact absurd h k
theorem st0 {s : St} (h : s.2 = 0) : s = (s.1, 0) := Prod.ext rfl h
theorem take1 (xs : List Int) (h : (Cp.take (xs, 0) 1).2.2 = 0) : (Cp.take (xs, 0) 1).1 = [rd (Cp.take (xs, 0) 1).1 0] := by
  obtain ⟨h1, h2⟩ := zgu xs 1 h
  rw [h2]
  match xs, h1 with
  | x :: t, _ => rfl
/-- What is read without a fault is written as it was. -/
theorem getRpc_whole (xs : List Int) (hb : Bs xs) (hl : xs.length ≤ 50000) (h : gErr xs = 0) : refRpc (gRpc xs) = xs ∧ (1 ≤ (gRpc xs).kind ∧ (gRpc xs).kind ≤ 6) ∧ (gRpc xs).logs.all refOk = true := by
  unfold gErr at h
  by_cases c : (g10 xs).2.2 = 150
  · rw [if_pos c] at h; simp at h
  rw [if_neg c] at h
  by_cases d : 0 < (g10 xs).2.1.length
  · rw [if_pos d] at h; simp at h
  rw [if_neg d] at h
  by_cases b : (g6 xs).2.1 = true ∨ 1 < rd (g3 xs).1 0 ∨ rd (g1 xs).1 0 < 1 ∨ 6 < rd (g1 xs).1 0
  · rw [if_pos b] at h; simp at h
  simp only [not_or] at b
  obtain ⟨b1, b2, b3, b4⟩ := b
  have t1 : Two (g1 xs).2 := zgh _ _ (.inl rfl)
  have t2 : Two (g2 xs).2 := zik 5 _ t1
  have t3 : Two (g3 xs).2 := zgh _ _ t2
  have t4 : Two (g4 xs).2 := zik 2 _ t3
  have t5 : Two (g5 xs).2 := two_cnt _ t4
  have t6 : Two (g6 xs).2.2 := two_logs _ _ t5
  have t7 : Two (g7 xs).2 := zik 2 _ t6
  have t8 : Two (g8 xs).2 := two_cnt _ t7
  have t9 : Two (g9 xs).2 := two_nodes _ _ t8
  have t10 : Two (g10 xs).2 := zij _ t9
  have z10 := zgs t10 c
  have z9 : (g9 xs).2.2 = 0 := zgs t9 (fun e => c (zfy _ e))
  have z8 : (g8 xs).2.2 = 0 := zgs t8 (fun e => by have := zgx (g8 xs).1.toNat _ e; rw [show nodesGo (g8 xs).1.toNat (g8 xs).2 = g9 xs from rfl, z9] at this; simp at this)
  have z7 : (g7 xs).2.2 = 0 := zgs t7 (fun e => by have := zhd _ e; rw [show cntR (g7 xs).2 = g8 xs from rfl, z8] at this; simp at this)
  have z6 : (g6 xs).2.2.2 = 0 := zgs t6 (fun e => by have := zfc 2 _ e; rw [show numsR 2 (g6 xs).2.2 = g7 xs from rfl, z7] at this; simp at this)
  have z5 : (g5 xs).2.2 = 0 := zgs t5 (fun e => by have := logsGo_150 (g5 xs).1.toNat _ e; rw [show logsGo (g5 xs).1.toNat (g5 xs).2 = g6 xs from rfl, z6] at this; simp at this)
  have z4 : (g4 xs).2.2 = 0 := zgs t4 (fun e => by have := zhd _ e; rw [show cntR (g4 xs).2 = g5 xs from rfl, z5] at this; simp at this)
  have z3 : (g3 xs).2.2 = 0 := zgs t3 (fun e => by have := zfc 2 _ e; rw [show numsR 2 (g3 xs).2 = g4 xs from rfl, z4] at this; simp at this)
  have z2 : (g2 xs).2.2 = 0 := zgs t2 (fun e => by have := zhq _ 1 e; rw [show Cp.take (g2 xs).2 1 = g3 xs from rfl, z3] at this; simp at this)
  have z1 : (g1 xs).2.2 = 0 := zgs t1 (fun e => by have := zfc 5 _ e; rw [show numsR 5 (g1 xs).2 = g2 xs from rfl, z2] at this; simp at this)
  have B1 : Bs (g1 xs).2.1 := (zdl (xs, 0) 1 hb).2
  have B2 : Bs (g2 xs).2.1 := zdr 5 _ B1
  have B3 : Bs (g3 xs).2.1 := (zdl (g2 xs).2 1 B2).2
  have B4 : Bs (g4 xs).2.1 := zdr 2 _ B3
  have B5 : Bs (g5 xs).2.1 := zhm _ B4
  have B6 : Bs (g6 xs).2.2.1 := zid _ _ B5
  have B7 : Bs (g7 xs).2.1 := zdr 2 _ B6
  have B8 : Bs (g8 xs).2.1 := zhm _ B7
  have B9 : Bs (g9 xs).2.1 := zgm _ _ B8
  have L5 : (g5 xs).2.1.length ≤ xs.length := by
    have h1 := zel (xs, 0) 1
    have h2 := zdu 5 (g1 xs).2
    have h3 := zel (g2 xs).2 1
    have h4 := zdu 2 (g3 xs).2
    have h5 := zhl (g4 xs).2
    simp only [g5, g4, g3, g2, g1] at *
    omega
  have e1 : xs = (g1 xs).1 ++ (g1 xs).2.1 := (Inv.take 1).1 xs hb z1
  have e2 : (g1 xs).2.1 = nums8 (g2 xs).1 ++ (g2 xs).2.1 := by
    have := (Inv.nums 5).1 (g1 xs).2.1 B1 (by rw [← st0 z1]; exact z2)
    rwa [← st0 z1] at this
  have e3 : (g2 xs).2.1 = (g3 xs).1 ++ (g3 xs).2.1 := by
    have := (Inv.take 1).1 (g2 xs).2.1 B2 (by rw [← st0 z2]; exact z3)
    rwa [← st0 z2] at this
  have e4 : (g3 xs).2.1 = nums8 (g4 xs).1 ++ (g4 xs).2.1 := by
    have := (Inv.nums 2).1 (g3 xs).2.1 B3 (by rw [← st0 z3]; exact z4)
    rwa [← st0 z3] at this
  have e5 : (g4 xs).2.1 = be8 (g5 xs).1 ++ (g5 xs).2.1 := by
    have := Inv.cnt.1 (g4 xs).2.1 B4 (by rw [← st0 z4]; exact z5)
    rwa [← st0 z4] at this
  have w6 := logs_whole (g5 xs).1.toNat (g5 xs).2.1 B5 (by omega) (by rw [← st0 z5]; exact z6) (by rw [← st0 z5]; exact Bool.eq_false_iff.mpr b1)
  rw [← st0 z5] at w6
  obtain ⟨e6, n6, r6⟩ := w6
  have e6 : (g5 xs).2.1 = (g6 xs).1.flatMap refItem ++ (g6 xs).2.2.1 := e6
  have e7 : (g6 xs).2.2.1 = nums8 (g7 xs).1 ++ (g7 xs).2.1 := by
    have := (Inv.nums 2).1 (g6 xs).2.2.1 B6 (by rw [← st0 z6]; exact z7)
    rwa [← st0 z6] at this
  have e8 : (g7 xs).2.1 = be8 (g8 xs).1 ++ (g8 xs).2.1 := by
    have := Inv.cnt.1 (g7 xs).2.1 B7 (by rw [← st0 z7]; exact z8)
    rwa [← st0 z7] at this
  have w9 := (Inv.nodes (g8 xs).1.toNat).1.1 (g8 xs).2.1 B8 (by rw [← st0 z8]; exact z9)
  rw [← st0 z8] at w9
  have e9 : (g8 xs).2.1 = nums8 (g9 xs).1 ++ (g9 xs).2.1 := w9
  have n9 : (g9 xs).1.length = (g8 xs).1.toNat := (Inv.nodes (g8 xs).1.toNat).2 _ (by show (g9 xs).2.2 ≠ 150; rw [z9]; decide)
  have e10 : (g9 xs).2.1 = (be8 ((g10 xs).1.length : Int) ++ (g10 xs).1) ++ (g10 xs).2.1 := by
    have := Inv.text.1 (g9 xs).2.1 B9 (by rw [← st0 z9]; exact z10)
    rwa [← st0 z9] at this
  have e11 : (g10 xs).2.1 = [] := List.eq_nil_of_length_eq_zero (by omega)
  have c5 := zgy (g4 xs).2 B4
  have c8 := zgy (g7 xs).2 B7
  have k1 : (g1 xs).1 = [rd (g1 xs).1 0] := take1 xs z1
  have k3 : (g3 xs).1 = [rd (g3 xs).1 0] := by
    have := take1 (g2 xs).2.1 (by rw [← st0 z2]; exact z3)
    rwa [← st0 z2] at this
  have l2 : nums8 [rd (g2 xs).1 0, rd (g2 xs).1 1, rd (g2 xs).1 2, rd (g2 xs).1 3, rd (g2 xs).1 4] = nums8 (g2 xs).1 := rfl
  have l4 : (g4 xs).1 = [rd (g4 xs).1 0, rd (g4 xs).1 1] := rfl
  have l7 : (g7 xs).1 = [rd (g7 xs).1 0, rd (g7 xs).1 1] := rfl
  have o3 : 0 ≤ rd (g3 xs).1 0 := by
    have hm : rd (g3 xs).1 0 ∈ (g3 xs).1 := by rw [k3]; simp [rd]
    exact ((zdl (g2 xs).2 1 B2).1 _ hm).1
  have hok : okByte (rd (g3 xs).1 0 == 1) = rd (g3 xs).1 0 := by
    have h0 : 0 ≤ rd (g3 xs).1 0 := o3
    have : rd (g3 xs).1 0 = 0 ∨ rd (g3 xs).1 0 = 1 := by omega
    rcases this with e | e <;> rw [e] <;> rfl
  have hk : rd (g1 xs).1 0 % 256 = rd (g1 xs).1 0 := by omega
  have ht : txt (strOfNums (g10 xs).1) = be8 ((g10 xs).1.length : Int) ++ (g10 xs).1 := by
    rw [txt, zil, show bytesOf (strOfNums (g10 xs).1) = (g10 xs).1 from zfd _ (zgj (g9 xs).2 B9).1]
  refine ⟨?_, ⟨by show 1 ≤ rd (g1 xs).1 0; omega, by show rd (g1 xs).1 0 ≤ 6; omega⟩, r6⟩
  have q5 : (((g6 xs).1.length : Nat) : Int) = (g5 xs).1 := by
    have : (g6 xs).1.length = (g5 xs).1.toNat := n6
    rw [this]
    exact Int.toNat_of_nonneg c5.1
  have q8 : (((g9 xs).1.length : Nat) : Int) = (g8 xs).1 := by rw [n9]; exact Int.toNat_of_nonneg c8.1
  have n3 : ∀ a b c : Int, nums8 [a, b, c] = nums8 [a, b] ++ be8 c := fun a b c => by simp [nums8]
  show [rd (g1 xs).1 0 % 256] ++ nums8 [rd (g2 xs).1 0, rd (g2 xs).1 1, rd (g2 xs).1 2, rd (g2 xs).1 3, rd (g2 xs).1 4] ++ [okByte (rd (g3 xs).1 0 == 1)] ++ nums8 [rd (g4 xs).1 0, rd (g4 xs).1 1, ((g6 xs).1.length : Int)] ++ (g6 xs).1.flatMap refItem ++ nums8 [rd (g7 xs).1 0, rd (g7 xs).1 1, ((g9 xs).1.length : Int)] ++ nums8 (g9 xs).1 ++ txt (strOfNums (g10 xs).1) = xs
  rw [hk, hok, n3, n3, q5, q8, ht, l2, ← k1, ← k3, ← l4, ← l7]
  rw [e11, List.append_nil] at e10
  rw [e10] at e9
  rw [e9] at e8
  rw [e8] at e7
  rw [e7] at e6
  rw [e6] at e5
  rw [e5] at e4
  rw [e4] at e3
  rw [e3] at e2
  rw [e2] at e1
  conv => rhs; rw [e1]
  simp only [List.append_assoc]
theorem many_I (k : Nat) : ∀ s : St, ∀ n ∈ (manyGo numR k s).1, I64 n := by
  induction k with
  | zero => exact fun s n h => by cases h
  | succ k ih =>
    intro s n h
    rw [manyGo] at h
    split at h
    · cases h
    · rcases List.mem_cons.1 h with rfl | h
      · exact zhp s
      · exact ih _ n h
theorem getLog_fine (t : List Int) : LogOk (getLog t).1 := by
  have z := zfl
  have hz : LogOk zeroLog := ⟨by simp [zeroLog, I64], z.1, fun n h => by cases h⟩
  unfold getLog
  split
  · unfold logR
    dsimp only
    split
    · exact ⟨zhp _, cmdR_ok _, fun n h => by cases h⟩
    · split
      · exact ⟨zhp _, z.1, many_I _ _⟩
      · exact ⟨zhp _, z.1, fun n h => by cases h⟩
  · exact hz
theorem getLog_in (t : List Int) (m : Nat) (hl : t.length ≤ m) (hm : m ≤ 60000) : LogIn (getLog t).1 m := by
  unfold getLog
  split
  · exact logR_in (t, 0) m hl hm
  · exact zeroLog_in m
theorem logs_in (k : Nat) : ∀ s : St, s.1.length ≤ 50000 → (logsGo k s).1.length ≤ k ∧ ∀ x ∈ (logsGo k s).1, XOk x ∧ x.f2.f7.length ≤ 50000 ∧ x.f3.length ≤ 50000 := by
  induction k with
  | zero => exact fun s h => ⟨Nat.le_refl _, fun x hx => by cases hx⟩
  | succ k ih =>
    intro s h
    have hlen := zha s
    rw [logsGo]
    split
    · exact ⟨by simp, fun x hx => by cases hx⟩
    · have hi := ih (textR s).2 (Nat.le_trans (zgi s) h)
      have hg := getLog_in (textR s).1 50000 (Nat.le_trans hlen h) (by omega)
      refine ⟨by rw [List.length_cons]; omega, fun x hx => ?_⟩
      rcases List.mem_cons.1 hx with rfl | hx
      · exact ⟨⟨getLog_fine _, by have := hg.len; show (enc (getLog (textR s).1).1.cmd).length < _; omega, by have := hg.nodes; show (getLog (textR s).1).1.nodes.length < _; omega⟩, hg.names, hg.nodes⟩
      · exact hi.2 x hx
/-- What getRpc answers is small. -/
theorem getRpc_in (xs : List Int) (hb : Bs xs) (hl : xs.length ≤ 50000) : (∀ x ∈ (getRpc xs).1.logs, XOk x ∧ x.f2.f7.length ≤ 50000 ∧ x.f3.length ≤ 50000) ∧ (getRpc xs).1.logs.length ≤ 50000 ∧ (refRpc (getRpc xs).1).length ≤ 50000 := by
  unfold getRpc
  by_cases c : gErr xs = 0
  · rw [if_pos c]
    have hw := (getRpc_whole xs hb hl c).1
    have B1 : Bs (g1 xs).2.1 := (zdl (xs, 0) 1 hb).2
    have B2 : Bs (g2 xs).2.1 := zdr 5 _ B1
    have B3 : Bs (g3 xs).2.1 := (zdl (g2 xs).2 1 B2).2
    have B4 : Bs (g4 xs).2.1 := zdr 2 _ B3
    have c5 := zgy (g4 xs).2 B4
    have L4 : (g4 xs).2.1.length ≤ xs.length := by
      have h1 := zel (xs, 0) 1
      have h2 := zdu 5 (g1 xs).2
      have h3 := zel (g2 xs).2 1
      have h4 := zdu 2 (g3 xs).2
      simp only [g4, g3, g2, g1] at *
      omega
    have L5 : (g5 xs).2.1.length ≤ xs.length := Nat.le_trans (zhl _) L4
    have hi := logs_in (g5 xs).1.toNat (g5 xs).2 (by omega)
    have hn : (g5 xs).1.toNat ≤ 50000 := by
      have : (g5 xs).1 ≤ ((g4 xs).2.1.length : Int) := c5.2
      omega
    exact ⟨hi.2, Nat.le_trans hi.1 hn, by rw [hw]; exact hl⟩
  · rw [if_neg c]
    exact ⟨fun x hx => (by cases hx), by simp [zeroRpc], by rw [zix]; simp [zeroRpc]; decide⟩
end Go.Proofs.Ytjhcbggpbfejgaa.Pl
