import Derived.Test.YtjhcbggpbfejgaaGeInv
namespace Go.Proofs.Ytjhcbggpbfejgaa.Cp
open Go.RowKit Go.Proofs.zjt.zjq
set_option linter.unusedVariables false
set_option linter.unusedSimpArgs false
theorem w64_I (n : Int) : I64 (wrap64 n) := by unfold I64 wrap64; omega
theorem zhp (s : St) : I64 (numR s).1 := w64_I _
theorem cmdR_ok (s : St) : (cmdR s).1.Ok := ⟨zhp _, zhp _, zhp _, zhp _⟩
theorem take_size (s : St) (n : Int) : (take s n).1.length ≤ s.1.length := by
  unfold take
  split
  · exact Nat.zero_le _
  · simp only [List.length_take]; omega
theorem txtR_size (s : St) : (txtR s).1.size ≤ s.1.length := by
  unfold txtR
  rw [zil]
  exact Nat.le_trans (take_size _ _) (zfe s)
theorem rep_size (k : Nat) : ∀ s : St, ∀ x ∈ (rep k s).1, x.size ≤ s.1.length := by
  induction k with
  | zero => intro s x hx; simp [rep] at hx
  | succ k ih =>
    intro s x hx
    rw [rep] at hx
    rcases List.mem_cons.1 hx with rfl | hx
    · exact txtR_size s
    · exact Nat.le_trans (ih _ x hx) (zgt s)
theorem manyGo_mem {α : Type} (one : St → α × St) (P : Nat → α → Prop) (h1 : ∀ s : St, P s.1.length (one s).1) (h2 : ∀ s : St, (one s).2.1.length ≤ s.1.length) (hP : ∀ a b x, a ≤ b → P a x → P b x) (k : Nat) : ∀ s : St, ∀ x ∈ (manyGo one k s).1, P s.1.length x := by
  induction k with
  | zero => intro s x hx; simp [manyGo] at hx
  | succ k ih =>
    intro s x hx
    rw [manyGo] at hx
    split at hx
    · simp at hx
    · rcases List.mem_cons.1 hx with rfl | hx
      · exact h1 s
      · exact hP _ _ _ (h2 s) (ih _ x hx)
theorem manyGo_len {α : Type} (one : St → α × St) (k : Nat) : ∀ s : St, (manyGo one k s).1.length ≤ k ∧ (s.2 = 150 → (manyGo one k s).1 = []) := by
  induction k with
  | zero => exact fun s => ⟨Nat.le_refl _, fun _ => rfl⟩
  | succ k ih =>
    intro s
    rw [manyGo]
    split
    · exact ⟨Nat.zero_le _, fun _ => rfl⟩
    · rename_i c
      exact ⟨by simp only [List.length_cons]; have := (ih (one s).2).1; omega, fun h => absurd h c⟩
theorem many_len {α : Type} (one : St → α × St) (s : St) : (many one s).1.length ≤ s.1.length := by
  unfold many
  by_cases c : (counted s).2 = 150
  · rw [(manyGo_len one _ _).2 c]
    exact Nat.zero_le _
  · have h1 := zfn s c
    have h2 := (manyGo_len one (raw s).1.toNat (counted s)).1
    omega
theorem many_mem {α : Type} (one : St → α × St) (P : Nat → α → Prop) (h1 : ∀ s : St, P s.1.length (one s).1) (h2 : ∀ s : St, (one s).2.1.length ≤ s.1.length) (hP : ∀ a b x, a ≤ b → P a x → P b x) (s : St) : ∀ x ∈ (many one s).1, P s.1.length x := fun x hx => hP _ _ _ (zfa s) (manyGo_mem one P h1 h2 hP _ _ x hx)
theorem flat_le (l : List ByteArray) (m : Nat) (h : ∀ x ∈ l, x.size ≤ m) : (txts l).length ≤ l.length * (8 + m) := by
  induction l with
  | nil => simp [txts]
  | cons a l ih =>
    have e : txts (a :: l) = txt a ++ txts l := by simp [txts]
    have h1 := h a (by simp)
    have h2 := ih (fun x hx => h x (by simp [hx]))
    rw [e, List.length_append, zdh, List.length_cons, Nat.add_mul]
    omega
/-- A command that is read of so many bytes is not great. -/
theorem cmdR_small (s : St) (m : Nat) (hm : s.1.length ≤ m) (hm2 : m ≤ 60000) : (cmdR s).1.names.length ≤ m ∧ (enc (cmdR s).1).length < 1000000000000 ∧ (enc (cmdR s).1).length ≤ 40 + 6 * (8 + m) + m * (8 + m) := by
  have h6 := rep_size 6 (numR s).2
  have hl6 := rep_len 6 (numR s).2
  have le6 : (numR s).2.1.length ≤ m := Nat.le_trans (zgw s) hm
  have leN : (rep 6 (numR s).2).2.1.length ≤ m := Nat.le_trans (rep_le 6 _) le6
  have hn := many_len txtR (rep 6 (numR s).2).2
  have hmem := many_mem txtR (fun a x => x.size ≤ a) txtR_size zgt (fun a b x hab h => Nat.le_trans h hab) (rep 6 (numR s).2).2
  have hnames : (cmdR s).1.names = (many txtR (rep 6 (numR s).2).2).1 := rfl
  have hsix : (cmdR s).1.six = (rep 6 (numR s).2).1 := by
    show (Cmd.of _ (rep 6 (numR s).2).1 _ _ _ _).six = _
    generalize (rep 6 (numR s).2).1 = q at hl6
    match q, hl6 with
    | [a, b, c, d, e, f], _ => rfl
  have b6 := flat_le (rep 6 (numR s).2).1 m (fun x hx => Nat.le_trans (h6 x hx) le6)
  have bn := flat_le (many txtR (rep 6 (numR s).2).2).1 m (fun x hx => Nat.le_trans (hmem x hx) leN)
  have key : (enc (cmdR s).1).length ≤ 40 + 6 * (8 + m) + m * (8 + m) := by
    rw [zhk, hsix, hnames]
    rw [hl6] at b6
    have : (many txtR (rep 6 (numR s).2).2).1.length * (8 + m) ≤ m * (8 + m) := Nat.mul_le_mul_right _ (by omega)
    omega
  have : m * (8 + m) ≤ 60000 * 60008 := Nat.mul_le_mul hm2 (by omega)
  exact ⟨by rw [hnames]; omega, by omega, key⟩
theorem zfl : zeroCmd.Ok ∧ zeroCmd.names.length = 0 ∧ (enc zeroCmd).length = 88 := ⟨⟨by simp [I64, zeroCmd], by simp [I64, zeroCmd], by simp [I64, zeroCmd], by simp [I64, zeroCmd]⟩, rfl, by decide +kernel⟩
structure LogIn (l : Log) (m : Nat) : Prop where
  cmd : l.cmd.Ok
  len : (enc l.cmd).length < 1000000000000
  names : l.cmd.names.length ≤ m
  nodes : l.nodes.length ≤ m
theorem logR_in (s : St) (m : Nat) (hm : s.1.length ≤ m) (hm2 : m ≤ 60000) : LogIn (logR s).1 m := by
  have h1 : (numR s).2.1.length ≤ m := Nat.le_trans (zgw s) hm
  have h2 : (byteR 3 (numR s).2).2.1.length ≤ m := Nat.le_trans (zhe 3 _) h1
  have hc := cmdR_small (byteR 3 (numR s).2).2 m h2 hm2
  have z := zfl
  unfold logR
  dsimp only
  split
  · exact ⟨cmdR_ok _, hc.2.1, hc.1, by simp⟩
  · split
    · exact ⟨z.1, by rw [z.2.2]; omega, by rw [z.2.1]; omega, Nat.le_trans (many_len _ _) h2⟩
    · exact ⟨z.1, by rw [z.2.2]; omega, by rw [z.2.1]; omega, by simp⟩
theorem zeroLog_in (m : Nat) : LogIn zeroLog m := by
  have z := zfl
  exact ⟨z.1, by rw [show zeroLog.cmd = zeroCmd from rfl, z.2.2]; omega, by rw [show zeroLog.cmd = zeroCmd from rfl, z.2.1]; omega, by simp [zeroLog]⟩
end Go.Proofs.Ytjhcbggpbfejgaa.Cp
