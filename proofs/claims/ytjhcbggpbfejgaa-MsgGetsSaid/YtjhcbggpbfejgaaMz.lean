/- The plain laws of entries' and messages' bytes: what is written is read; what is cut off is too short; a byte behind is one too many; no program in it. -/
import Derived.Test.YtjhcbggpbfejgaaCq
import Derived.Test.YtjhcbggpbfejgaaMs
namespace Go.Proofs.Ytjhcbggpbfejgaa.Mz
open Go.RowKit Go.Proofs.zjt.zjq
open Go.Proofs.Ytjhcbggpbfejgaa.Cp
open Go.Proofs.Ytjhcbggpbfejgaa.Mk
open Go.Proofs.Ytjhcbggpbfejgaa.Mq
open Go.Proofs.Ytjhcbggpbfejgaa.Ms
open Go.Proofs.Ytjhcbggpbfejgaa.Mr (cntR numsR)
set_option linter.unusedVariables false
set_option linter.unusedSimpArgs false
theorem enc_inj {c d : Cmd} (hc : c.Ok) (hd : d.Ok) (lc : (enc c).length < 1099511627776) (ld : (enc d).length < 1099511627776) (h : enc c = enc d) : c = d := by
  have h1 := getCommand_enc c hc (by omega)
  rw [h, getCommand_enc d hd (by omega)] at h1
  exact (congrArg Prod.fst h1).symm
theorem zero_ok : zeroCmd.Ok := ⟨by simp [I64, zeroCmd], by simp [I64, zeroCmd], by simp [I64, zeroCmd], by simp [I64, zeroCmd]⟩
theorem zero_len : (enc zeroCmd).length = 88 := by decide +kernel
theorem zhs (c : Cmd) (hc : c.Ok) (hl : (enc c).length < 1099511627776) : noneB c = true ↔ c = zeroCmd := by
  unfold noneB
  rw [Bool.and_eq_true, decide_eq_true_eq, decide_eq_true_eq]
  constructor
  · rintro ⟨h1, h2⟩
    have h3 : c.names = [] := List.eq_nil_of_length_eq_zero h1
    have e : ({ c with names := [] } : Cmd) = c := by cases c; simp_all
    rw [e] at h2
    exact enc_inj hc zero_ok hl (by rw [zero_len]; omega) h2
  · rintro rfl
    exact ⟨rfl, rfl⟩
/-- The document's bytes of an entry, and whether it can be. -/
def refLog (l : Log) : List Int × Bool :=
  if l.kind = 0 then (be8 l.term ++ [0], noneB l.cmd && decide (l.nodes.length = 0))
  else if l.kind = 1 then (be8 l.term ++ [1] ++ enc l.cmd, decide (l.nodes.length = 0))
  else if l.kind = 2 then (be8 l.term ++ [2] ++ be8 (l.nodes.length : Int) ++ nums8 l.nodes, noneB l.cmd)
  else ([], false)
theorem zeg (a : Int) (l : List Int) : nums8 (a :: l) = be8 a ++ nums8 l := by simp [nums8]
theorem zdc (l : List Int) : (nums8 l).length = 8 * l.length := by
  induction l with
  | nil => rfl
  | cons a l ih => rw [zeg, List.length_append, zbo, ih, List.length_cons]; omega
structure LogOk (l : Log) : Prop where
  term : I64 l.term
  cmd : l.cmd.Ok
  nodes : ∀ n ∈ l.nodes, I64 n
def logsG (k : Nat) (s : St) : (List S38 × Bool) × St := (((logsGo k s).1, (logsGo k s).2.1), (logsGo k s).2.2)
abbrev Parts := List Int × List Int × List Int × List Int × (List S38 × Bool) × List Int × List Int × List Int
def r9 (k : List Int) (a : List Int) (o : List Int) (c : List Int) (l : List S38 × Bool) (d : List Int) (e : List Int) (s : St) : Parts × St := ((k, a, o, c, l, d, e, (textR s).1), (textR s).2)
def r8 (k : List Int) (a : List Int) (o : List Int) (c : List Int) (l : List S38 × Bool) (d : List Int) (m : Int) (s : St) : Parts × St := r9 k a o c l d (nodesGo m.toNat s).1 (nodesGo m.toNat s).2
def r7 (k : List Int) (a : List Int) (o : List Int) (c : List Int) (l : List S38 × Bool) (d : List Int) (s : St) : Parts × St := r8 k a o c l d (cntR s).1 (cntR s).2
def r6 (k : List Int) (a : List Int) (o : List Int) (c : List Int) (l : List S38 × Bool) (s : St) : Parts × St := r7 k a o c l (numsR 2 s).1 (numsR 2 s).2
def r5 (k : List Int) (a : List Int) (o : List Int) (c : List Int) (n : Int) (s : St) : Parts × St := r6 k a o c (logsG n.toNat s).1 (logsG n.toNat s).2
def r4 (k : List Int) (a : List Int) (o : List Int) (c : List Int) (s : St) : Parts × St := r5 k a o c (cntR s).1 (cntR s).2
def r3 (k : List Int) (a : List Int) (o : List Int) (s : St) : Parts × St := r4 k a o (numsR 2 s).1 (numsR 2 s).2
def r2 (k : List Int) (a : List Int) (s : St) : Parts × St := r3 k a (Cp.take s 1).1 (Cp.take s 1).2
def r1 (k : List Int) (s : St) : Parts × St := r2 k (numsR 5 s).1 (numsR 5 s).2
def r0 (s : St) : Parts × St := r1 (Cp.take s 1).1 (Cp.take s 1).2
/-- What every entry of a machine meets, and is small enough. -/
structure XOk (x : S38) : Prop where
  ok : LogOk (logOf x)
  len : (enc (logOf x).cmd).length < 1099511627776
  nodes : x.f3.length < 1099511627776
end Go.Proofs.Ytjhcbggpbfejgaa.Mz
