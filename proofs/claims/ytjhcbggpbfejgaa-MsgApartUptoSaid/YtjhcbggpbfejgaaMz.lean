/- The plain laws of entries' and messages' bytes: what is written is read; what is cut off is too short; a byte behind is one too many; no program in it. -/
import Derived.Test.YtjhcbggpbfejgaaCq
import Derived.Test.YtjhcbggpbfejgaaMs
namespace Go.Proofs.Ytjhcbggpbfejgaa.Mz
open Go.RowKit Go.Proofs.YtjhcbggpbfejgaaW.PrintWords
open Go.Proofs.Ytjhcbggpbfejgaa.Cp
open Go.Proofs.Ytjhcbggpbfejgaa.Mk
open Go.Proofs.Ytjhcbggpbfejgaa.Mq
open Go.Proofs.Ytjhcbggpbfejgaa.Ms
open Go.Proofs.Ytjhcbggpbfejgaa.Mr (cntR numsR)
set_option linter.unusedVariables false
set_option linter.unusedSimpArgs false

theorem enc_inj {c d : Cmd} (hc : c.Ok) (hd : d.Ok) (lc : (enc c).length < 1099511627776) (ld : (enc d).length < 1099511627776) (h : enc c = enc d) : c = d := by
  have h1 := getCommand_enc c hc (by omega)
  rw [h, getCommand_enc d hd (by omega)] at h1
  exact (congrArg Prod.fst h1).symm
theorem zero_ok : zeroCmd.Ok := ⟨by simp [I64, zeroCmd], by simp [I64, zeroCmd], by simp [I64, zeroCmd], by simp [I64, zeroCmd]⟩
theorem zero_len : (enc zeroCmd).length = 88 := by decide +kernel
theorem none_iff (c : Cmd) (hc : c.Ok) (hl : (enc c).length < 1099511627776) : noneB c = true ↔ c = zeroCmd := by
  unfold noneB
  rw [Bool.and_eq_true, decide_eq_true_eq, decide_eq_true_eq]
  constructor
  · rintro ⟨h1, h2⟩
    have h3 : c.names = [] := List.eq_nil_of_length_eq_zero h1
    have e : ({ c with names := [] } : Cmd) = c := by cases c; simp_all
    rw [e] at h2
    exact enc_inj hc zero_ok hl (by rw [zero_len]; omega) h2
  · rintro rfl
    exact ⟨rfl, rfl⟩
/-- The document's bytes of an entry, and whether it can be. -/
def refLog (l : Log) : List Int × Bool :=
  if l.kind = 0 then (be8 l.term ++ [0], noneB l.cmd && decide (l.nodes.length = 0))
  else if l.kind = 1 then (be8 l.term ++ [1] ++ enc l.cmd, decide (l.nodes.length = 0))
  else if l.kind = 2 then (be8 l.term ++ [2] ++ be8 (l.nodes.length : Int) ++ nums8 l.nodes, noneB l.cmd)
  else ([], false)
theorem nums8_cons (a : Int) (l : List Int) : nums8 (a :: l) = be8 a ++ nums8 l := by simp [nums8]
theorem nums8_len (l : List Int) : (nums8 l).length = 8 * l.length := by
  induction l with
  | nil => rfl
  | cons a l ih => rw [nums8_cons, List.length_append, be8_len, ih, List.length_cons]; omega
theorem putLog_ref (l : Log) : putLog l = if (refLog l).2 = true then some (refLog l).1 else none := by
  unfold putLog refLog
  by_cases h0 : l.kind = 0
  · simp only [h0, if_true, Bool.and_eq_true, decide_eq_true_eq]
  · simp only [h0, if_false]
    by_cases h1 : l.kind = 1
    · simp only [h1, if_true, decide_eq_true_eq]
    · simp only [h1, if_false]
      by_cases h2 : l.kind = 2
      · simp only [h2, if_true, List.append_assoc]
      · simp [h2]
theorem refLog_len (l : Log) : (refLog l).1.length ≤ 17 + (enc l.cmd).length + 8 * l.nodes.length := by
  unfold refLog
  split
  · simp [be8_len]; omega
  · split
    · simp only [List.length_append, be8_len, List.length_cons, List.length_nil]; omega
    · split
      · simp only [List.length_append, be8_len, List.length_cons, List.length_nil, nums8_len]; omega
      · simp
theorem refLog_bs (l : Log) : Bs (refLog l).1 := by
  have h : ∀ n : Int, 0 ≤ n → n < 256 → Bs [n] := fun n h0 h1 x hx => by rw [List.mem_singleton.1 hx]; exact ⟨h0, h1⟩
  unfold refLog
  split
  · exact (Bs.be8 _).append (h 0 (by decide) (by decide))
  · split
    · exact ((Bs.be8 _).append (h 1 (by decide) (by decide))).append (Bs.enc _)
    · split
      · exact (((Bs.be8 _).append (h 2 (by decide) (by decide))).append (Bs.be8 _)).append (Bs.nums8 _)
      · intro x hx; simp at hx
theorem byteR_cons (m x : Int) (t : List Int) (h : x < m) : byteR m (x :: t, 0) = (x, (t, 0)) := by
  have e := take_app [x] t 1 rfl
  rw [List.singleton_append] at e
  rw [byteR, e]
  simp [rd]
  omega
structure LogOk (l : Log) : Prop where
  term : I64 l.term
  cmd : l.cmd.Ok
  nodes : ∀ n ∈ l.nodes, I64 n
/-- What is written of an entry is read. -/
theorem getLog_ref (l : Log) (h : LogOk l) (hl : (enc l.cmd).length < 1099511627776) (hn : l.nodes.length < 1099511627776) (hr : (refLog l).2 = true) : getLog (refLog l).1 = (l, 0) := by
  have key : logR ((refLog l).1, 0) = (l, ([], 0)) := by
    unfold refLog at hr ⊢
    by_cases h0 : l.kind = 0
    · rw [if_pos h0] at hr ⊢
      simp only [Bool.and_eq_true, decide_eq_true_eq] at hr
      obtain ⟨hz, hk⟩ := hr
      have hcz := (none_iff l.cmd h.cmd hl).1 hz
      have hnz := List.eq_nil_of_length_eq_zero hk
      unfold logR
      simp only [numR_be8 _ h.term, byteR_cons 3 0 [] (by decide)]
      cases l
      simp_all
    · rw [if_neg h0] at hr ⊢
      by_cases h1 : l.kind = 1
      · rw [if_pos h1] at hr ⊢
        simp only [decide_eq_true_eq] at hr
        have hnz := List.eq_nil_of_length_eq_zero hr
        have hd := logR_enc l.term h.term l.cmd h.cmd (by omega) []
        rw [List.append_nil] at hd
        dsimp only
        rw [hd]
        cases l
        simp_all
      · rw [if_neg h1] at hr ⊢
        by_cases h2 : l.kind = 2
        · rw [if_pos h2] at hr ⊢
          have hcz := (none_iff l.cmd h.cmd hl).1 hr
          have hm := many_enc numR be8 I64 (fun a ha t => numR_be8 a ha t) (fun a => by rw [be8_len]; omega) l.nodes h.nodes (by omega) []
          rw [List.append_nil] at hm
          have e : be8 l.term ++ [2] ++ be8 (l.nodes.length : Int) ++ nums8 l.nodes = be8 l.term ++ (2 :: (be8 (l.nodes.length : Int) ++ l.nodes.flatMap be8)) := by simp [nums8]
          dsimp only
          rw [e]
          unfold logR
          simp only [numR_be8 _ h.term, byteR_cons 3 2 _ (by decide), hm]
          cases l
          simp_all
        · rw [if_neg h2] at hr
          simp at hr
  rw [getLog, key]
  rfl


/-! ### A reader of messages sees no further than it reads -/
theorem good_numsR (k : Nat) : Cp.Good (numsR k) := by
  induction k with
  | zero => exact ⟨fun _ _ _ _ => rfl, fun _ => rfl⟩
  | succ k ih => exact Cp.Good.bind (G := fun a s => (a :: (numsR k s).1, (numsR k s).2)) Cp.Good.numR (fun a => Cp.Good.pure (fun l => a :: l) ih)
theorem good_textR : Cp.Good textR := Cp.Good.bind (G := fun n s => Cp.take s n) Cp.Good.raw (fun n => Cp.Good.take n)
theorem good_cntR : Cp.Good cntR := by
  have h : Cp.Good (fun s : St => (if (if ((raw s).2.1.length : Int) < (raw s).1 then ((raw s).2.1, (150 : Int)) else (raw s).2).2 = 150 then (0 : Int) else (raw s).1, if ((raw s).2.1.length : Int) < (raw s).1 then ((raw s).2.1, (150 : Int)) else (raw s).2)) := by
    refine Cp.Good.bind (G := fun n s => (if (if (s.1.length : Int) < n then (s.1, (150 : Int)) else s).2 = 150 then (0 : Int) else n, if (s.1.length : Int) < n then (s.1, (150 : Int)) else s)) Cp.Good.raw (fun n => ?_)
    refine ⟨fun p q b hb => ?_, fun p => ?_⟩
    · by_cases c : (p.length : Int) < n
      · simp only [c, if_true] at hb
        exact absurd rfl hb
      · have c2 : ¬ ((p ++ q).length : Int) < n := by rw [List.length_append]; omega
        simp only [c, c2, if_false]
    · by_cases c : (p.length : Int) < n
      · simp only [c, if_true]
      · simp only [c, if_false]
  exact h
def logsG (k : Nat) (s : St) : (List S38 × Bool) × St := (((logsGo k s).1, (logsGo k s).2.1), (logsGo k s).2.2)
theorem good_logsG (k : Nat) : Cp.Good (logsG k) := by
  induction k with
  | zero => exact ⟨fun _ _ _ _ => rfl, fun _ => rfl⟩
  | succ k ih =>
    have h : Cp.Good (fun s : St => if (textR s).2.2 = 150 then ((([] : List S38), false), (textR s).2) else ((ofLog (getLog (textR s).1).1 :: (logsG k (textR s).2).1.1, decide ((getLog (textR s).1).2 ≠ 0) || (logsG k (textR s).2).1.2), (logsG k (textR s).2).2)) := by
      refine Cp.Good.bind (G := fun x s => if s.2 = 150 then ((([] : List S38), false), s) else ((ofLog (getLog x).1 :: (logsG k s).1.1, decide ((getLog x).2 ≠ 0) || (logsG k s).1.2), (logsG k s).2)) good_textR (fun x => ?_)
      have h2 := Cp.Good.pure (fun l : List S38 × Bool => (ofLog (getLog x).1 :: l.1, decide ((getLog x).2 ≠ 0) || l.2)) ih
      refine ⟨fun p q b hb => ?_, fun p => by simp⟩
      by_cases c : b = 150
      · simp [c] at hb
      · simp only [c, if_false] at hb ⊢
        exact h2.1 p q b hb
    have e : logsG (k + 1) = fun s : St => if (textR s).2.2 = 150 then ((([] : List S38), false), (textR s).2) else ((ofLog (getLog (textR s).1).1 :: (logsG k (textR s).2).1.1, decide ((getLog (textR s).1).2 ≠ 0) || (logsG k (textR s).2).1.2), (logsG k (textR s).2).2) := by
      funext s
      rw [logsG, logsGo]
      split <;> rfl
    rw [e]
    exact h
theorem good_nodesGo (k : Nat) : Cp.Good (nodesGo k) := by
  induction k with
  | zero => exact ⟨fun _ _ _ _ => rfl, fun _ => rfl⟩
  | succ k ih =>
    have h : Cp.Good (fun s : St => if (numR s).2.2 = 150 then (([] : List Int), (numR s).2) else ((numR s).1 :: (nodesGo k (numR s).2).1, (nodesGo k (numR s).2).2)) := by
      refine Cp.Good.bind (G := fun x s => if s.2 = 150 then (([] : List Int), s) else (x :: (nodesGo k s).1, (nodesGo k s).2)) Cp.Good.numR (fun x => ?_)
      have h2 := Cp.Good.pure (fun l : List Int => x :: l) ih
      refine ⟨fun p q b hb => ?_, fun p => by simp⟩
      by_cases c : b = 150
      · simp [c] at hb
      · simp only [c, if_false] at hb ⊢
        exact h2.1 p q b hb
    exact h
abbrev Parts := List Int × List Int × List Int × List Int × (List S38 × Bool) × List Int × List Int × List Int
def r9 (k : List Int) (a : List Int) (o : List Int) (c : List Int) (l : List S38 × Bool) (d : List Int) (e : List Int) (s : St) : Parts × St := ((k, a, o, c, l, d, e, (textR s).1), (textR s).2)
theorem good_r9 (k : List Int) (a : List Int) (o : List Int) (c : List Int) (l : List S38 × Bool) (d : List Int) (e : List Int) : Cp.Good (r9 k a o c l d e) := Cp.Good.pure (fun t => ((k, a, o, c, l, d, e, t) : Parts)) good_textR
def r8 (k : List Int) (a : List Int) (o : List Int) (c : List Int) (l : List S38 × Bool) (d : List Int) (m : Int) (s : St) : Parts × St := r9 k a o c l d (nodesGo m.toNat s).1 (nodesGo m.toNat s).2
theorem good_r8 (k : List Int) (a : List Int) (o : List Int) (c : List Int) (l : List S38 × Bool) (d : List Int) (m : Int) : Cp.Good (r8 k a o c l d m) := Cp.Good.bind (G := fun e s => r9 k a o c l d e s) (good_nodesGo m.toNat) (fun e => good_r9 k a o c l d e)
def r7 (k : List Int) (a : List Int) (o : List Int) (c : List Int) (l : List S38 × Bool) (d : List Int) (s : St) : Parts × St := r8 k a o c l d (cntR s).1 (cntR s).2
theorem good_r7 (k : List Int) (a : List Int) (o : List Int) (c : List Int) (l : List S38 × Bool) (d : List Int) : Cp.Good (r7 k a o c l d) := Cp.Good.bind (G := fun m s => r8 k a o c l d m s) good_cntR (fun m => good_r8 k a o c l d m)
def r6 (k : List Int) (a : List Int) (o : List Int) (c : List Int) (l : List S38 × Bool) (s : St) : Parts × St := r7 k a o c l (numsR 2 s).1 (numsR 2 s).2
theorem good_r6 (k : List Int) (a : List Int) (o : List Int) (c : List Int) (l : List S38 × Bool) : Cp.Good (r6 k a o c l) := Cp.Good.bind (G := fun d s => r7 k a o c l d s) (good_numsR 2) (fun d => good_r7 k a o c l d)
def r5 (k : List Int) (a : List Int) (o : List Int) (c : List Int) (n : Int) (s : St) : Parts × St := r6 k a o c (logsG n.toNat s).1 (logsG n.toNat s).2
theorem good_r5 (k : List Int) (a : List Int) (o : List Int) (c : List Int) (n : Int) : Cp.Good (r5 k a o c n) := Cp.Good.bind (G := fun l s => r6 k a o c l s) (good_logsG n.toNat) (fun l => good_r6 k a o c l)
def r4 (k : List Int) (a : List Int) (o : List Int) (c : List Int) (s : St) : Parts × St := r5 k a o c (cntR s).1 (cntR s).2
theorem good_r4 (k : List Int) (a : List Int) (o : List Int) (c : List Int) : Cp.Good (r4 k a o c) := Cp.Good.bind (G := fun n s => r5 k a o c n s) good_cntR (fun n => good_r5 k a o c n)
def r3 (k : List Int) (a : List Int) (o : List Int) (s : St) : Parts × St := r4 k a o (numsR 2 s).1 (numsR 2 s).2
theorem good_r3 (k : List Int) (a : List Int) (o : List Int) : Cp.Good (r3 k a o) := Cp.Good.bind (G := fun c s => r4 k a o c s) (good_numsR 2) (fun c => good_r4 k a o c)
def r2 (k : List Int) (a : List Int) (s : St) : Parts × St := r3 k a (Cp.take s 1).1 (Cp.take s 1).2
theorem good_r2 (k : List Int) (a : List Int) : Cp.Good (r2 k a) := Cp.Good.bind (G := fun o s => r3 k a o s) (Cp.Good.take 1) (fun o => good_r3 k a o)
def r1 (k : List Int) (s : St) : Parts × St := r2 k (numsR 5 s).1 (numsR 5 s).2
theorem good_r1 (k : List Int) : Cp.Good (r1 k) := Cp.Good.bind (G := fun a s => r2 k a s) (good_numsR 5) (fun a => good_r2 k a)
def r0 (s : St) : Parts × St := r1 (Cp.take s 1).1 (Cp.take s 1).2
theorem good_r0 : Cp.Good (r0) := Cp.Good.bind (G := fun k s => r1 k s) (Cp.Good.take 1) (fun k => good_r1 k)
/-- All that is read, and what is left. -/
def rpcR (s : St) : Parts × St := r0 s
theorem good_rpcR : Cp.Good rpcR := good_r0
theorem rpcR_g (xs : List Int) : rpcR (xs, 0) = (((g1 xs).1, (g2 xs).1, (g3 xs).1, (g4 xs).1, ((g6 xs).1, (g6 xs).2.1), (g7 xs).1, (g9 xs).1, (g10 xs).1), (g10 xs).2) := by
  simp only [rpcR, r0, r1, r2, r3, r4, r5, r6, r7, r8, r9, g10, g9, g8, g7, g6, g5, g4, g3, g2, g1, logsG]

/-! ### What is written is read -/
theorem numsR_enc (l : List Int) (h : ∀ n ∈ l, I64 n) (t : List Int) : numsR l.length (nums8 l ++ t, 0) = (l, (t, 0)) := by
  induction l with
  | nil => rfl
  | cons a l ih =>
    have e : nums8 (a :: l) ++ t = be8 a ++ (nums8 l ++ t) := by rw [nums8_cons, List.append_assoc]
    rw [e, List.length_cons, numsR, numR_be8 a (h a (by simp)), ih (fun x hx => h x (by simp [hx]))]
theorem nodesGo_enc (l : List Int) (h : ∀ n ∈ l, I64 n) (t : List Int) : nodesGo l.length (nums8 l ++ t, 0) = (l, (t, 0)) := by
  induction l with
  | nil => rfl
  | cons a l ih =>
    have e : nums8 (a :: l) ++ t = be8 a ++ (nums8 l ++ t) := by rw [nums8_cons, List.append_assoc]
    rw [e, List.length_cons, nodesGo, numR_be8 a (h a (by simp)), ih (fun x hx => h x (by simp [hx]))]
    simp
theorem textR_enc (xs : List Int) (hl : xs.length < 140737488355328) (t : List Int) : textR (be8 (xs.length : Int) ++ (xs ++ t), 0) = (xs, (t, 0)) := by
  rw [textR, raw_be8]
  have : (xs.length : Int) % 18446744073709551616 = xs.length := by omega
  rw [this, take_app _ _ _ rfl]
theorem cntR_enc (n : Nat) (t : List Int) (hn : n < 140737488355328) (ht : n ≤ t.length) : cntR (be8 (n : Int) ++ t, 0) = ((n : Int), (t, 0)) := by
  have hm : (n : Int) % 18446744073709551616 = n := by omega
  have hc : counted (be8 (n : Int) ++ t, 0) = (t, 0) := by
    rw [counted, raw_be8, hm]
    dsimp only
    rw [if_neg (by omega)]
  rw [cntR, hc, raw_be8, hm]
  simp
/-- What every entry of a machine meets, and is small enough. -/
structure XOk (x : S38) : Prop where
  ok : LogOk (logOf x)
  len : (enc (logOf x).cmd).length < 1099511627776
  nodes : x.f3.length < 1099511627776
theorem ofLog_logOf (x : S38) : ofLog (logOf x) = x := rfl
theorem logBytes_len (x : S38) (h : XOk x) : (logBytes x).length < 140737488355328 := by
  have h1 := refLog_len (logOf x)
  have h2 := h.len
  have h3 := h.nodes
  have h4 : (logOf x).nodes.length = x.f3.length := rfl
  unfold logBytes
  rw [putLog_ref]
  split
  · simp only [Option.getD_some]; omega
  · simp
theorem getLog_bytes (x : S38) (h : XOk x) (hg : logGood x = true) : getLog (logBytes x) = (logOf x, 0) := by
  unfold logGood at hg
  rw [putLog_ref] at hg
  have hr : (refLog (logOf x)).2 = true := by
    cases e : (refLog (logOf x)).2
    · rw [e] at hg; simp at hg
    · rfl
  have e : logBytes x = (refLog (logOf x)).1 := by unfold logBytes; rw [putLog_ref, if_pos hr]; rfl
  rw [e]
  exact getLog_ref (logOf x) h.ok h.len h.nodes hr
theorem logsGo_enc (l : List S38) (h : ∀ x ∈ l, XOk x) (hg : l.all logGood = true) (t : List Int) : logsGo l.length (l.flatMap logItem ++ t, 0) = (l, false, (t, 0)) := by
  induction l with
  | nil => rfl
  | cons a l ih =>
    have hga : logGood a = true ∧ l.all logGood = true := by simpa using hg
    have e : (a :: l).flatMap logItem ++ t = be8 ((logBytes a).length : Int) ++ (logBytes a ++ (l.flatMap logItem ++ t)) := by simp [logItem]
    have ha := h a (by simp)
    rw [e, List.length_cons, logsGo, textR_enc _ (logBytes_len a ha), ih (fun x hx => h x (by simp [hx])) hga.2, getLog_bytes a ha hga.1, ofLog_logOf]
    simp
/-- What every message of a machine meets, and is small enough. -/
structure ROk (m : Rpc) : Prop where
  src : I64 m.src
  dst : I64 m.dst
  term : I64 m.term
  at_ : I64 m.at_
  logTerm : I64 m.logTerm
  commit : I64 m.commit
  read : I64 m.read
  snapAt : I64 m.snapAt
  snapTerm : I64 m.snapTerm
  nodes : ∀ n ∈ m.nodes, I64 n
  logs : ∀ x ∈ m.logs, XOk x
  len : (encRpc m).length < 68719476736
theorem item_ge (l : List S38) : 8 * l.length ≤ (l.flatMap logItem).length := by
  induction l with
  | nil => simp
  | cons a l ih => simp only [List.flatMap_cons, List.length_append, List.length_cons, logItem, be8_len]; omega
theorem enc_len' (m : Rpc) : (encRpc m).length = 98 + (m.logs.flatMap logItem).length + 8 * m.nodes.length + m.data.size := by
  simp only [encRpc, List.length_append, List.length_singleton, txt_len, nums8_len, List.length_cons, List.length_nil]
  omega
theorem rpcR_enc (m : Rpc) (h : ROk m) (hg : m.logs.all logGood = true) (t : List Int) : rpcR (encRpc m ++ t, 0) = (([m.kind], [m.src, m.dst, m.term, m.at_, m.logTerm], [okByte m.ok], [m.commit, m.read], (m.logs, false), [m.snapAt, m.snapTerm], m.nodes, bytesOf m.data), (t, 0)) := by
  have hl := h.len
  rw [enc_len'] at hl
  have hi := item_ge m.logs
  have n3 : ∀ a b c : Int, nums8 [a, b, c] = nums8 [a, b] ++ be8 c := fun a b c => by simp [nums8]
  have e : encRpc m ++ t = [m.kind] ++ (nums8 [m.src, m.dst, m.term, m.at_, m.logTerm] ++ ([okByte m.ok] ++ (nums8 [m.commit, m.read] ++ (be8 (m.logs.length : Int) ++ (m.logs.flatMap logItem ++ (nums8 [m.snapAt, m.snapTerm] ++ (be8 (m.nodes.length : Int) ++ (nums8 m.nodes ++ (be8 (m.data.size : Int) ++ (bytesOf m.data ++ t)))))))))) := by
    simp only [encRpc, n3, txt, List.append_assoc]
  have h5 := fun t => numsR_enc [m.src, m.dst, m.term, m.at_, m.logTerm] (fun n hn => by simp at hn; rcases hn with rfl | rfl | rfl | rfl | rfl; exact h.src; exact h.dst; exact h.term; exact h.at_; exact h.logTerm) t
  have h2 := fun t => numsR_enc [m.commit, m.read] (fun n hn => by simp at hn; rcases hn with rfl | rfl; exact h.commit; exact h.read) t
  have h2' := fun t => numsR_enc [m.snapAt, m.snapTerm] (fun n hn => by simp at hn; rcases hn with rfl | rfl; exact h.snapAt; exact h.snapTerm) t
  simp only [List.length_cons, List.length_nil, Nat.zero_add, Nat.reduceAdd] at h5 h2 h2'
  have hc := fun t ht => cntR_enc m.logs.length t (by omega) ht
  have hc' := fun t ht => cntR_enc m.nodes.length t (by omega) ht
  have hL : ∀ t, logsG m.logs.length (m.logs.flatMap logItem ++ t, 0) = ((m.logs, false), (t, 0)) := fun t => by rw [logsG, logsGo_enc m.logs h.logs hg]
  have ht := fun t => textR_enc (bytesOf m.data) (by rw [bytesOf_length]; omega) t
  rw [bytesOf_length] at ht
  rw [e]
  rw [rpcR, r0, take_app [m.kind] _ 1 rfl, r1, h5, r2, take_app [okByte m.ok] _ 1 rfl, r3, h2, r4, hc _ (by simp only [List.length_append]; omega), r5]
  simp only [Int.toNat_natCast, hL]
  rw [r6, h2', r7, hc' _ (by simp only [List.length_append, nums8_len]; omega), r8]
  simp only [Int.toNat_natCast, nodesGo_enc m.nodes h.nodes]
  rw [r9, ht]
end Go.Proofs.Ytjhcbggpbfejgaa.Mz
