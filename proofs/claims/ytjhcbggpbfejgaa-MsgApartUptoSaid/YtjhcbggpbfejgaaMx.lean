/- Plain laws of messages that differ in one number: unlike bytes of one length; no program in it. -/
import Derived.Test.YtjhcbggpbfejgaaLawMsgPuts
namespace Go.Proofs.Ytjhcbggpbfejgaa.Mx
open Go.RowKit Go.Proofs.YtjhcbggpbfejgaaW.PrintWords
open Go.Proofs.Ytjhcbggpbfejgaa.Cp Go.Proofs.Ytjhcbggpbfejgaa.Mk Go.Proofs.Ytjhcbggpbfejgaa.Mq Go.Proofs.Ytjhcbggpbfejgaa.Ms Go.Proofs.Ytjhcbggpbfejgaa.Mz
open Go.Proofs.Ytjhcbggpbfejgaa.Mp (rpcC)
open Go.Proofs.Ytjhcbggpbfejgaa.XMsgPuts (getRpc_enc)
set_option linter.unusedVariables false

/-- The numbers of a message, in the order in which the law has them. -/
def getF (m : Rpc) : Nat → Int
  | 0 => m.src | 1 => m.dst | 2 => m.term | 3 => m.at_ | 4 => m.logTerm | 5 => m.commit | 6 => m.read | 7 => m.snapAt | _ => m.snapTerm
def setF (m : Rpc) (v : Int) : Nat → Rpc
  | 0 => { m with src := v } | 1 => { m with dst := v } | 2 => { m with term := v } | 3 => { m with at_ := v } | 4 => { m with logTerm := v } | 5 => { m with commit := v } | 6 => { m with read := v } | 7 => { m with snapAt := v } | _ => { m with snapTerm := v }
abbrev offs : List Nat := [1, 2, 3, 4, 5, 7, 8, 10, 11]
theorem cell_f (m : Rpc) (A : Option Addr) (cap : Nat) (A2 : Option Addr) (cap2 : Nat) (k : Nat) (hk : k < 9) (o : Nat) (ho : offs[k]'hk = o) : (rpcC m A cap A2 cap2)[o]? = some (.int .i64 (getF m k)) := by
  subst ho
  match k, hk with
  | 0, _ => rfl
  | 1, _ => rfl
  | 2, _ => rfl
  | 3, _ => rfl
  | 4, _ => rfl
  | 5, _ => rfl
  | 6, _ => rfl
  | 7, _ => rfl
  | 8, _ => rfl
theorem cell_s (m : Rpc) (A : Option Addr) (cap : Nat) (A2 : Option Addr) (cap2 : Nat) (v : Int) (k : Nat) (hk : k < 9) (o : Nat) (ho : offs[k]'hk = o) : (rpcC m A cap A2 cap2).setIfInBounds o (.int .i64 v) = rpcC (setF m v k) A cap A2 cap2 := by
  subst ho
  match k, hk with
  | 0, _ => rfl
  | 1, _ => rfl
  | 2, _ => rfl
  | 3, _ => rfl
  | 4, _ => rfl
  | 5, _ => rfl
  | 6, _ => rfl
  | 7, _ => rfl
  | 8, _ => rfl
theorem set_same (m : Rpc) (v : Int) (k : Nat) (hk : k < 9) : (setF m v k).kind = m.kind ∧ (setF m v k).ok = m.ok ∧ (setF m v k).logs = m.logs ∧ (setF m v k).nodes = m.nodes ∧ (setF m v k).data = m.data ∧ getF (setF m v k) k = v := by
  match k, hk with
  | 0, _ => exact ⟨rfl, rfl, rfl, rfl, rfl, rfl⟩
  | 1, _ => exact ⟨rfl, rfl, rfl, rfl, rfl, rfl⟩
  | 2, _ => exact ⟨rfl, rfl, rfl, rfl, rfl, rfl⟩
  | 3, _ => exact ⟨rfl, rfl, rfl, rfl, rfl, rfl⟩
  | 4, _ => exact ⟨rfl, rfl, rfl, rfl, rfl, rfl⟩
  | 5, _ => exact ⟨rfl, rfl, rfl, rfl, rfl, rfl⟩
  | 6, _ => exact ⟨rfl, rfl, rfl, rfl, rfl, rfl⟩
  | 7, _ => exact ⟨rfl, rfl, rfl, rfl, rfl, rfl⟩
  | 8, _ => exact ⟨rfl, rfl, rfl, rfl, rfl, rfl⟩
theorem set_len (m : Rpc) (v : Int) (k : Nat) (hk : k < 9) : (encRpc (setF m v k)).length = (encRpc m).length := by
  obtain ⟨_, _, h3, h4, h5, _⟩ := set_same m v k hk
  rw [enc_len', enc_len', h3, h4, h5]
theorem set_ok (m : Rpc) (v : Int) (k : Nat) (hk : k < 9) (h : ROk m) (hv : I64 v) : ROk (setF m v k) := by
  have hl : (encRpc (setF m v k)).length < 68719476736 := by rw [set_len m v k hk]; exact h.len
  obtain ⟨a1, a2, a3, a4, a5, a6, a7, a8, a9, a10, a11, _⟩ := h
  have hk' : k = 0 ∨ k = 1 ∨ k = 2 ∨ k = 3 ∨ k = 4 ∨ k = 5 ∨ k = 6 ∨ k = 7 ∨ k = 8 := by omega
  rcases hk' with rfl | rfl | rfl | rfl | rfl | rfl | rfl | rfl | rfl
  · exact { src := hv, dst := a2, term := a3, at_ := a4, logTerm := a5, commit := a6, read := a7, snapAt := a8, snapTerm := a9, nodes := a10, logs := a11, len := hl }
  · exact { src := a1, dst := hv, term := a3, at_ := a4, logTerm := a5, commit := a6, read := a7, snapAt := a8, snapTerm := a9, nodes := a10, logs := a11, len := hl }
  · exact { src := a1, dst := a2, term := hv, at_ := a4, logTerm := a5, commit := a6, read := a7, snapAt := a8, snapTerm := a9, nodes := a10, logs := a11, len := hl }
  · exact { src := a1, dst := a2, term := a3, at_ := hv, logTerm := a5, commit := a6, read := a7, snapAt := a8, snapTerm := a9, nodes := a10, logs := a11, len := hl }
  · exact { src := a1, dst := a2, term := a3, at_ := a4, logTerm := hv, commit := a6, read := a7, snapAt := a8, snapTerm := a9, nodes := a10, logs := a11, len := hl }
  · exact { src := a1, dst := a2, term := a3, at_ := a4, logTerm := a5, commit := hv, read := a7, snapAt := a8, snapTerm := a9, nodes := a10, logs := a11, len := hl }
  · exact { src := a1, dst := a2, term := a3, at_ := a4, logTerm := a5, commit := a6, read := hv, snapAt := a8, snapTerm := a9, nodes := a10, logs := a11, len := hl }
  · exact { src := a1, dst := a2, term := a3, at_ := a4, logTerm := a5, commit := a6, read := a7, snapAt := hv, snapTerm := a9, nodes := a10, logs := a11, len := hl }
  · exact { src := a1, dst := a2, term := a3, at_ := a4, logTerm := a5, commit := a6, read := a7, snapAt := a8, snapTerm := hv, nodes := a10, logs := a11, len := hl }
theorem xor_i64 (x y : Int) : I64 (bits .xor .i64 x y) := by
  unfold bits
  have e : ∀ n : Nat, I64 (IntKind.i64.wrap (n : Int)) := by
    intro n
    simp only [IntKind.wrap, IntKind.signed, IntKind.bits]
    unfold I64
    by_cases c : (n : Int) % 2 ^ 64 ≥ 2 ^ (64 - 1)
    · simp only [c, decide_true, Bool.and_self, if_true]; omega
    · simp only [c, decide_false, Bool.and_false, Bool.false_eq_true, if_false]; omega
  exact e _
theorem set_put {m : Rpc} {xs : List Int} (h : putRpc m = some xs) (v : Int) (k : Nat) (hk : k < 9) : putRpc (setF m v k) = some (encRpc (setF m v k)) := by
  obtain ⟨h1, h2, h3, h4⟩ := Mc.put_enc h
  obtain ⟨s1, _, s3, _⟩ := set_same m v k hk
  unfold putRpc
  rw [s1, s3, if_pos ⟨h3, h4, h2⟩]
theorem enc_ne {m n : Rpc} (hm : ROk m) (hn : ROk n) (km : 1 ≤ m.kind ∧ m.kind ≤ 6) (kn : 1 ≤ n.kind ∧ n.kind ≤ 6) (gm : m.logs.all logGood = true) (gn : n.logs.all logGood = true) (h : m ≠ n) : encRpc m ≠ encRpc n := by
  intro e
  have h1 := getRpc_enc m hm km gm
  rw [e, getRpc_enc n hn kn gn] at h1
  exact h (congrArg Prod.fst h1).symm
/-- One number turned: unlike bytes. -/
theorem turn_ne {m : Rpc} {xs : List Int} (hm : ROk m) (h : putRpc m = some xs) (t : Int) (ht : I64 t) (h0 : t ≠ 0) (k : Nat) (hk : k < 9) : strOfNums xs ≠ strOfNums (encRpc (setF m (bits .xor .i64 (getF m k) t) k)) := by
  obtain ⟨h1, h2, h3, h4⟩ := Mc.put_enc h
  obtain ⟨s1, _, s3, _, _, s6⟩ := set_same m (bits .xor .i64 (getF m k) t) k hk
  intro e
  rw [h1] at e
  have e2 := (str_inj (Mf.Bs.encRpc m (by omega)) (Mf.Bs.encRpc _ (by rw [s1]; omega))).1 e
  refine enc_ne hm (set_ok m _ k hk hm (xor_i64 _ _)) ⟨h3, h4⟩ (by rw [s1]; exact ⟨h3, h4⟩) h2 (by rw [s3]; exact h2) (fun e3 => ?_) e2
  have e4 := congrArg (fun z => getF z k) e3
  simp only [s6] at e4
  exact xor_ne (getF m k) t (by obtain ⟨t1, t2⟩ := ht; omega) e4.symm
end Go.Proofs.Ytjhcbggpbfejgaa.Mx
