/- What MsgPuts computes is true. -/
import Derived.Test.YtjhcbggpbfejgaaRefMsgPuts
import Derived.Test.YtjhcbggpbfejgaaXMsgPutsx5
namespace Go.Proofs.Ytjhcbggpbfejgaa.XMsgPuts
open Go.RowKit Go.Proofs.YtjhcbggpbfejgaaW.PrintWords Go.Proofs.YtjhcbggpbfejgaaW.PrintLast Go.Proofs.YtjhcbggpbfejgaaW.PrintMore
open Go.Proofs.Ytjhcbggpbfejgaa.Cp Go.Proofs.Ytjhcbggpbfejgaa.Mk Go.Proofs.Ytjhcbggpbfejgaa.Mq Go.Proofs.Ytjhcbggpbfejgaa.Ms Go.Proofs.Ytjhcbggpbfejgaa.Mz
set_option linter.unusedVariables false
set_option linter.unusedSimpArgs false

theorem small_go (logs : List S38) (hn : logs.length < 1099511627776) : ∀ (q j : Nat) (y : Int) (k : Nat), q + j = logs.length → ∃ b, calepinlaw22_small.l0 (k + 1 + q) y logs (logs.length : Int) (j : Int) = some b := by
  intro q
  induction q with
  | zero =>
    intro j y k hm
    rw [show k + 1 + 0 = k + 1 by omega, calepinlaw22_small.l0, if_neg (by omega)]
    exact ⟨_, rfl⟩
  | succ q ih =>
    intro j y k hm
    have ew : wrap64 ((j : Int) + 1) = ((j + 1 : Nat) : Int) := by unfold wrap64; omega
    rw [show k + 1 + (q + 1) = (k + 1 + q) + 1 by omega, calepinlaw22_small.l0, if_pos (by omega), if_pos (by omega), if_pos (by omega), ew]
    split
    · exact ⟨_, rfl⟩
    · exact ih (j + 1) _ k (by omega)
theorem small_f (k : Nat) (m : Rpc) (hn : m.logs.length < 1099511627776) (hk : m.logs.length < k) : ∃ b, calepinlaw22_small.f k m.kind m.src m.dst m.term m.at_ m.logTerm m.ok m.commit m.read m.logs m.snapAt m.snapTerm m.nodes m.data = some b := by
  have h := small_go m.logs hn m.logs.length 0 (wrap64 ((m.nodes.length : Int) + (m.data.size : Int))) (k - m.logs.length - 1) (by omega)
  rw [show k - m.logs.length - 1 + 1 + m.logs.length = k by omega, Int.natCast_zero] at h
  exact h
theorem getRpc_enc (m : Rpc) (h : ROk m) (hk : 1 ≤ m.kind ∧ m.kind ≤ 6) (hg : m.logs.all logGood = true) : getRpc (encRpc m) = (m, 0) := by
  have he := rpcR_enc m h hg []
  rw [List.append_nil, rpcR_g] at he
  simp only [Prod.mk.injEq] at he
  obtain ⟨⟨h1, h2, h3, h4, ⟨h6, h6b⟩, h7, h9, h10⟩, h11⟩ := he
  have e0 : gErr (encRpc m) = 0 := by
    unfold gErr
    rw [h11, h6b, h3, h1]
    have a1 : rd [okByte m.ok] 0 = okByte m.ok := rfl
    have a2 : rd [m.kind] 0 = m.kind := rfl
    have a3 : okByte m.ok ≤ 1 := by unfold okByte; split <;> decide
    rw [a1, a2]
    simp only [List.length_nil, Bool.false_eq_true, false_or]
    rw [if_neg (by decide), if_neg (by decide), if_neg (by omega)]
  unfold getRpc
  rw [if_pos e0]
  unfold gRpc
  rw [h1, h2, h3, h4, h6, h7, h9, h10, str_bytesOf]
  obtain ⟨kind, src, dst, term, at_, logTerm, ok, commit, read, logs, snapAt, snapTerm, nodes, data⟩ := m
  cases ok <;> rfl
theorem good_ref (x : S38) : logGood x = refOk x := by
  unfold logGood refOk
  rw [putLog_ref]
  cases (refLog (logOf x)).2 <;> rfl
theorem item_ref (x : S38) (h : refOk x = true) : refItem x = logItem x := by
  have e : logBytes x = (refLog (logOf x)).1 := by
    unfold logBytes
    rw [putLog_ref, if_pos (show (refLog (logOf x)).2 = true from h)]
    rfl
  rw [logItem, e, refItem]
theorem items_ref (l : List S38) (h : l.all refOk = true) : l.flatMap refItem = l.flatMap logItem := by
  induction l with
  | nil => rfl
  | cons a l ih =>
    have h2 : refOk a = true ∧ l.all refOk = true := by simpa using h
    rw [List.flatMap_cons, List.flatMap_cons, item_ref a h2.1, ih h2.2]
theorem all_ref (l : List S38) : l.all logGood = l.all refOk := by
  have e : logGood = refOk := funext good_ref
  rw [e]

/-- All that the law asks, of a message of which all is small. -/
theorem f_true (k : Nat) (m : Rpc) (h : ROk m) (hx : ∀ x ∈ m.logs, x.f2.f7.length ≤ k ∧ x.f3.length ≤ k) (hs : ∀ x ∈ m.logs, (enc (logOf x).cmd).length + 8 * x.f3.length < 1099511627776) (hl : (refRpc m).length < 1099511627776) :
    calepinlaw22_MsgPuts.f (k + 32 + m.nodes.length + m.logs.length) m.kind m.src m.dst m.term m.at_ m.logTerm m.ok m.commit m.read m.logs m.snapAt m.snapTerm m.nodes m.data = some true := by
  have hen := enc_len' m
  have hlen := h.len
  have hi := item_ge m.logs
  have hbf := bytes_f k m (fun x hm => ⟨h.logs x hm, hx x hm⟩) hl (by omega)
  obtain ⟨b, hb⟩ := small_f (k + 32 + m.nodes.length + m.logs.length) m (by omega) (by omega)
  have hput : msg_Put.f m.kind m.src m.dst m.term m.at_ m.logTerm m.ok m.commit m.read m.logs m.snapAt m.snapTerm m.nodes m.data = some ((putRpc m).getD [], if (putRpc m).isSome then 0 else 31) := by
    unfold msg_Put.f
    exact if_pos ⟨by show (encRpc m).length < _; omega, fun x hm => by rw [nums8_len]; exact hs x hm⟩
  unfold calepinlaw22_MsgPuts.f
  rw [show calepinlaw22_first.f = some true from rfl, Option.bind_some, if_pos rfl, hb, Option.bind_some]
  cases b
  · rfl
  · rw [if_pos rfl, hput, Option.bind_some, hbf, Option.bind_some]
    by_cases hg : 1 ≤ m.kind ∧ m.kind ≤ 6 ∧ m.logs.all logGood = true
    · have hp : putRpc m = some (encRpc m) := by unfold putRpc; rw [if_pos hg]
      have hr : refRpc m = encRpc m := by
        unfold refRpc encRpc
        rw [items_ref m.logs (by rw [← all_ref]; exact hg.2.2), show m.kind % 256 = m.kind by omega]
      have hgood : (decide (1 ≤ m.kind ∧ m.kind ≤ 6) && m.logs.all refOk) = true := by
        rw [← all_ref, hg.2.2]
        simp [hg.1, hg.2.1]
      have hget : msg_Get.f (encRpc m) = some (m.kind, m.src, m.dst, m.term, m.at_, m.logTerm, m.ok, m.commit, m.read, m.logs, m.snapAt, m.snapTerm, m.nodes, m.data, 0) := by
        unfold msg_Get.f
        rw [if_pos ⟨by rw [List.all_eq_true]; intro y hy; have := Mf.Bs.encRpc m (by omega) y hy; simp; exact this, by omega⟩, getRpc_enc m h ⟨hg.1, hg.2.1⟩ hg.2.2]
      rw [hgood] at hbf ⊢
      rw [hp]
      simp only [Option.getD_some, Option.isSome_some, if_true]
      rw [hget, Option.bind_some, hbf, Option.bind_some, hr]
      simp
    · have hp : putRpc m = none := by unfold putRpc; rw [if_neg hg]
      have hgood : (decide (1 ≤ m.kind ∧ m.kind ≤ 6) && m.logs.all refOk) = false := by
        rw [← all_ref]
        by_cases c : 1 ≤ m.kind ∧ m.kind ≤ 6
        · have : m.logs.all logGood = false := by
            cases e : m.logs.all logGood
            · rfl
            · exact absurd ⟨c.1, c.2, e⟩ hg
          rw [this, Bool.and_false]
        · rw [decide_eq_false c, Bool.false_and]
      rw [hgood, hp]
      simp
end Go.Proofs.Ytjhcbggpbfejgaa.XMsgPuts
