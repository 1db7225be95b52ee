import Derived.Test.YtjhcbggpbfejgaaGeCmd
namespace Go.Proofs.Ytjhcbggpbfejgaa.XCodecGets
open Go.RowKit Go.Proofs.zjt.zjq Go.Proofs.zjt.zjr Go.Proofs.zjt.zjs
open Go.Proofs.Ytjhcbggpbfejgaa.Cp
set_option linter.unusedVariables false
set_option linter.unusedSimpArgs false
section
variable {B : List Int} (hB : Bs B) (hl : B.length ≤ 1099511627776)
include hB hl
theorem tlog_go (n : Nat) (c : Cmd) (x0 x1 : Int) (hn : n ≤ 1099511627776) (k : Nat) : ∀ (m i : Nat) (at_ : Int) (sh fo : Bool) (ns : List Int), i + m = n → 0 ≤ at_ → at_ ≤ B.length → ns.length = i → ∃ (a : Int) (s f : Bool),
    zaw.l0 (k + 11 + m) (n : Int) (i : Int) B at_ sh fo x0 x1 c.op c.book c.name c.data c.mat c.non c.token c.names c.at_ c.session c.seq ns
      = some (x0, x1, c.op, c.book, c.name, c.data, c.mat, c.non, c.token, c.names, c.at_, c.session, c.seq, ns ++ (manyGo numR m (st B at_ sh fo)).1, a, s, f) ∧ 0 ≤ a ∧ a ≤ B.length ∧ st B a s f = (manyGo numR m (st B at_ sh fo)).2 := by
  intro m
  induction m with
  | zero =>
    intro i at_ sh fo ns hi h0 h1 hns
    refine ⟨at_, sh, fo, ?_, h0, h1, rfl⟩
    rw [show k + 11 + 0 = (k + 10) + 1 by omega, zaw.l0, if_neg (by omega)]
    simp [manyGo]
  | succ m ih =>
    intro i at_ sh fo ns hi h0 h1 hns
    rw [show k + 11 + (m + 1) = (k + 11 + m) + 1 by omega]
    cases sh with
    | true =>
      have hm : manyGo numR (m + 1) (st B at_ true fo) = ([], st B at_ true fo) := by rw [manyGo, if_pos (show (st B at_ true fo).2 = 150 from rfl)]
      rw [hm]
      refine ⟨at_, true, fo, ?_, h0, h1, rfl⟩
      rw [zaw.l0, if_pos (by omega), if_pos rfl]
      simp
    | false =>
      obtain ⟨a, s, f, e, a0, a1, hs⟩ := zdv B hB hl (k + 1 + m) at_ false fo h0 h1
      have hm : manyGo numR (m + 1) (st B at_ false fo) = (wrap64 (raw (st B at_ false fo)).1 :: (manyGo numR m (st B a s f)).1, (manyGo numR m (st B a s f)).2) := by
        rw [manyGo, if_neg (ziw _ _ _), hs]
        rfl
      obtain ⟨a', s', f', e', r⟩ := ih (i + 1) a s f (ns ++ [wrap64 (raw (st B at_ false fo)).1]) (by omega) a0 a1 (by simp [hns])
      rw [hm]
      refine ⟨a', s', f', ?_, r⟩
      rw [zaw.l0, if_pos (by omega), if_neg (by simp), show k + 11 + m = k + 1 + m + 10 by omega, e, Option.bind_some, if_pos (by omega), w64s (a := (i : Int) + 1) (by omega) (by omega), show k + 1 + m + 10 = k + 11 + m by omega]
      dsimp only
      rw [show ((i : Int) + 1) = ((i + 1 : Nat) : Int) by omega, e']
      simp
theorem log_s (k : Nat) (hk : B.length ≤ k) (at_ : Int) (sh fo : Bool) (h0 : 0 ≤ at_) (h1 : at_ ≤ B.length) : ∃ (a : Int) (s f : Bool),
    zaw.f (k + 12) B at_ sh fo = some ((logR (st B at_ sh fo)).1.term, (logR (st B at_ sh fo)).1.kind, (logR (st B at_ sh fo)).1.cmd.op, (logR (st B at_ sh fo)).1.cmd.book, (logR (st B at_ sh fo)).1.cmd.name, (logR (st B at_ sh fo)).1.cmd.data, (logR (st B at_ sh fo)).1.cmd.mat, (logR (st B at_ sh fo)).1.cmd.non, (logR (st B at_ sh fo)).1.cmd.token, (logR (st B at_ sh fo)).1.cmd.names, (logR (st B at_ sh fo)).1.cmd.at_, (logR (st B at_ sh fo)).1.cmd.session, (logR (st B at_ sh fo)).1.cmd.seq, (logR (st B at_ sh fo)).1.nodes, a, s, f) ∧ 0 ≤ a ∧ a ≤ B.length ∧ st B a s f = (logR (st B at_ sh fo)).2 := by
  obtain ⟨a0, s0, f0, e0, l0, r0, t0⟩ := zdv B hB hl (k + 2) at_ sh fo h0 h1
  obtain ⟨a1, s1, f1, e1, l1, r1, t1⟩ := zjg B hB hl 3 a0 s0 f0 l0 r0
  have hbd := zhx 3 (st B a0 s0 f0) (hB.drop _)
  have q0 : (numR (st B at_ sh fo)).2 = st B a0 s0 f0 := t0.symm
  have v0 : (numR (st B at_ sh fo)).1 = wrap64 (raw (st B at_ sh fo)).1 := rfl
  have hlog : logR (st B at_ sh fo) = if (byteR 3 (st B a0 s0 f0)).1 = 1 then (⟨wrap64 (raw (st B at_ sh fo)).1, (byteR 3 (st B a0 s0 f0)).1, (cmdR (st B a1 s1 f1)).1, []⟩, (cmdR (st B a1 s1 f1)).2)
      else if (byteR 3 (st B a0 s0 f0)).1 = 2 then (⟨wrap64 (raw (st B at_ sh fo)).1, (byteR 3 (st B a0 s0 f0)).1, zeroCmd, (many numR (st B a1 s1 f1)).1⟩, (many numR (st B a1 s1 f1)).2)
      else (⟨wrap64 (raw (st B at_ sh fo)).1, (byteR 3 (st B a0 s0 f0)).1, zeroCmd, []⟩, st B a1 s1 f1) := by
    unfold logR
    simp only [q0, v0, ← t1]
  rw [hlog]
  unfold zaw.f
  rw [show k + 12 = k + 2 + 10 by omega, e0, Option.bind_some]
  dsimp only
  rw [e1, Option.bind_some]
  dsimp only
  rw [w64s (a := (byteR 3 (st B a0 s0 f0)).1) (by omega) (by omega)]
  by_cases k1 : (byteR 3 (st B a0 s0 f0)).1 = 1
  · rw [if_pos k1, if_pos k1]
    obtain ⟨a, s, f, e, r⟩ := command_s hB hl (k + 1) (by omega) a1 s1 f1 l1 r1
    refine ⟨a, s, f, ?_, r⟩
    rw [show k + 2 + 10 = k + 1 + 11 by omega, e, Option.bind_some, show k + 1 + 11 = (k + 11) + 1 by omega, zaw.j0, if_neg (by omega)]
  · rw [if_neg k1, if_neg k1, show k + 2 + 10 = (k + 11) + 1 by omega, zaw.j0]
    by_cases k2 : (byteR 3 (st B a0 s0 f0)).1 = 2
    · rw [if_pos k2, if_pos k2]
      obtain ⟨n, a3, s3, f3, e3, l3, r3, t3, hn, hnf, hnt⟩ := zio B hB hl (k + 1) a1 s1 f1 l1 r1
      obtain ⟨a, s, f, e, r⟩ := tlog_go hB hl n zeroCmd (wrap64 (raw (st B at_ sh fo)).1) (byteR 3 (st B a0 s0 f0)).1 (by omega) (k - n) n 0 a3 s3 f3 [] (by omega) l3 r3 rfl
      have hmany : many numR (st B a1 s1 f1) = manyGo numR n (st B a3 s3 f3) := by
        rw [t3]
        refine many_counted _ _ n (fun h => hnf ?_) (fun h => hnt ?_)
        · rw [← t3] at h
          cases hs : s3 with
          | true => rw [hs] at h; exact absurd rfl h
          | false => rfl
        · rw [← t3] at h
          exact (st_short _ _ _ _).1 h
      rw [hmany]
      refine ⟨a, s, f, ?_, r⟩
      rw [show k + 11 = k + 1 + 10 by omega, e3, Option.bind_some]
      dsimp only
      rw [show k + 1 + 10 = k - n + 11 + n by omega]
      rw [Int.natCast_zero] at e
      exact e
    · rw [if_neg k2, if_neg k2]
      exact ⟨a1, s1, f1, rfl, l1, r1, rfl⟩
end
end Go.Proofs.Ytjhcbggpbfejgaa.XCodecGets
