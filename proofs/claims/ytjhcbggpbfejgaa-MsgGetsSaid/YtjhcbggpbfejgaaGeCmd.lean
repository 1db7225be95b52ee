import Derived.Test.YtjhcbggpbfejgaaGeSim
namespace Go.Proofs.Ytjhcbggpbfejgaa.XCodecGets
open Go.RowKit Go.Proofs.zjt.zjq Go.Proofs.zjt.zjr Go.Proofs.zjt.zjs
open Go.Proofs.Ytjhcbggpbfejgaa.Cp
set_option linter.unusedVariables false
set_option linter.unusedSimpArgs false
theorem many_counted {α : Type} (one : St → α × St) (s : St) (n : Nat) (h : (counted s).2 ≠ 150 → n = (raw s).1.toNat) (h' : (counted s).2 = 150 → n = 0) : many one s = manyGo one n (counted s) := by
  unfold many
  by_cases c : (counted s).2 = 150
  · rw [h' c]
    cases (raw s).1.toNat with
    | zero => rfl
    | succ q => rw [manyGo, manyGo, if_pos c]
  · rw [h c]
section
variable {B : List Int} (hB : Bs B) (hl : B.length ≤ 1099511627776)
include hB hl
theorem cmd_fin (k : Nat) (at_ : Int) (sh fo : Bool) (h0 : 0 ≤ at_) (h1 : at_ ≤ B.length) (o : Int) (b1 b2 b3 b4 b5 b6 : ByteArray) (ns : List ByteArray) : ∃ (a : Int) (s f : Bool),
    ((zaj.f (k + 10) B at_ sh fo).bind fun bt140 => ((zaj.f (k + 10) B bt140.2.1 bt140.2.2.1 bt140.2.2.2).bind fun bt144 => ((zaj.f (k + 10) B bt144.2.1 bt144.2.2.1 bt144.2.2.2).bind fun bt148 => (some (o, b1, b2, b3, b4, b5, b6, ns, wrap64 (bt140.1), wrap64 (bt144.1), wrap64 (bt148.1), bt148.2.1, bt148.2.2.1, bt148.2.2.2)))))
      = some (o, b1, b2, b3, b4, b5, b6, ns, (numR (st B at_ sh fo)).1, (numR (numR (st B at_ sh fo)).2).1, (numR (numR (numR (st B at_ sh fo)).2).2).1, a, s, f) ∧ 0 ≤ a ∧ a ≤ B.length ∧ st B a s f = (numR (numR (numR (st B at_ sh fo)).2).2).2 := by
  obtain ⟨a, s, f, e1, a0, a1, s1⟩ := zdv B hB hl k at_ sh fo h0 h1
  obtain ⟨a', s', f', e2, a0', a1', s2⟩ := zdv B hB hl k a s f a0 a1
  obtain ⟨a2, s2', f2, e3, a02, a12, s3⟩ := zdv B hB hl k a' s' f' a0' a1'
  refine ⟨a2, s2', f2, ?_, a02, a12, ?_⟩
  · rw [e1, Option.bind_some, e2, Option.bind_some, e3, Option.bind_some]
    unfold numR
    dsimp only
    rw [← s1, ← s2]
  · unfold numR
    dsimp only
    rw [← s1, ← s2]
    exact s3
theorem cmd_go (k : Nat) (n : Nat) (o : Int) (b1 b2 b3 b4 b5 b6 : ByteArray) (z8 z9 z10 : Int) (hn : n ≤ 1099511627776) : ∀ (m i : Nat) (at_ : Int) (sh fo : Bool) (ns : List ByteArray), i + m = n → 0 ≤ at_ → at_ ≤ B.length → ns.length = i → ∃ (a : Int) (s f : Bool),
    zat.l0 (k + 11 + m) (n : Int) (i : Int) B at_ sh fo o b1 b2 b3 b4 b5 b6 ns z8 z9 z10
      = some (o, b1, b2, b3, b4, b5, b6, ns ++ (manyGo txtR m (st B at_ sh fo)).1, (numR (manyGo txtR m (st B at_ sh fo)).2).1, (numR (numR (manyGo txtR m (st B at_ sh fo)).2).2).1, (numR (numR (numR (manyGo txtR m (st B at_ sh fo)).2).2).2).1, a, s, f) ∧ 0 ≤ a ∧ a ≤ B.length ∧ st B a s f = (numR (numR (numR (manyGo txtR m (st B at_ sh fo)).2).2).2).2 := by
  intro m
  induction m with
  | zero =>
    intro i at_ sh fo ns hi h0 h1 hns
    obtain ⟨a, s, f, e, r⟩ := cmd_fin hB hl k at_ sh fo h0 h1 o b1 b2 b3 b4 b5 b6 ns
    refine ⟨a, s, f, ?_, r⟩
    rw [show k + 11 + 0 = (k + 10) + 1 by omega, zat.l0, if_neg (by omega), e]
    simp [manyGo]
  | succ m ih =>
    intro i at_ sh fo ns hi h0 h1 hns
    rw [show k + 11 + (m + 1) = (k + 11 + m) + 1 by omega]
    cases sh with
    | true =>
      obtain ⟨a, s, f, e, r⟩ := cmd_fin hB hl (k + 1 + m) at_ true fo h0 h1 o b1 b2 b3 b4 b5 b6 ns
      have hm : manyGo txtR (m + 1) (st B at_ true fo) = ([], st B at_ true fo) := by rw [manyGo, if_pos (show (st B at_ true fo).2 = 150 from rfl)]
      rw [hm]
      refine ⟨a, s, f, ?_, r⟩
      rw [zat.l0, if_pos (by omega), if_pos rfl, show k + 11 + m = k + 1 + m + 10 by omega, e]
      simp
    | false =>
      obtain ⟨a, s, f, e, a0, a1, hs⟩ := zhz B hB hl (k + 1 + m) at_ false fo h0 h1
      have hm : manyGo txtR (m + 1) (st B at_ false fo) = ((txtR (st B at_ false fo)).1 :: (manyGo txtR m (st B a s f)).1, (manyGo txtR m (st B a s f)).2) := by rw [manyGo, if_neg (ziw _ _ _), hs]
      obtain ⟨a', s', f', e', r⟩ := ih (i + 1) a s f (ns ++ [(txtR (st B at_ false fo)).1]) (by omega) a0 a1 (by simp [hns])
      rw [hm]
      refine ⟨a', s', f', ?_, r⟩
      rw [zat.l0, if_pos (by omega), if_neg (by simp), show k + 11 + m = k + 1 + m + 10 by omega, e, Option.bind_some, if_pos (by omega), w64s (by omega) (by omega), show k + 1 + m + 10 = k + 11 + m by omega]
      dsimp only
      rw [show ((i : Int) + 1) = ((i + 1 : Nat) : Int) by omega, e']
      simp
theorem command_s (k : Nat) (hk : B.length ≤ k) (at_ : Int) (sh fo : Bool) (h0 : 0 ≤ at_) (h1 : at_ ≤ B.length) : ∃ (a : Int) (s f : Bool),
    zat.f (k + 11) B at_ sh fo = some ((cmdR (st B at_ sh fo)).1.op, (cmdR (st B at_ sh fo)).1.book, (cmdR (st B at_ sh fo)).1.name, (cmdR (st B at_ sh fo)).1.data, (cmdR (st B at_ sh fo)).1.mat, (cmdR (st B at_ sh fo)).1.non, (cmdR (st B at_ sh fo)).1.token, (cmdR (st B at_ sh fo)).1.names, (cmdR (st B at_ sh fo)).1.at_, (cmdR (st B at_ sh fo)).1.session, (cmdR (st B at_ sh fo)).1.seq, a, s, f) ∧ 0 ≤ a ∧ a ≤ B.length ∧ st B a s f = (cmdR (st B at_ sh fo)).2 := by
  obtain ⟨a0, s0, f0, e0, l0, r0, t0⟩ := zdv B hB hl (k + 1) at_ sh fo h0 h1
  obtain ⟨a1, s1, f1, e1, l1, r1, t1⟩ := zhz B hB hl (k + 1) a0 s0 f0 l0 r0
  obtain ⟨a2, s2, f2, e2, l2, r2, t2⟩ := zhz B hB hl (k + 1) a1 s1 f1 l1 r1
  obtain ⟨a3, s3, f3, e3, l3, r3, t3⟩ := zhz B hB hl (k + 1) a2 s2 f2 l2 r2
  obtain ⟨a4, s4, f4, e4, l4, r4, t4⟩ := zhz B hB hl (k + 1) a3 s3 f3 l3 r3
  obtain ⟨a5, s5, f5, e5, l5, r5, t5⟩ := zhz B hB hl (k + 1) a4 s4 f4 l4 r4
  obtain ⟨a6, s6, f6, e6, l6, r6, t6⟩ := zhz B hB hl (k + 1) a5 s5 f5 l5 r5
  obtain ⟨n, a7, s7, f7, e7, l7, r7, t7, hn, hnf, hnt⟩ := zio B hB hl (k + 1) a6 s6 f6 l6 r6
  obtain ⟨a, s, f, e, l, r, t⟩ := cmd_go hB hl (k - n) n (wrap64 (raw (st B at_ sh fo)).1) (txtR (st B a0 s0 f0)).1 (txtR (st B a1 s1 f1)).1 (txtR (st B a2 s2 f2)).1 (txtR (st B a3 s3 f3)).1 (txtR (st B a4 s4 f4)).1 (txtR (st B a5 s5 f5)).1 0 0 0 (by omega) n 0 a7 s7 f7 [] (by omega) l7 r7 rfl
  have hmany : many txtR (st B a6 s6 f6) = manyGo txtR n (st B a7 s7 f7) := by
    rw [t7]
    refine many_counted txtR _ n (fun h => hnf ?_) (fun h => hnt ?_)
    · rw [← t7] at h
      cases hs : s7 with
      | true => rw [hs] at h; exact absurd rfl h
      | false => rfl
    · rw [← t7] at h
      exact (st_short _ _ _ _).1 h
  have hc : cmdR (st B at_ sh fo) = (⟨wrap64 (raw (st B at_ sh fo)).1, (txtR (st B a0 s0 f0)).1, (txtR (st B a1 s1 f1)).1, (txtR (st B a2 s2 f2)).1, (txtR (st B a3 s3 f3)).1, (txtR (st B a4 s4 f4)).1, (txtR (st B a5 s5 f5)).1, (manyGo txtR n (st B a7 s7 f7)).1, (numR (manyGo txtR n (st B a7 s7 f7)).2).1, (numR (numR (manyGo txtR n (st B a7 s7 f7)).2).2).1, (numR (numR (numR (manyGo txtR n (st B a7 s7 f7)).2).2).2).1⟩, (numR (numR (numR (manyGo txtR n (st B a7 s7 f7)).2).2).2).2) := by
    unfold cmdR
    have h0 : (numR (st B at_ sh fo)).2 = st B a0 s0 f0 := t0.symm
    have h6 : rep 6 (st B a0 s0 f0) = ([(txtR (st B a0 s0 f0)).1, (txtR (st B a1 s1 f1)).1, (txtR (st B a2 s2 f2)).1, (txtR (st B a3 s3 f3)).1, (txtR (st B a4 s4 f4)).1, (txtR (st B a5 s5 f5)).1], st B a6 s6 f6) := by
      simp only [rep, ← t1, ← t2, ← t3, ← t4, ← t5, ← t6]
    simp only [h0, h6, hmany]
    rfl
  rw [hc]
  refine ⟨a, s, f, ?_, l, r, t⟩
  unfold zat.f
  rw [show k + 11 = k + 1 + 10 by omega, e0, Option.bind_some]
  dsimp only
  rw [e1, Option.bind_some]
  dsimp only
  rw [e2, Option.bind_some]
  dsimp only
  rw [e3, Option.bind_some]
  dsimp only
  rw [e4, Option.bind_some]
  dsimp only
  rw [e5, Option.bind_some]
  dsimp only
  rw [e6, Option.bind_some]
  dsimp only
  rw [e7, Option.bind_some]
  dsimp only
  rw [show k + 1 + 10 = k - n + 11 + n by omega]
  rw [Int.natCast_zero] at e
  rw [e]
  rfl
end
end Go.Proofs.Ytjhcbggpbfejgaa.XCodecGets
