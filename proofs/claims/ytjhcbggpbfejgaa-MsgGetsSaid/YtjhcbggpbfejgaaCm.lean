/- The walks of codec's reader: lists and commands. -/
import Derived.Test.YtjhcbggpbfejgaaCr
import Derived.Deep.QuietTactic
import Derived.Deep.RegionWith
import Derived.Deep.RegionLaw
namespace Go.Proofs.Ytjhcbggpbfejgaa.Cr
open Go.Proofs.Ytjhcbggpbfejgaa.Cw
open Go.RowKit Go.Proofs.zjt.zjq Go.Proofs.zjt.zjr Go.Proofs.zjt.zjs
open Go.Proofs.Ytjhcbggpbfejgaa.Cp
set_option linter.unusedVariables false
set_option linter.unusedSimpArgs false
theorem info3 : (Try.prog.info? 3).map (fun i => (i.zero, i.size, i.bytes)) = some (some (.int .i64 0), 1, 8) := by kernel_rfl
theorem info9 : (Try.prog.info? 9).map (fun i => (i.zero, i.size, i.bytes)) = some (some (.string ⟨#[]⟩), 1, 16) := by kernel_rfl
/-- What a list's reader leaves. -/
def ManyOut {α : Type} (d : Kd α) (e0 : Nat) (w0 W : World) (g : Nat) (r : List α × St) (e : Ending) (w' : World) : Prop :=
  ∃ v, e = .returned v ∧ Kd.R d e0 w' w0.heap.size (fun k => W.heap.size ≤ k) v r.1 ∧ RSt w0 w' g r.2 ∧ KeepBut W w' g none
theorem RSt.grown {w0 W W1 : World} {g : Nat} {s : St} {row : Option Nat} (h : RSt w0 W g s) (hg : W.grownBy W1 row) (hne : some g ≠ row) (hB : Below w0.heap.size w0 W1) : RSt w0 W1 g s := by
  obtain ⟨A, c, hb, hge, hc, hl, _⟩ := h
  exact ⟨A, c, zbm hb hg hne, hge, hc, hl, hB⟩
theorem RSt.lt {w0 W : World} {g : Nat} {s : St} (h : RSt w0 W g s) : g < W.heap.size := by
  obtain ⟨A, c, hb, _⟩ := h
  exact zdp hb
theorem RSt.ne {α : Type} {d : Kd α} {e : Nat} {w0 W : World} {g base : Nat} {ok : Nat → Prop} {v : Value} {xs : List α} {s : St} (h : RSt w0 W g s) (ho : Kd.R d e W base ok v xs) (ht : e ≠ 84) : some g ≠ v.ownBlock := by
  obtain ⟨A, c, hb, _⟩ := h
  exact Kd.R_ne ho hb ht
theorem zhu {α : Type} {d : Kd α} {e : Nat} {W W1 W2 : World} {g base : Nat} {v : Value} {xs : List α} (h : KeepBut W W1 g none) (ho : Kd.R d e W1 base (fun k => W.heap.size ≤ k) v xs) (hg : W1.grownBy W2 v.ownBlock) : KeepBut W W2 g none := by
  refine KeepBut.trans h (KeepBut.zec hg g) ?_
  cases hv : v.ownBlock with
  | none => exact .inl rfl
  | some b => exact .inr ⟨b, rfl, ho.1 b hv⟩
set_option maxHeartbeats 1600000 in
set_option maxRecDepth 100000 in
theorem manyString_any (w0 W : World) (g : Nat) (s : St) (h : RSt w0 W g s) (hs : Bs s.1) (hl : s.1.length ≤ 1099511627776) :
    Calls Try.prog 65 #[.pointer (some ⟨g, 0, none⟩), .func (.func 41) #[.pointer (some ⟨g, 0, none⟩)] #[]] W (ManyOut Kd.string 9 w0 W g (many txtR s)) := by
  have H := Aside0.mk h
  have HS := Aside0.mk hs
  have HL := Aside0.mk hl
  have HR := Aside0.mk (zfb s hs)
  clear h hs hl
  by_cases cn : ((raw s).2.1.length : Int) < (raw s).1
  · have HCN := Aside0.mk (show counted s = ((raw s).2.1, 150) from if_pos cn)
    have HCNL := Aside0.mk cn
    clear cn
    go_enter Try.func65, Try.ntmps65
    go_wp2_with (go_at_call 66; (with_reducible refine (zee w0 _ g s H.out HS.out).mono ?_); rintro e w1 ⟨rfl, h1, hk⟩; have H1 := Aside0.mk h1; obtain ⟨A, c, hb, hg, hc, hlc, hB⟩ := h1; have c0 := (zaa hb 0).trans rfl; have f1 := zab hb 1; have c1 := (zaa hb 1).trans rfl; have cn := HCNL.out; have hm := hc.2.1; have HK := Aside0.mk hk; clear hk hb hg hc hB)
    have HR2 := Aside0.mk (H1.out.fault 150)
    have HK2 := Aside0.mk (KeepBut.set_ HK.out 1 (.int .i64 150))
    rw [← HCN.out] at HR2
    clear c0 c1 f1 cn hm
    go_loopw [6, 7] (fun v i wr => ∃ (x : Int) (out : List ByteArray) (t : St), i = .int .u64 x ∧ Aside0 (0 ≤ x ∧ x ≤ (raw s).1) ∧ Aside0 ((out ++ (manyGo txtR ((raw s).1 - x).toNat t).1, (manyGo txtR ((raw s).1 - x).toNat t).2) = many txtR s) ∧ Aside0 (Kd.R Kd.string 9 wr w0.heap.size (fun k => W.heap.size ≤ k) v out) ∧ Aside0 (RSt w0 wr g t) ∧ Aside0 (KeepBut W wr g none) ∧ Aside0 (Bs t.1) ∧ Aside0 (t.1.length ≤ s.1.length) ∧ Aside0 ((out.length : Int) = x) ∧ Aside0 (t = counted s ∨ (raw s).1 ≤ s.1.length)) (fun _ i _ => ((raw s).1 - intOf i).toNat)
    case atStart => exact ⟨0, [], counted s, rfl, ⟨by have := HR.out; omega⟩, ⟨by simp [many]⟩, ⟨Kd.zdf _ _ _ _ _⟩, HR2, HK2, ⟨zen s HS.out⟩, ⟨zfa s⟩, ⟨rfl⟩, ⟨.inl rfl⟩⟩
    case round =>
      obtain ⟨x, out, t, rfl, HX, HM, HO, HT, HKr, HBt, HLt, HLo, HQ⟩ := hrel
      obtain ⟨A2, c2, hb2, hg2, hc2, hl2, hB2⟩ := HT.out
      have d0 := (zaa hb2 0).trans rfl
      have d1 := (zaa hb2 1).trans rfl
      obtain ⟨t1, t2⟩ := t
      dsimp only at d0 d1
      clear hb2 hg2 hc2 hl2 hB2
      have hbd := HR.out
      obtain ⟨hx0, hx1⟩ := HX.out
      by_cases cx : x < (raw s).1
      · by_cases ct : t2 = 150
        · have e1 : (t2 == 150) = true := beq_iff_eq.2 ct
          have e2 : (t2 != 150) = false := by simp [ct]
          have HCT := Aside0.mk ct
          clear ct
          go_wp2
          go_ret
          refine ⟨_, rfl, ?_⟩
          have hm := HM.out
          rw [show ((raw s).1 - x).toNat = ((raw s).1 - x).toNat - 1 + 1 by omega, manyGo, if_pos HCT.out, List.append_nil] at hm
          rw [← hm]
          exact ⟨HO.out, HT.out, HKr.out⟩
        · have e1 : (t2 == 150) = false := beq_eq_false_iff_ne.2 ct
          have e2 : (t2 != 150) = true := by simp [ct]
          have HCT := Aside0.mk ct
          clear ct
          have HN : Aside0 ((raw s).1 ≤ s.1.length) := ⟨by
            rcases HQ.out with h | h
            · exact zfn s (by rw [← h]; exact HCT.out)
            · exact h⟩
          go_wp2_with (first
            | (go_at_call 41; (with_reducible refine (zea w0 _ g (t1, t2) HT.out HBt.out).mono ?_); rintro e w5 ⟨rfl, h5, hk5⟩; have HT5 := Aside0.mk (show RSt w0 w5 g (txtR (t1, t2)).2 from h5); have HK5 := Aside0.mk (HKr.out.trans hk5 (.inl rfl)); have HO5 := Aside0.mk (Kd.zdg HO.out hk5 (fun k hk => by have := H.out.lt; omega)); clear h5 hk5)
            | ((with_reducible refine zcd (b := .append) (xs := #[.tmp 33, .tmp 36]) rfl ?_); at_builtin; go_must (refine Kd.zdd Kd.string (w0 := w0) w0.heap.size rfl (.tmp 33) (.tmp 36) 23 9 (.string ⟨#[]⟩) 16 rfl Try.underlying23 info9 rfl (by decide) (by omega) u6 out (txtR (t1, t2)).1 [.string (txtR (t1, t2)).1] (fun k => W.heap.size ≤ k) (fun _ => False) rfl rfl rfl (fun _ hk => hk.elim) ?aF ?aO ?aB ?aS ?aL ?_); (case aF => exact fun k hk => Nat.le_trans HK5.out.1 hk); (case aO => exact HO5.out); (case aB => exact HT5.out.below); (case aS => exact zaz HT5.out.below); (case aL => have := HL.out; have := HN.out; have := HLo.out; omega); intro v6 w6 ho6 hb6 hg6 _; have HO6 := Aside0.mk ho6; have HT6 := Aside0.mk (HT5.out.grown hg6 (HT5.out.ne HO5.out (by decide)) hb6); have HK6 := Aside0.mk (zhu HK5.out HO5.out hg6); clear ho6 hb6 hg6))
          go_roundw
          case rel =>
            refine ⟨x + 1, out ++ [(txtR (t1, t2)).1], (txtR (t1, t2)).2, rfl, ⟨by omega⟩, ⟨?_⟩, HO6, HT6, HK6, ⟨zhh _ HBt.out⟩, ⟨Nat.le_trans (zgt _) HLt.out⟩, ⟨?_⟩, ⟨.inr HN.out⟩⟩
            · have hm := HM.out
              rw [show ((raw s).1 - x).toNat = ((raw s).1 - (x + 1)).toNat + 1 by omega, manyGo, if_neg HCT.out] at hm
              rw [← hm]
              simp
            · have := HLo.out
              simp only [List.length_append, List.length_singleton]
              omega
          case measure => simp [intOf]; omega
      · go_wp2
        go_ret
        refine ⟨_, rfl, ?_⟩
        have hm := HM.out
        rw [show ((raw s).1 - x).toNat = 0 by omega, manyGo, List.append_nil] at hm
        rw [← hm]
        exact ⟨HO.out, HT.out, HKr.out⟩
  · have HCN := Aside0.mk (show counted s = (raw s).2 from if_neg cn)
    have HCNL := Aside0.mk cn
    clear cn
    go_enter Try.func65, Try.ntmps65
    go_wp2_with (go_at_call 66; (with_reducible refine (zee w0 _ g s H.out HS.out).mono ?_); rintro e w1 ⟨rfl, h1, hk⟩; have H1 := Aside0.mk h1; obtain ⟨A, c, hb, hg, hc, hlc, hB⟩ := h1; have c0 := (zaa hb 0).trans rfl; have f1 := zab hb 1; have c1 := (zaa hb 1).trans rfl; have cn := HCNL.out; have hm := hc.2.1; have HK := Aside0.mk hk; clear hk hb hg hc hB)
    have HR2 := Aside0.mk H1.out
    have HK2 := Aside0.mk HK.out
    rw [← HCN.out] at HR2
    clear c0 c1 f1 cn hm
    go_loopw [6, 7] (fun v i wr => ∃ (x : Int) (out : List ByteArray) (t : St), i = .int .u64 x ∧ Aside0 (0 ≤ x ∧ x ≤ (raw s).1) ∧ Aside0 ((out ++ (manyGo txtR ((raw s).1 - x).toNat t).1, (manyGo txtR ((raw s).1 - x).toNat t).2) = many txtR s) ∧ Aside0 (Kd.R Kd.string 9 wr w0.heap.size (fun k => W.heap.size ≤ k) v out) ∧ Aside0 (RSt w0 wr g t) ∧ Aside0 (KeepBut W wr g none) ∧ Aside0 (Bs t.1) ∧ Aside0 (t.1.length ≤ s.1.length) ∧ Aside0 ((out.length : Int) = x) ∧ Aside0 (t = counted s ∨ (raw s).1 ≤ s.1.length)) (fun _ i _ => ((raw s).1 - intOf i).toNat)
    case atStart => exact ⟨0, [], counted s, rfl, ⟨by have := HR.out; omega⟩, ⟨by simp [many]⟩, ⟨Kd.zdf _ _ _ _ _⟩, HR2, HK2, ⟨zen s HS.out⟩, ⟨zfa s⟩, ⟨rfl⟩, ⟨.inl rfl⟩⟩
    case round =>
      obtain ⟨x, out, t, rfl, HX, HM, HO, HT, HKr, HBt, HLt, HLo, HQ⟩ := hrel
      obtain ⟨A2, c2, hb2, hg2, hc2, hl2, hB2⟩ := HT.out
      have d0 := (zaa hb2 0).trans rfl
      have d1 := (zaa hb2 1).trans rfl
      obtain ⟨t1, t2⟩ := t
      dsimp only at d0 d1
      clear hb2 hg2 hc2 hl2 hB2
      have hbd := HR.out
      obtain ⟨hx0, hx1⟩ := HX.out
      by_cases cx : x < (raw s).1
      · by_cases ct : t2 = 150
        · have e1 : (t2 == 150) = true := beq_iff_eq.2 ct
          have e2 : (t2 != 150) = false := by simp [ct]
          have HCT := Aside0.mk ct
          clear ct
          go_wp2
          go_ret
          refine ⟨_, rfl, ?_⟩
          have hm := HM.out
          rw [show ((raw s).1 - x).toNat = ((raw s).1 - x).toNat - 1 + 1 by omega, manyGo, if_pos HCT.out, List.append_nil] at hm
          rw [← hm]
          exact ⟨HO.out, HT.out, HKr.out⟩
        · have e1 : (t2 == 150) = false := beq_eq_false_iff_ne.2 ct
          have e2 : (t2 != 150) = true := by simp [ct]
          have HCT := Aside0.mk ct
          clear ct
          have HN : Aside0 ((raw s).1 ≤ s.1.length) := ⟨by
            rcases HQ.out with h | h
            · exact zfn s (by rw [← h]; exact HCT.out)
            · exact h⟩
          go_wp2_with (first
            | (go_at_call 41; (with_reducible refine (zea w0 _ g (t1, t2) HT.out HBt.out).mono ?_); rintro e w5 ⟨rfl, h5, hk5⟩; have HT5 := Aside0.mk (show RSt w0 w5 g (txtR (t1, t2)).2 from h5); have HK5 := Aside0.mk (HKr.out.trans hk5 (.inl rfl)); have HO5 := Aside0.mk (Kd.zdg HO.out hk5 (fun k hk => by have := H.out.lt; omega)); clear h5 hk5)
            | ((with_reducible refine zcd (b := .append) (xs := #[.tmp 33, .tmp 36]) rfl ?_); at_builtin; go_must (refine Kd.zdd Kd.string (w0 := w0) w0.heap.size rfl (.tmp 33) (.tmp 36) 23 9 (.string ⟨#[]⟩) 16 rfl Try.underlying23 info9 rfl (by decide) (by omega) u6 out (txtR (t1, t2)).1 [.string (txtR (t1, t2)).1] (fun k => W.heap.size ≤ k) (fun _ => False) rfl rfl rfl (fun _ hk => hk.elim) ?aF ?aO ?aB ?aS ?aL ?_); (case aF => exact fun k hk => Nat.le_trans HK5.out.1 hk); (case aO => exact HO5.out); (case aB => exact HT5.out.below); (case aS => exact zaz HT5.out.below); (case aL => have := HL.out; have := HN.out; have := HLo.out; omega); intro v6 w6 ho6 hb6 hg6 _; have HO6 := Aside0.mk ho6; have HT6 := Aside0.mk (HT5.out.grown hg6 (HT5.out.ne HO5.out (by decide)) hb6); have HK6 := Aside0.mk (zhu HK5.out HO5.out hg6); clear ho6 hb6 hg6))
          go_roundw
          case rel =>
            refine ⟨x + 1, out ++ [(txtR (t1, t2)).1], (txtR (t1, t2)).2, rfl, ⟨by omega⟩, ⟨?_⟩, HO6, HT6, HK6, ⟨zhh _ HBt.out⟩, ⟨Nat.le_trans (zgt _) HLt.out⟩, ⟨?_⟩, ⟨.inr HN.out⟩⟩
            · have hm := HM.out
              rw [show ((raw s).1 - x).toNat = ((raw s).1 - (x + 1)).toNat + 1 by omega, manyGo, if_neg HCT.out] at hm
              rw [← hm]
              simp
            · have := HLo.out
              simp only [List.length_append, List.length_singleton]
              omega
          case measure => simp [intOf]; omega
      · go_wp2
        go_ret
        refine ⟨_, rfl, ?_⟩
        have hm := HM.out
        rw [show ((raw s).1 - x).toNat = 0 by omega, manyGo, List.append_nil] at hm
        rw [← hm]
        exact ⟨HO.out, HT.out, HKr.out⟩
set_option maxHeartbeats 1600000 in
set_option maxRecDepth 100000 in
theorem manyInt_any (w0 W : World) (g : Nat) (s : St) (h : RSt w0 W g s) (hs : Bs s.1) (hl : s.1.length ≤ 1099511627776) :
    Calls Try.prog 40 #[.pointer (some ⟨g, 0, none⟩), .func (.func 38) #[.pointer (some ⟨g, 0, none⟩)] #[]] W (ManyOut (Kd.int .i64) 3 w0 W g (many numR s)) := by
  have H := Aside0.mk h
  have HS := Aside0.mk hs
  have HL := Aside0.mk hl
  have HR := Aside0.mk (zfb s hs)
  clear h hs hl
  by_cases cn : ((raw s).2.1.length : Int) < (raw s).1
  · have HCN := Aside0.mk (show counted s = ((raw s).2.1, 150) from if_pos cn)
    have HCNL := Aside0.mk cn
    clear cn
    go_enter Try.func40, Try.ntmps40
    go_wp2_with (go_at_call 66; (with_reducible refine (zee w0 _ g s H.out HS.out).mono ?_); rintro e w1 ⟨rfl, h1, hk⟩; have H1 := Aside0.mk h1; obtain ⟨A, c, hb, hg, hc, hlc, hB⟩ := h1; have c0 := (zaa hb 0).trans rfl; have f1 := zab hb 1; have c1 := (zaa hb 1).trans rfl; have cn := HCNL.out; have hm := hc.2.1; have HK := Aside0.mk hk; clear hk hb hg hc hB)
    have HR2 := Aside0.mk (H1.out.fault 150)
    have HK2 := Aside0.mk (KeepBut.set_ HK.out 1 (.int .i64 150))
    rw [← HCN.out] at HR2
    clear c0 c1 f1 cn hm
    go_loopw [6, 7] (fun v i wr => ∃ (x : Int) (out : List Int) (t : St), i = .int .u64 x ∧ Aside0 (0 ≤ x ∧ x ≤ (raw s).1) ∧ Aside0 ((out ++ (manyGo numR ((raw s).1 - x).toNat t).1, (manyGo numR ((raw s).1 - x).toNat t).2) = many numR s) ∧ Aside0 (Kd.R (Kd.int .i64) 3 wr w0.heap.size (fun k => W.heap.size ≤ k) v out) ∧ Aside0 (RSt w0 wr g t) ∧ Aside0 (KeepBut W wr g none) ∧ Aside0 (Bs t.1) ∧ Aside0 (t.1.length ≤ s.1.length) ∧ Aside0 ((out.length : Int) = x) ∧ Aside0 (t = counted s ∨ (raw s).1 ≤ s.1.length)) (fun _ i _ => ((raw s).1 - intOf i).toNat)
    case atStart => exact ⟨0, [], counted s, rfl, ⟨by have := HR.out; omega⟩, ⟨by simp [many]⟩, ⟨Kd.zdf _ _ _ _ _⟩, HR2, HK2, ⟨zen s HS.out⟩, ⟨zfa s⟩, ⟨rfl⟩, ⟨.inl rfl⟩⟩
    case round =>
      obtain ⟨x, out, t, rfl, HX, HM, HO, HT, HKr, HBt, HLt, HLo, HQ⟩ := hrel
      obtain ⟨A2, c2, hb2, hg2, hc2, hl2, hB2⟩ := HT.out
      have d0 := (zaa hb2 0).trans rfl
      have d1 := (zaa hb2 1).trans rfl
      obtain ⟨t1, t2⟩ := t
      dsimp only at d0 d1
      clear hb2 hg2 hc2 hl2 hB2
      have hbd := HR.out
      obtain ⟨hx0, hx1⟩ := HX.out
      by_cases cx : x < (raw s).1
      · by_cases ct : t2 = 150
        · have e1 : (t2 == 150) = true := beq_iff_eq.2 ct
          have e2 : (t2 != 150) = false := by simp [ct]
          have HCT := Aside0.mk ct
          clear ct
          go_wp2
          go_ret
          refine ⟨_, rfl, ?_⟩
          have hm := HM.out
          rw [show ((raw s).1 - x).toNat = ((raw s).1 - x).toNat - 1 + 1 by omega, manyGo, if_pos HCT.out, List.append_nil] at hm
          rw [← hm]
          exact ⟨HO.out, HT.out, HKr.out⟩
        · have e1 : (t2 == 150) = false := beq_eq_false_iff_ne.2 ct
          have e2 : (t2 != 150) = true := by simp [ct]
          have HCT := Aside0.mk ct
          clear ct
          have HN : Aside0 ((raw s).1 ≤ s.1.length) := ⟨by
            rcases HQ.out with h | h
            · exact zfn s (by rw [← h]; exact HCT.out)
            · exact h⟩
          go_wp2_with (first
            | (go_at_call 38; (with_reducible refine (zby w0 _ g (t1, t2) HT.out HBt.out).mono ?_); rintro e w5 ⟨rfl, h5, hk5⟩; have HT5 := Aside0.mk (show RSt w0 w5 g (numR (t1, t2)).2 from h5); have HK5 := Aside0.mk (HKr.out.trans hk5 (.inl rfl)); have HO5 := Aside0.mk (Kd.zdg HO.out hk5 (fun k hk => by have := H.out.lt; omega)); clear h5 hk5)
            | ((with_reducible refine zcd (b := .append) (xs := #[.tmp 33, .tmp 36]) rfl ?_); at_builtin; go_must (refine Kd.zdd (Kd.int .i64) (w0 := w0) w0.heap.size rfl (.tmp 33) (.tmp 36) 36 3 (.int .i64 0) 8 rfl Try.underlying36 info3 rfl (by decide) (by omega) u6 out (numR (t1, t2)).1 [.int .i64 (numR (t1, t2)).1] (fun k => W.heap.size ≤ k) (fun _ => False) rfl rfl rfl (fun _ hk => hk.elim) ?aF ?aO ?aB ?aS ?aL ?_); (case aF => exact fun k hk => Nat.le_trans HK5.out.1 hk); (case aO => exact HO5.out); (case aB => exact HT5.out.below); (case aS => exact zaz HT5.out.below); (case aL => have := HL.out; have := HN.out; have := HLo.out; omega); intro v6 w6 ho6 hb6 hg6 _; have HO6 := Aside0.mk ho6; have HT6 := Aside0.mk (HT5.out.grown hg6 (HT5.out.ne HO5.out (by decide)) hb6); have HK6 := Aside0.mk (zhu HK5.out HO5.out hg6); clear ho6 hb6 hg6))
          go_roundw
          case rel =>
            refine ⟨x + 1, out ++ [(numR (t1, t2)).1], (numR (t1, t2)).2, rfl, ⟨by omega⟩, ⟨?_⟩, HO6, HT6, HK6, ⟨zcw _ HBt.out⟩, ⟨Nat.le_trans (zfe _) HLt.out⟩, ⟨?_⟩, ⟨.inr HN.out⟩⟩
            · have hm := HM.out
              rw [show ((raw s).1 - x).toNat = ((raw s).1 - (x + 1)).toNat + 1 by omega, manyGo, if_neg HCT.out] at hm
              rw [← hm]
              simp
            · have := HLo.out
              simp only [List.length_append, List.length_singleton]
              omega
          case measure => simp [intOf]; omega
      · go_wp2
        go_ret
        refine ⟨_, rfl, ?_⟩
        have hm := HM.out
        rw [show ((raw s).1 - x).toNat = 0 by omega, manyGo, List.append_nil] at hm
        rw [← hm]
        exact ⟨HO.out, HT.out, HKr.out⟩
  · have HCN := Aside0.mk (show counted s = (raw s).2 from if_neg cn)
    have HCNL := Aside0.mk cn
    clear cn
    go_enter Try.func40, Try.ntmps40
    go_wp2_with (go_at_call 66; (with_reducible refine (zee w0 _ g s H.out HS.out).mono ?_); rintro e w1 ⟨rfl, h1, hk⟩; have H1 := Aside0.mk h1; obtain ⟨A, c, hb, hg, hc, hlc, hB⟩ := h1; have c0 := (zaa hb 0).trans rfl; have f1 := zab hb 1; have c1 := (zaa hb 1).trans rfl; have cn := HCNL.out; have hm := hc.2.1; have HK := Aside0.mk hk; clear hk hb hg hc hB)
    have HR2 := Aside0.mk H1.out
    have HK2 := Aside0.mk HK.out
    rw [← HCN.out] at HR2
    clear c0 c1 f1 cn hm
    go_loopw [6, 7] (fun v i wr => ∃ (x : Int) (out : List Int) (t : St), i = .int .u64 x ∧ Aside0 (0 ≤ x ∧ x ≤ (raw s).1) ∧ Aside0 ((out ++ (manyGo numR ((raw s).1 - x).toNat t).1, (manyGo numR ((raw s).1 - x).toNat t).2) = many numR s) ∧ Aside0 (Kd.R (Kd.int .i64) 3 wr w0.heap.size (fun k => W.heap.size ≤ k) v out) ∧ Aside0 (RSt w0 wr g t) ∧ Aside0 (KeepBut W wr g none) ∧ Aside0 (Bs t.1) ∧ Aside0 (t.1.length ≤ s.1.length) ∧ Aside0 ((out.length : Int) = x) ∧ Aside0 (t = counted s ∨ (raw s).1 ≤ s.1.length)) (fun _ i _ => ((raw s).1 - intOf i).toNat)
    case atStart => exact ⟨0, [], counted s, rfl, ⟨by have := HR.out; omega⟩, ⟨by simp [many]⟩, ⟨Kd.zdf _ _ _ _ _⟩, HR2, HK2, ⟨zen s HS.out⟩, ⟨zfa s⟩, ⟨rfl⟩, ⟨.inl rfl⟩⟩
    case round =>
      obtain ⟨x, out, t, rfl, HX, HM, HO, HT, HKr, HBt, HLt, HLo, HQ⟩ := hrel
      obtain ⟨A2, c2, hb2, hg2, hc2, hl2, hB2⟩ := HT.out
      have d0 := (zaa hb2 0).trans rfl
      have d1 := (zaa hb2 1).trans rfl
      obtain ⟨t1, t2⟩ := t
      dsimp only at d0 d1
      clear hb2 hg2 hc2 hl2 hB2
      have hbd := HR.out
      obtain ⟨hx0, hx1⟩ := HX.out
      by_cases cx : x < (raw s).1
      · by_cases ct : t2 = 150
        · have e1 : (t2 == 150) = true := beq_iff_eq.2 ct
          have e2 : (t2 != 150) = false := by simp [ct]
          have HCT := Aside0.mk ct
          clear ct
          go_wp2
          go_ret
          refine ⟨_, rfl, ?_⟩
          have hm := HM.out
          rw [show ((raw s).1 - x).toNat = ((raw s).1 - x).toNat - 1 + 1 by omega, manyGo, if_pos HCT.out, List.append_nil] at hm
          rw [← hm]
          exact ⟨HO.out, HT.out, HKr.out⟩
        · have e1 : (t2 == 150) = false := beq_eq_false_iff_ne.2 ct
          have e2 : (t2 != 150) = true := by simp [ct]
          have HCT := Aside0.mk ct
          clear ct
          have HN : Aside0 ((raw s).1 ≤ s.1.length) := ⟨by
            rcases HQ.out with h | h
            · exact zfn s (by rw [← h]; exact HCT.out)
            · exact h⟩
          go_wp2_with (first
            | (go_at_call 38; (with_reducible refine (zby w0 _ g (t1, t2) HT.out HBt.out).mono ?_); rintro e w5 ⟨rfl, h5, hk5⟩; have HT5 := Aside0.mk (show RSt w0 w5 g (numR (t1, t2)).2 from h5); have HK5 := Aside0.mk (HKr.out.trans hk5 (.inl rfl)); have HO5 := Aside0.mk (Kd.zdg HO.out hk5 (fun k hk => by have := H.out.lt; omega)); clear h5 hk5)
            | ((with_reducible refine zcd (b := .append) (xs := #[.tmp 33, .tmp 36]) rfl ?_); at_builtin; go_must (refine Kd.zdd (Kd.int .i64) (w0 := w0) w0.heap.size rfl (.tmp 33) (.tmp 36) 36 3 (.int .i64 0) 8 rfl Try.underlying36 info3 rfl (by decide) (by omega) u6 out (numR (t1, t2)).1 [.int .i64 (numR (t1, t2)).1] (fun k => W.heap.size ≤ k) (fun _ => False) rfl rfl rfl (fun _ hk => hk.elim) ?aF ?aO ?aB ?aS ?aL ?_); (case aF => exact fun k hk => Nat.le_trans HK5.out.1 hk); (case aO => exact HO5.out); (case aB => exact HT5.out.below); (case aS => exact zaz HT5.out.below); (case aL => have := HL.out; have := HN.out; have := HLo.out; omega); intro v6 w6 ho6 hb6 hg6 _; have HO6 := Aside0.mk ho6; have HT6 := Aside0.mk (HT5.out.grown hg6 (HT5.out.ne HO5.out (by decide)) hb6); have HK6 := Aside0.mk (zhu HK5.out HO5.out hg6); clear ho6 hb6 hg6))
          go_roundw
          case rel =>
            refine ⟨x + 1, out ++ [(numR (t1, t2)).1], (numR (t1, t2)).2, rfl, ⟨by omega⟩, ⟨?_⟩, HO6, HT6, HK6, ⟨zcw _ HBt.out⟩, ⟨Nat.le_trans (zfe _) HLt.out⟩, ⟨?_⟩, ⟨.inr HN.out⟩⟩
            · have hm := HM.out
              rw [show ((raw s).1 - x).toNat = ((raw s).1 - (x + 1)).toNat + 1 by omega, manyGo, if_neg HCT.out] at hm
              rw [← hm]
              simp
            · have := HLo.out
              simp only [List.length_append, List.length_singleton]
              omega
          case measure => simp [intOf]; omega
      · go_wp2
        go_ret
        refine ⟨_, rfl, ?_⟩
        have hm := HM.out
        rw [show ((raw s).1 - x).toNat = 0 by omega, manyGo, List.append_nil] at hm
        rw [← hm]
        exact ⟨HO.out, HT.out, HKr.out⟩
end Go.Proofs.Ytjhcbggpbfejgaa.Cr
