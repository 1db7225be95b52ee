import Derived.Test.YtjhcbggpbfejgaaCu
/- many[Entry]. Printed by gen_cv.py. -/
namespace Go.Proofs.Ytjhcbggpbfejgaa.Cr
open Go.RowKit Go.Proofs.YtjhcbggpbfejgaaW.PrintWords Go.Proofs.YtjhcbggpbfejgaaW.PrintLast Go.Proofs.YtjhcbggpbfejgaaW.PrintMore
open Go.Proofs.Ytjhcbggpbfejgaa.Cp Go.Proofs.Ytjhcbggpbfejgaa.Cw
set_option linter.unusedVariables false
set_option linter.unusedSimpArgs false

theorem info93f : (Try.prog.info? 93).map (fun i => (i.zero, i.size, i.bytes)) = some (some (.agg #[.string ⟨#[]⟩, .int .i64 0, .string ⟨#[]⟩, .bool false]), 4, 48) := by kernel_rfl
def entM {β : Type} (mk : Ent → β) (s : St) : β × St := (mk (entR s).1, (entR s).2)
theorem ent_M {β : Type} (q : β → Ent) (mk : Ent → β) (hq : ∀ e, q (mk e) = e) (w : World) (base : Nat) (ok : Nat → Prop) (s : St) :
    (Kd.iso kT q).M w base ok (entM mk s).1 [.string (entR s).1.1, .int .i64 (entR s).1.2.1, .string (entR s).1.2.2.1, .bool (entR s).1.2.2.2] := by
  show kT.M w base ok (q (mk (entR s).1)) _
  rw [hq]
  exact ⟨[.string (entR s).1.1], [.int .i64 (entR s).1.2.1, .string (entR s).1.2.2.1, .bool (entR s).1.2.2.2], rfl, rfl, ⟨[.int .i64 (entR s).1.2.1], [.string (entR s).1.2.2.1, .bool (entR s).1.2.2.2], rfl, rfl, ⟨[.string (entR s).1.2.2.1], [.bool (entR s).1.2.2.2], rfl, rfl, rfl⟩⟩⟩
theorem txtR_le (s : St) : (txtR s).2.1.length ≤ s.1.length := Nat.le_trans (take_le _ _) (raw_le s)
theorem entR_le (s : St) : (entR s).2.1.length ≤ s.1.length := by
  unfold entR
  dsimp only
  rw [byteR_1]
  exact Nat.le_trans (take_le _ _) (Nat.le_trans (txtR_le _) (Nat.le_trans (raw_le _) (txtR_le s)))
set_option maxHeartbeats 1600000 in
set_option maxRecDepth 100000 in
theorem manyEnt_any {β : Type} (q : β → Ent) (mk : Ent → β) (hq : ∀ e, q (mk e) = e) (w0 W : World) (g p : Nat) (s : St) (h : RSt w0 W g s) (hs : Bs s.1) (hl : s.1.length ≤ 1099511627776) (hp : W.heap[p]? = some (.cells #[.pointer (some ⟨g, 0, none⟩)] 82 (0, 0))) :
    Calls Try.prog 42 #[.pointer (some ⟨g, 0, none⟩), .func (.func 43) #[] #[.pointer (some ⟨p, 0, none⟩)]] W (ManyOut (Kd.iso kT q) 93 w0 W g (many (entM mk) s)) := by
  have HP := Aside0.mk hp
  clear hp
  have H := Aside0.mk h
  have HS := Aside0.mk hs
  have HL := Aside0.mk hl
  have HR := Aside0.mk (raw_bd s hs)
  clear h hs hl
  by_cases cn : ((raw s).2.1.length : Int) < (raw s).1
  · have HCN := Aside0.mk (show counted s = ((raw s).2.1, 150) from if_pos cn)
    have HCNL := Aside0.mk cn
    clear cn
    go_enter Try.func42, Try.ntmps42
    go_wp2_with (go_at_call 66; (with_reducible refine (raw_any w0 _ g s H.out HS.out).mono ?_); rintro e w1 ⟨rfl, h1, hk⟩; have H1 := Aside0.mk h1; obtain ⟨A, c, hb, hg, hc, hlc, hB⟩ := h1; have c0 := (blk_cell hb 0).trans rfl; have f1 := blk_frozen hb 1; have c1 := (blk_cell hb 1).trans rfl; have cn := HCNL.out; have hm := hc.2.1; have HK := Aside0.mk hk; clear hk hb hg hc hB)
    have HR2 := Aside0.mk (H1.out.fault 150)
    have HK2 := Aside0.mk (KeepBut.set_ HK.out 1 (.int .i64 150))
    rw [← HCN.out] at HR2
    clear c0 c1 f1 cn hm
    go_loopw [6, 7] (fun v i wr => ∃ (x : Int) (out : List β) (t : St), i = .int .u64 x ∧ Aside0 (0 ≤ x ∧ x ≤ (raw s).1) ∧ Aside0 ((out ++ (manyGo (entM mk) ((raw s).1 - x).toNat t).1, (manyGo (entM mk) ((raw s).1 - x).toNat t).2) = many (entM mk) s) ∧ Aside0 (Kd.R (Kd.iso kT q) 93 wr w0.heap.size (fun k => W.heap.size ≤ k) v out) ∧ Aside0 (RSt w0 wr g t) ∧ Aside0 (KeepBut W wr g none) ∧ Aside0 (Bs t.1) ∧ Aside0 (t.1.length ≤ s.1.length) ∧ Aside0 ((out.length : Int) = x) ∧ Aside0 (t = counted s ∨ (raw s).1 ≤ s.1.length)) (fun _ i _ => ((raw s).1 - intOf i).toNat)
    case atStart => exact ⟨0, [], counted s, rfl, ⟨by have := HR.out; omega⟩, ⟨by simp [many]⟩, ⟨Kd.R_nil _ _ _ _ _⟩, HR2, HK2, ⟨counted_bs s HS.out⟩, ⟨counted_le s⟩, ⟨rfl⟩, ⟨.inl rfl⟩⟩
    case round =>
      obtain ⟨x, out, t, rfl, HX, HM, HO, HT, HKr, HBt, HLt, HLo, HQ⟩ := hrel
      obtain ⟨A2, c2, hb2, hg2, hc2, hl2, hB2⟩ := HT.out
      have d0 := (blk_cell hb2 0).trans rfl
      have d1 := (blk_cell hb2 1).trans rfl
      obtain ⟨t1, t2⟩ := t
      dsimp only at d0 d1
      clear hb2 hg2 hc2 hl2 hB2
      have hbd := HR.out
      obtain ⟨hx0, hx1⟩ := HX.out
      by_cases cx : x < (raw s).1
      · by_cases ct : t2 = 150
        · have e1 : (t2 == 150) = true := beq_iff_eq.2 ct
          have e2 : (t2 != 150) = false := by simp [ct]
          have HCT := Aside0.mk ct
          clear ct
          go_wp2
          go_ret
          refine ⟨_, rfl, ?_⟩
          have hm := HM.out
          rw [show ((raw s).1 - x).toNat = ((raw s).1 - x).toNat - 1 + 1 by omega, manyGo, if_pos HCT.out, List.append_nil] at hm
          rw [← hm]
          exact ⟨HO.out, HT.out, HKr.out⟩
        · have e1 : (t2 == 150) = false := beq_eq_false_iff_ne.2 ct
          have e2 : (t2 != 150) = true := by simp [ct]
          have HCT := Aside0.mk ct
          clear ct
          have HN : Aside0 ((raw s).1 ≤ s.1.length) := ⟨by
            rcases HQ.out with h | h
            · exact counted_n s (by rw [← h]; exact HCT.out)
            · exact h⟩
          go_wp2_with (first
            | (go_at_call 43; (with_reducible refine (entry_any w0 _ g p (t1, t2) HT.out HBt.out (RSt.other H.out HKr.out HP.out (by decide))).mono ?_); rintro e w5 ⟨rfl, h5, hk5⟩; have HT5 := Aside0.mk (show RSt w0 w5 g (entM mk (t1, t2)).2 from h5); have HK5 := Aside0.mk (HKr.out.trans hk5 (.inl rfl)); have HO5 := Aside0.mk (Kd.R_keep HO.out hk5 (fun k hk => by have := H.out.lt; omega)); clear h5 hk5)
            | ((with_reducible refine gate_builtin (b := .append) (xs := #[.tmp 33, .tmp 36]) rfl ?_); at_builtin; go_must (refine Kd.R_append (Kd.iso kT q) (w0 := w0) w0.heap.size rfl (.tmp 33) (.tmp 36) 43 93 (.agg #[.string ⟨#[]⟩, .int .i64 0, .string ⟨#[]⟩, .bool false]) 48 rfl Try.underlying43 info93f rfl (show 0 < 4 by decide) (by omega) u6 out (entM mk (t1, t2)).1 [.string (entR (t1, t2)).1.1, .int .i64 (entR (t1, t2)).1.2.1, .string (entR (t1, t2)).1.2.2.1, .bool (entR (t1, t2)).1.2.2.2] (fun k => W.heap.size ≤ k) (fun _ => False) rfl rfl (ent_M q mk hq _ _ _ _) (fun _ hk => hk.elim) ?aF ?aO ?aB ?aS ?aL ?_); (case aF => exact fun k hk => Nat.le_trans HK5.out.1 hk); (case aO => exact HO5.out); (case aB => exact HT5.out.below); (case aS => exact below_size HT5.out.below); (case aL => have := HL.out; have := HN.out; have := HLo.out; omega); intro v6 w6 ho6 hb6 hg6 _; have HO6 := Aside0.mk ho6; have HT6 := Aside0.mk (HT5.out.grown hg6 (HT5.out.ne HO5.out (by decide)) hb6); have HK6 := Aside0.mk (keep_row HK5.out HO5.out hg6); clear ho6 hb6 hg6))
          go_roundw
          case rel =>
            refine ⟨x + 1, out ++ [(entM mk (t1, t2)).1], (entM mk (t1, t2)).2, rfl, ⟨by omega⟩, ⟨?_⟩, HO6, HT6, HK6, ⟨entR_bs _ HBt.out⟩, ⟨Nat.le_trans (entR_le _) HLt.out⟩, ⟨?_⟩, ⟨.inr HN.out⟩⟩
            · have hm := HM.out
              rw [show ((raw s).1 - x).toNat = ((raw s).1 - (x + 1)).toNat + 1 by omega, manyGo, if_neg HCT.out] at hm
              rw [← hm]
              simp
            · have := HLo.out
              simp only [List.length_append, List.length_singleton]
              omega
          case measure => simp [intOf]; omega
      · go_wp2
        go_ret
        refine ⟨_, rfl, ?_⟩
        have hm := HM.out
        rw [show ((raw s).1 - x).toNat = 0 by omega, manyGo, List.append_nil] at hm
        rw [← hm]
        exact ⟨HO.out, HT.out, HKr.out⟩
  · have HCN := Aside0.mk (show counted s = (raw s).2 from if_neg cn)
    have HCNL := Aside0.mk cn
    clear cn
    go_enter Try.func42, Try.ntmps42
    go_wp2_with (go_at_call 66; (with_reducible refine (raw_any w0 _ g s H.out HS.out).mono ?_); rintro e w1 ⟨rfl, h1, hk⟩; have H1 := Aside0.mk h1; obtain ⟨A, c, hb, hg, hc, hlc, hB⟩ := h1; have c0 := (blk_cell hb 0).trans rfl; have f1 := blk_frozen hb 1; have c1 := (blk_cell hb 1).trans rfl; have cn := HCNL.out; have hm := hc.2.1; have HK := Aside0.mk hk; clear hk hb hg hc hB)
    have HR2 := Aside0.mk H1.out
    have HK2 := Aside0.mk HK.out
    rw [← HCN.out] at HR2
    clear c0 c1 f1 cn hm
    go_loopw [6, 7] (fun v i wr => ∃ (x : Int) (out : List β) (t : St), i = .int .u64 x ∧ Aside0 (0 ≤ x ∧ x ≤ (raw s).1) ∧ Aside0 ((out ++ (manyGo (entM mk) ((raw s).1 - x).toNat t).1, (manyGo (entM mk) ((raw s).1 - x).toNat t).2) = many (entM mk) s) ∧ Aside0 (Kd.R (Kd.iso kT q) 93 wr w0.heap.size (fun k => W.heap.size ≤ k) v out) ∧ Aside0 (RSt w0 wr g t) ∧ Aside0 (KeepBut W wr g none) ∧ Aside0 (Bs t.1) ∧ Aside0 (t.1.length ≤ s.1.length) ∧ Aside0 ((out.length : Int) = x) ∧ Aside0 (t = counted s ∨ (raw s).1 ≤ s.1.length)) (fun _ i _ => ((raw s).1 - intOf i).toNat)
    case atStart => exact ⟨0, [], counted s, rfl, ⟨by have := HR.out; omega⟩, ⟨by simp [many]⟩, ⟨Kd.R_nil _ _ _ _ _⟩, HR2, HK2, ⟨counted_bs s HS.out⟩, ⟨counted_le s⟩, ⟨rfl⟩, ⟨.inl rfl⟩⟩
    case round =>
      obtain ⟨x, out, t, rfl, HX, HM, HO, HT, HKr, HBt, HLt, HLo, HQ⟩ := hrel
      obtain ⟨A2, c2, hb2, hg2, hc2, hl2, hB2⟩ := HT.out
      have d0 := (blk_cell hb2 0).trans rfl
      have d1 := (blk_cell hb2 1).trans rfl
      obtain ⟨t1, t2⟩ := t
      dsimp only at d0 d1
      clear hb2 hg2 hc2 hl2 hB2
      have hbd := HR.out
      obtain ⟨hx0, hx1⟩ := HX.out
      by_cases cx : x < (raw s).1
      · by_cases ct : t2 = 150
        · have e1 : (t2 == 150) = true := beq_iff_eq.2 ct
          have e2 : (t2 != 150) = false := by simp [ct]
          have HCT := Aside0.mk ct
          clear ct
          go_wp2
          go_ret
          refine ⟨_, rfl, ?_⟩
          have hm := HM.out
          rw [show ((raw s).1 - x).toNat = ((raw s).1 - x).toNat - 1 + 1 by omega, manyGo, if_pos HCT.out, List.append_nil] at hm
          rw [← hm]
          exact ⟨HO.out, HT.out, HKr.out⟩
        · have e1 : (t2 == 150) = false := beq_eq_false_iff_ne.2 ct
          have e2 : (t2 != 150) = true := by simp [ct]
          have HCT := Aside0.mk ct
          clear ct
          have HN : Aside0 ((raw s).1 ≤ s.1.length) := ⟨by
            rcases HQ.out with h | h
            · exact counted_n s (by rw [← h]; exact HCT.out)
            · exact h⟩
          go_wp2_with (first
            | (go_at_call 43; (with_reducible refine (entry_any w0 _ g p (t1, t2) HT.out HBt.out (RSt.other H.out HKr.out HP.out (by decide))).mono ?_); rintro e w5 ⟨rfl, h5, hk5⟩; have HT5 := Aside0.mk (show RSt w0 w5 g (entM mk (t1, t2)).2 from h5); have HK5 := Aside0.mk (HKr.out.trans hk5 (.inl rfl)); have HO5 := Aside0.mk (Kd.R_keep HO.out hk5 (fun k hk => by have := H.out.lt; omega)); clear h5 hk5)
            | ((with_reducible refine gate_builtin (b := .append) (xs := #[.tmp 33, .tmp 36]) rfl ?_); at_builtin; go_must (refine Kd.R_append (Kd.iso kT q) (w0 := w0) w0.heap.size rfl (.tmp 33) (.tmp 36) 43 93 (.agg #[.string ⟨#[]⟩, .int .i64 0, .string ⟨#[]⟩, .bool false]) 48 rfl Try.underlying43 info93f rfl (show 0 < 4 by decide) (by omega) u6 out (entM mk (t1, t2)).1 [.string (entR (t1, t2)).1.1, .int .i64 (entR (t1, t2)).1.2.1, .string (entR (t1, t2)).1.2.2.1, .bool (entR (t1, t2)).1.2.2.2] (fun k => W.heap.size ≤ k) (fun _ => False) rfl rfl (ent_M q mk hq _ _ _ _) (fun _ hk => hk.elim) ?aF ?aO ?aB ?aS ?aL ?_); (case aF => exact fun k hk => Nat.le_trans HK5.out.1 hk); (case aO => exact HO5.out); (case aB => exact HT5.out.below); (case aS => exact below_size HT5.out.below); (case aL => have := HL.out; have := HN.out; have := HLo.out; omega); intro v6 w6 ho6 hb6 hg6 _; have HO6 := Aside0.mk ho6; have HT6 := Aside0.mk (HT5.out.grown hg6 (HT5.out.ne HO5.out (by decide)) hb6); have HK6 := Aside0.mk (keep_row HK5.out HO5.out hg6); clear ho6 hb6 hg6))
          go_roundw
          case rel =>
            refine ⟨x + 1, out ++ [(entM mk (t1, t2)).1], (entM mk (t1, t2)).2, rfl, ⟨by omega⟩, ⟨?_⟩, HO6, HT6, HK6, ⟨entR_bs _ HBt.out⟩, ⟨Nat.le_trans (entR_le _) HLt.out⟩, ⟨?_⟩, ⟨.inr HN.out⟩⟩
            · have hm := HM.out
              rw [show ((raw s).1 - x).toNat = ((raw s).1 - (x + 1)).toNat + 1 by omega, manyGo, if_neg HCT.out] at hm
              rw [← hm]
              simp
            · have := HLo.out
              simp only [List.length_append, List.length_singleton]
              omega
          case measure => simp [intOf]; omega
      · go_wp2
        go_ret
        refine ⟨_, rfl, ?_⟩
        have hm := HM.out
        rw [show ((raw s).1 - x).toNat = 0 by omega, manyGo, List.append_nil] at hm
        rw [← hm]
        exact ⟨HO.out, HT.out, HKr.out⟩
end Go.Proofs.Ytjhcbggpbfejgaa.Cr
