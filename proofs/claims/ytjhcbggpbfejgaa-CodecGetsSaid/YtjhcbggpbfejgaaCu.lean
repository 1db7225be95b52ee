import Derived.Test.YtjhcbggpbfejgaaCk
import Derived.Test.YtjhcbggpbfejgaaCs
/- The readers of entries. -/
namespace Go.Proofs.Ytjhcbggpbfejgaa.Cr
open Go.RowKit Go.Proofs.YtjhcbggpbfejgaaW.PrintWords Go.Proofs.YtjhcbggpbfejgaaW.PrintLast Go.Proofs.YtjhcbggpbfejgaaW.PrintMore
open Go.Proofs.Ytjhcbggpbfejgaa.Cp Go.Proofs.Ytjhcbggpbfejgaa.Cw
set_option linter.unusedVariables false
set_option linter.unusedSimpArgs false

section
variable {P : Program} {ops : Array Oper} {Q : Exit → Act → World → Prop}
/-- A struct stored into a block of its own, in a region that draws. -/
theorem store_one {oi : Oper} {a : Act} {W : World} {K : Act → World → Prop} (hw : Region.wanted oi (yielded ops a.tmps) = true) (hN : oi.dst = none) (t : TypeId) (p x : Operand) (ho : oi.op = .store t p x) {g e : Nat} {old cs : Array Value} (haddr : a.eval p = .pointer (some ⟨g, 0, none⟩)) (hx : a.eval x = .agg cs)
    (hb : W.heap[g]? = some (.cells old e (0, 0))) (hs : old.size = cs.size) (ht : (P.info? t).map (·.size) = some cs.size) (h1 : ∀ q ∈ cs.toList, q.oneCell' = true)
    (h : ∀ w1, w1.heap[g]? = some (.cells cs e (0, 0)) → W.grownBy w1 (some g) → K a w1) : if Region.wanted oi (yielded ops a.tmps) = true then Oper.wp P oi a W K Q else K (a.put none undef) W := by
  have hl : cs.toList.length = cs.size := Array.length_toList
  have hrun : (Instr.storeAt t (.pointer (some ⟨g, 0, none⟩)) (.agg cs)).run P W = .ok () (W.setCells g 0 cs.toList) :=
    run_store_run t (.agg cs) cs.toList hb rfl (by rw [ht, hl]) (by omega) h1
  obtain ⟨cur', h3, h4, h5⟩ := setCells_row (g := g) cs.toList 0 W old hb (by omega)
  obtain ⟨s1, s2, s3, s4⟩ := setCells_same g cs.toList 0 W
  refine skip_ (w1 := W.setCells g 0 cs.toList) hw hN ?_ (h _ ?_ ⟨s1, s2, s3, by rw [s4]; exact Nat.le_refl _, fun k _ hk => setCells_far _ _ k (fun he => hk (by rw [he]))⟩)
  · unfold execOp
    simp only [ho, haddr, hx, Sem.run_bind, Sem.run_pure, Result.andThen_ok, hrun]
  · rw [h3]
    have : cur' = cs := by
      apply Array.ext'
      rw [h5, List.take_zero, List.nil_append, Nat.zero_add, hl, List.drop_eq_nil_of_le (by rw [Array.length_toList]; omega), List.append_nil]
    rw [this]
end

/-- One entry. -/
def entR (s : St) : Ent × St :=
  let a := txtR s
  let b := numR a.2
  let c := txtR b.2
  let d := byteR 2 c.2
  ((a.1, b.1, c.1, d.1 == 1), d.2)
theorem entR_bs (s : St) (h : Bs s.1) : Bs (entR s).2.1 := by
  unfold entR
  dsimp only
  rw [byteR_1]
  exact (take_bs _ _ (txtR_bs _ (numR_bs _ (txtR_bs s h)))).2
theorem RSt.drew {w0 W : World} {g : Nat} {s : St} (h : RSt w0 W g s) : RSt w0 W.drew g s := by
  obtain ⟨A, c, hb, hg, hc, hl, hB⟩ := h
  exact ⟨A, c, blk_drew hb, hg, hc, hl, below_drew1 hB⟩
theorem KeepBut.drew (W : World) (g : Nat) : KeepBut W W.drew g none := KeepBut.of_below (below_drew1 (Below.refl _ _)) g none
theorem KeepBut.alloc (W : World) (o : Obj) (g : Nat) : KeepBut W (W.alloc o) g none := KeepBut.of_below (below_alloc (Below.refl _ _) o) g none

set_option maxHeartbeats 1600000 in
set_option maxRecDepth 100000 in
theorem entry_any (w0 W : World) (g p : Nat) (s : St) (h : RSt w0 W g s) (hs : Bs s.1) (hp : W.heap[p]? = some (.cells #[.pointer (some ⟨g, 0, none⟩)] 82 (0, 0))) :
    Calls Try.prog 43 #[.pointer (some ⟨p, 0, none⟩)] W fun e w' => e = .returned (.agg #[.string (entR s).1.1, .int .i64 (entR s).1.2.1, .string (entR s).1.2.2.1, .bool (entR s).1.2.2.2]) ∧ RSt w0 w' g (entR s).2 ∧ KeepBut W w' g none := by
  have H := Aside0.mk h
  have HS := Aside0.mk hs
  have HP := Aside0.mk hp
  have HPA := Aside0.mk (blk_alloc hp (.cells #[.string ⟨#[]⟩, .int .i64 0, .string ⟨#[]⟩, .bool false] 93))
  clear h hs hp
  go_enter Try.func43, Try.ntmps43
  go_wp2
  refine start_ (n := 11) (S := fun w' => w'.cell? ⟨p, 0, none⟩ = some (.pointer (some ⟨g, 0, none⟩))) (ds := []) #[false, false, false, false, false, false, false, false, false, false, false] (by kernel_rfl) rfl rfl ((blk_cell (blk_drew HPA.out) 0).trans rfl) (fun hHeld => ?_)
  obtain ⟨W2, hW2⟩ : ∃ W2, (W.alloc (.cells #[.string ⟨#[]⟩, .int .i64 0, .string ⟨#[]⟩, .bool false] 93)).drew = W2 := ⟨_, rfl⟩
  have HA := Aside0.mk (H.out.alloc (.cells #[.string ⟨#[]⟩, .int .i64 0, .string ⟨#[]⟩, .bool false] 93)).drew
  have HP2 := Aside0.mk (blk_drew HPA.out)
  have HR2 := Aside0.mk (blk_drew (blk_new W (.cells #[.string ⟨#[]⟩, .int .i64 0, .string ⟨#[]⟩, .bool false] 93)))
  have HK2 := Aside0.mk ((KeepBut.alloc W (.cells #[.string ⟨#[]⟩, .int .i64 0, .string ⟨#[]⟩, .bool false] 93) g).trans (KeepBut.drew _ g) (.inl rfl))
  rw [hW2] at HA HP2 HR2 HK2 hHeld ⊢
  clear hW2
  refine take_ (i := 0) (N := some 2) (v := ?_) (a' := ?_) #[true, false, false, false, false, false, false, false, false, false, false] rfl rfl (by kernel_rfl) (fun _ _ _ h => h) (Or.inl ⟨by rfl, ?_⟩) hHeld ?_ ?_
  rotate_left
  · rintro w' s0
    go_simp
    with_reducible rfl
  rotate_left
  · simp only [Act.put, List.setIfInBounds_toArray, List.set_cons_zero, List.set_cons_succ, i64_w, i32_w]
    rfl
  refine take_ (i := 2) (N := some 4) (v := ?_) (a' := ?_) #[true, false, true, false, false, false, false, false, false, false, false] rfl rfl (by kernel_rfl) (fun _ _ _ h => h) (Or.inl ⟨by rfl, ?_⟩) hHeld ?_ ?_
  rotate_left
  · rintro w' s0
    go_simp
    with_reducible rfl
  rotate_left
  · simp only [Act.put, List.setIfInBounds_toArray, List.set_cons_zero, List.set_cons_succ, i64_w, i32_w]
    rfl
  refine take_ (i := 4) (N := some 6) (v := ?_) (a' := ?_) #[true, false, true, false, true, false, false, false, false, false, false] rfl rfl (by kernel_rfl) (fun _ _ _ h => h) (Or.inl ⟨by rfl, ?_⟩) hHeld ?_ ?_
  rotate_left
  · rintro w' s0
    go_simp
    with_reducible rfl
  rotate_left
  · simp only [Act.put, List.setIfInBounds_toArray, List.set_cons_zero, List.set_cons_succ, i64_w, i32_w]
    rfl
  refine take_ (i := 6) (N := some 8) (v := ?_) (a' := ?_) #[true, false, true, false, true, false, true, false, false, false, false] rfl rfl (by kernel_rfl) (fun _ _ _ h => h) (Or.inl ⟨by rfl, ?_⟩) hHeld ?_ ?_
  rotate_left
  · rintro w' s0
    go_simp
    with_reducible rfl
  rotate_left
  · simp only [Act.put, List.setIfInBounds_toArray, List.set_cons_zero, List.set_cons_succ, i64_w, i32_w]
    rfl
  refine one_ (i := 1) (N := some 3) #[true, true, true, false, true, false, true, false, false, false, false] rfl rfl (by kernel_rfl) (by decide) (fun K hK => ?_)
  refine goes_ Try.func41 (by kernel_rfl) rfl #[.pointer (some ⟨g, 0, none⟩)] (by rfl) rfl rfl (by (try simp only [List.map_toArray, List.map_cons, List.map_nil]); first | done | rfl) ?_
  refine (text_any w0 _ g s HA.out HS.out).mono ?_
  rintro e w1x ⟨rfl, h1, hk1⟩
  refine ⟨_, rfl, ?_⟩
  have P1 := Aside0.mk (RSt.other HA.out hk1 HP2.out (by decide))
  have Q1 := Aside0.mk (RSt.other HA.out hk1 HR2.out (by decide))
  have G1 := Aside0.mk (show RSt w0 w1x g (txtR s).2 from h1)
  have K1 := Aside0.mk (HK2.out.trans hk1 (.inl rfl))
  clear h1 hk1
  refine hK.out _ _ ((blk_cell P1.out 0).trans rfl) (fun hHeld => ?_)
  clear hK K
  refine norm_ (a' := ?_) ?_ ?_
  rotate_left
  · show Act.put _ (some 3) _ = _
    simp only [Act.put, List.setIfInBounds_toArray, List.set_cons_zero, List.set_cons_succ, i64_w, i32_w]
    rfl
  refine one_ (i := 3) (N := some 5) #[true, true, true, true, true, false, true, false, false, false, false] rfl rfl (by kernel_rfl) (by decide) (fun K hK => ?_)
  refine goes_ Try.func38 (by kernel_rfl) rfl #[.pointer (some ⟨g, 0, none⟩)] (by rfl) rfl rfl (by (try simp only [List.map_toArray, List.map_cons, List.map_nil]); first | done | rfl) ?_
  refine (number_any w0 _ g (txtR s).2 G1.out (txtR_bs s HS.out)).mono ?_
  rintro e w2x ⟨rfl, h1, hk1⟩
  refine ⟨_, rfl, ?_⟩
  have P2 := Aside0.mk (RSt.other G1.out hk1 P1.out (by decide))
  have Q2 := Aside0.mk (RSt.other G1.out hk1 Q1.out (by decide))
  have G2 := Aside0.mk (show RSt w0 w2x g (numR (txtR s).2).2 from h1)
  have K2 := Aside0.mk (K1.out.trans hk1 (.inl rfl))
  clear h1 hk1
  refine hK.out _ _ ((blk_cell P2.out 0).trans rfl) (fun hHeld => ?_)
  clear hK K
  refine norm_ (a' := ?_) ?_ ?_
  rotate_left
  · show Act.put _ (some 5) _ = _
    simp only [Act.put, List.setIfInBounds_toArray, List.set_cons_zero, List.set_cons_succ, i64_w, i32_w]
    rfl
  refine one_ (i := 5) (N := some 7) #[true, true, true, true, true, true, true, false, false, false, false] rfl rfl (by kernel_rfl) (by decide) (fun K hK => ?_)
  refine goes_ Try.func41 (by kernel_rfl) rfl #[.pointer (some ⟨g, 0, none⟩)] (by rfl) rfl rfl (by (try simp only [List.map_toArray, List.map_cons, List.map_nil]); first | done | rfl) ?_
  refine (text_any w0 _ g (numR (txtR s).2).2 G2.out (numR_bs _ (txtR_bs s HS.out))).mono ?_
  rintro e w3x ⟨rfl, h1, hk1⟩
  refine ⟨_, rfl, ?_⟩
  have P3 := Aside0.mk (RSt.other G2.out hk1 P2.out (by decide))
  have Q3 := Aside0.mk (RSt.other G2.out hk1 Q2.out (by decide))
  have G3 := Aside0.mk (show RSt w0 w3x g (txtR (numR (txtR s).2).2).2 from h1)
  have K3 := Aside0.mk (K2.out.trans hk1 (.inl rfl))
  clear h1 hk1
  refine hK.out _ _ ((blk_cell P3.out 0).trans rfl) (fun hHeld => ?_)
  clear hK K
  refine norm_ (a' := ?_) ?_ ?_
  rotate_left
  · show Act.put _ (some 7) _ = _
    simp only [Act.put, List.setIfInBounds_toArray, List.set_cons_zero, List.set_cons_succ, i64_w, i32_w]
    rfl
  refine one_ (i := 7) (N := some 9) #[true, true, true, true, true, true, true, true, false, false, false] rfl rfl (by kernel_rfl) (by decide) (fun K hK => ?_)
  refine goes_ Try.func39 (by kernel_rfl) rfl #[.pointer (some ⟨g, 0, none⟩), .int .u8 2] (by rfl) rfl rfl (by (try simp only [List.map_toArray, List.map_cons, List.map_nil]); first | done | rfl) ?_
  refine (byte_any w0 _ g (txtR (numR (txtR s).2).2).2 2 G3.out (txtR_bs _ (numR_bs _ (txtR_bs s HS.out)))).mono ?_
  rintro e w4x ⟨rfl, h1, hk1⟩
  refine ⟨_, rfl, ?_⟩
  have P4 := Aside0.mk (RSt.other G3.out hk1 P3.out (by decide))
  have Q4 := Aside0.mk (RSt.other G3.out hk1 Q3.out (by decide))
  have G4 := Aside0.mk (show RSt w0 w4x g (entR s).2 from h1)
  have K4 := Aside0.mk (K3.out.trans hk1 (.inl rfl))
  clear h1 hk1
  refine hK.out _ _ ((blk_cell P4.out 0).trans rfl) (fun hHeld => ?_)
  clear hK K
  refine norm_ (a' := ?_) ?_ ?_
  rotate_left
  · show Act.put _ (some 9) _ = _
    simp only [Act.put, List.setIfInBounds_toArray, List.set_cons_zero, List.set_cons_succ, i64_w, i32_w]
    rfl
  refine pure_ (i := 8) (N := some 10) (v := ?_) (a' := ?_) #[true, true, true, true, true, true, true, true, true, false, false] rfl rfl (by kernel_rfl) (fun _ _ _ h => h) (Or.inl ⟨by rfl, ?_⟩) ?_ ?_
  rotate_left
  · intro w'
    go_simp
    with_reducible rfl
  rotate_left
  · simp only [Act.put, List.setIfInBounds_toArray, List.set_cons_zero, List.set_cons_succ, i64_w, i32_w]
    rfl
  refine pure_ (i := 9) (N := some 11) (v := ?_) (a' := ?_) #[true, true, true, true, true, true, true, true, true, true, false] rfl rfl (by kernel_rfl) (fun _ _ _ h => h) (Or.inl ⟨by rfl, ?_⟩) ?_ ?_
  rotate_left
  · intro w'
    go_simp
    with_reducible rfl
  rotate_left
  · simp only [Act.put, List.setIfInBounds_toArray, List.set_cons_zero, List.set_cons_succ, i64_w, i32_w]
    rfl
  refine one_ (i := 10) (N := none) #[true, true, true, true, true, true, true, true, true, true, true] rfl rfl (by kernel_rfl) (by decide) (fun K hK => ?_)
  refine store_one (g := W.heap.size) (e := 93) (old := #[.string ⟨#[]⟩, .int .i64 0, .string ⟨#[]⟩, .bool false]) (cs := #[.string (txtR s).1, .int .i64 (numR (txtR s).2).1, .string (txtR (numR (txtR s).2).2).1, .bool ((byteR 2 (txtR (numR (txtR s).2).2).2).1 == 1)]) (by rfl) rfl 93 (.tmp 1) (.tmp 11) rfl rfl rfl Q4.out rfl info93 ?_ ?_
  · intro q hq; simp at hq; rcases hq with rfl | rfl | rfl | rfl <;> rfl
  intro w9 hb9 hg9
  have hne : W.heap.size ≠ p := by have := blk_lt HP.out; omega
  refine hK.out _ _ ((blk_cell (blk_grown P4.out hg9 (by intro he; injection he with he; exact hne he.symm)) 0).trans rfl) (fun hHeld => ?_)
  clear hK K
  refine done_ (by kernel_rfl) ?_
  have z0 := (blk_cell hb9 0).trans rfl
  have z1 := (blk_cell hb9 1).trans rfl
  have z2 := (blk_cell hb9 2).trans rfl
  have z3 := (blk_cell hb9 3).trans rfl
  have hfin : RSt w0 w9 g (entR s).2 := by
    have hlt := H.out.lt
    exact G4.out.grown hg9 (by intro he; injection he with he; omega) (G4.out.below.grown hg9 G4.out.below.size (fun k hk => by injection hk with hk; have := H.out.below.size; omega))
  have hkp : KeepBut W w9 g none := ⟨Nat.le_trans K4.out.1 hg9.size, fun i hi hi2 _ => (hg9.block i (Nat.lt_of_lt_of_le hi K4.out.1) (by intro he; injection he with he; omega)).trans (K4.out.2 i hi hi2 (by simp))⟩
  try go_wp2
  refine bodyPost_ret (v := .agg #[.string (txtR s).1, .int .i64 (numR (txtR s).2).1, .string (txtR (numR (txtR s).2).2).1, .bool ((byteR 2 (txtR (numR (txtR s).2).2).2).1 == 1)]) (by simp [results, Try.results43, go_sem, z0, z1, z2, z3]) rfl ?_
  exact ⟨rfl, hfin, hkp⟩
end Go.Proofs.Ytjhcbggpbfejgaa.Cr
