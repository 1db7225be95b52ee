import Derived.Test.YtpaopeiegaijiaaGreatDoorXr
/- strings.NewReplacer over eight texts. -/
namespace Go.Proofs.YtpaopeiegaijiaaGreatDoor
open Go.RowKit Go.Shelf Go.Lib Go.Joins Go.Proofs.YtpaopeiegaijiaaGreatDoorW.PrintWords
set_option linter.unusedVariables false
set_option linter.unusedSimpArgs false
section
variable {P : Program} {ops : Array Oper} {rest : List Oper} {o : Oper} {a : Act} {Q : Exit → Act → World → Prop}
theorem store_whole {W : World} (hN : o.dst = none) (hgd : o.guard = none) (t : TypeId) (p x : Operand) (ho : o.op = .store t p x) {g e : Nat} {old cs : Array Value} (haddr : a.eval p = .pointer (some ⟨g, 0, none⟩)) (hx : a.eval x = .agg cs)
    (hb : W.heap[g]? = some (.cells old e (0, 0))) (hs : old.size = cs.size) (ht : (P.info? t).map (·.size) = some cs.size) (h1 : ∀ q ∈ cs.toList, q.oneCell' = true)
    (h : ∀ w1, w1.heap[g]? = some (.cells cs e (0, 0)) → W.grownBy w1 (some g) → wpList P ops Q rest a w1) : wpList P ops Q (o :: rest) a W := by
  have hl : cs.toList.length = cs.size := Array.length_toList
  have hrun : (Instr.storeAt t (.pointer (some ⟨g, 0, none⟩)) (.agg cs)).run P W = .ok () (W.setCells g 0 cs.toList) :=
    run_store_run t (.agg cs) cs.toList hb rfl (by rw [ht, hl]) (by omega) h1
  obtain ⟨cur', h3, h4, h5⟩ := setCells_row (g := g) cs.toList 0 W old hb (by omega)
  obtain ⟨s1, s2, s3, s4⟩ := setCells_same g cs.toList 0 W
  refine wpList_plain hgd fun K hK => ?_
  unfold Oper.wp execOp
  simp only [ho, haddr, hx, Sem.run_bind, Sem.run_pure, Result.andThen_ok, hrun]
  show K (a.put o.dst undef) _
  rw [hN]
  refine hK _ _ (h _ ?_ ⟨s1, s2, s3, by rw [s4]; exact Nat.le_refl _, fun k _ hk => setCells_far _ _ k (fun he => hk (by rw [he]))⟩)
  rw [h3]
  have : cur' = cs := by
    apply Array.ext'
    rw [h5, List.take_zero, List.nil_append, Nat.zero_add, hl, List.drop_eq_nil_of_le (by rw [Array.length_toList]; omega), List.append_nil]
  rw [this]
end
def strsV (l : List (List UInt8)) : List Value := l.map strV
set_option maxHeartbeats 2000000 in
set_option maxRecDepth 100000 in
theorem newReplacer_any (g0 cap0 : Nat) (l : List (List UInt8)) (hl : l.length = 8) (w : World) (hg : ∀ j v, (strsV l)[j]? = some v → w.cell? ((⟨g0, 0, none⟩ : Addr).add j) = some v) :
    Calls Tryz.prog 47 #[.slice (some ⟨g0, 0, none⟩) 8 cap0] w fun e w' => ∃ q g cap, e = .returned (.pointer (some ⟨q, 0, none⟩)) ∧ w.heap.size ≤ g ∧ w.heap.size ≤ q ∧
      w'.heap[q]? = some (.cells #[.int .u32 0, .int .i32 0, .int .u32 0, .nilIface, .slice (some ⟨g, 0, none⟩) 8 cap] 154 (0, 0)) ∧ w'.ownsRow w.heap.size 9 1 (.slice (some ⟨g, 0, none⟩) 8 cap) 8 (strsV l) ∧ Below w.heap.size w w' := by
  obtain ⟨i0, hi, hz⟩ := Option.map_eq_some_iff.1 (show (Tryz.prog.info? 9).map (fun i => (i.zero, i.size, i.bytes)) = some (some (.string ⟨#[]⟩), 1, 16) by kernel_rfl)
  simp only [Prod.mk.injEq] at hz
  obtain ⟨hz0, hz1, hz2⟩ := hz
  have hnil : w.ownsRow w.heap.size 9 1 (.slice none 0 0) 0 [] := ⟨rfl, .inl ⟨rfl, rfl⟩⟩
  go_enter Tryz.func47, Tryz.ntmps47
  go_wp2_with (at_builtin; refine wpList_append_lies _ rfl _ _ 28 rfl w.heap.size 9 i0 _ 1 16 Tryz.underlying28 hi hz0 hz1 hz2 rfl (by decide) (.slice none 0 0) 0 [] rfl hnil ⟨g0, 0, none⟩ 8 cap0 (strsV l) rfl (by unfold strsV; rw [List.length_map, hl]) hg ?c2 (by decide) (by decide) (by decide) (Nat.le_refl _) w.heap.size rfl ?_)
  case c2 => intro x hx; unfold strsV at hx; rw [List.mem_map] at hx; obtain ⟨y, _, rfl⟩ := hx; rfl
  intro g cap w1 hown hgrow hat hlt
  go_wp2
  go_ret
  have hg1 : w.heap.size ≤ g := by
    rcases hown.2 with ⟨h, _⟩ | ⟨g2, c2, cur, h, hb, _⟩
    · cases h
    · simp only [Value.slice.injEq, Option.some.injEq, Addr.mk.injEq] at h; omega
  have hb1 : Below w.heap.size w w1 := ⟨hgrow.os, hgrow.tape, hgrow.output, hgrow.size, fun k hk => hgrow.block k hk (by simp [Value.ownBlock])⟩
  refine ⟨w1.heap.size, g, cap, rfl, hg1, hgrow.size, ?_, ?_, hb1.alloc hgrow.size _⟩
  · exact heap_alloc_new w1 _
  · refine row_kept hown fun k hk => ?_
    simp only [Value.ownBlock, Option.some.injEq] at hk
    subst hk
    exact ((Below.refl w1.heap.size w1).alloc (Nat.le_refl _) _).block _ hlt
end Go.Proofs.YtpaopeiegaijiaaGreatDoor
