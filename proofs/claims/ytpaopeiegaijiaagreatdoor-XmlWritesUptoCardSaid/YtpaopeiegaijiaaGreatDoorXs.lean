import Derived.Test.YtpaopeiegaijiaaGreatDoorXr
namespace Go.Proofs.YtpaopeiegaijiaaGreatDoor
open Go.RowKit Go.Shelf Go.Lib Go.Joins Go.Proofs.YtpaopeiegaijiaaGreatDoorW.zgv
set_option linter.unusedVariables false
set_option linter.unusedSimpArgs false
section
variable {P : Program} {ops : Array Oper} {rest : List Oper} {o : Oper} {a : Act} {Q : Exit → Act → World → Prop}
end
def strsV (l : List (List UInt8)) : List Value := l.map strV
set_option maxHeartbeats 2000000 in
set_option maxRecDepth 100000 in
theorem newReplacer_any (g0 cap0 : Nat) (l : List (List UInt8)) (hl : l.length = 8) (w : World) (hg : ∀ j v, (strsV l)[j]? = some v → w.cell? ((⟨g0, 0, none⟩ : Addr).add j) = some v) :
    Calls Tryz.prog 47 #[.slice (some ⟨g0, 0, none⟩) 8 cap0] w fun e w' => ∃ q g cap, e = .returned (.pointer (some ⟨q, 0, none⟩)) ∧ w.heap.size ≤ g ∧ w.heap.size ≤ q ∧
      w'.heap[q]? = some (.cells #[.int .u32 0, .int .i32 0, .int .u32 0, .nilIface, .slice (some ⟨g, 0, none⟩) 8 cap] 154 (0, 0)) ∧ w'.ownsRow w.heap.size 9 1 (.slice (some ⟨g, 0, none⟩) 8 cap) 8 (strsV l) ∧ Below w.heap.size w w' := by
  obtain ⟨i0, hi, hz⟩ := Option.map_eq_some_iff.1 (show (Tryz.prog.info? 9).map (fun i => (i.zero, i.size, i.bytes)) = some (some (.string ⟨#[]⟩), 1, 16) by kernel_rfl)
  simp only [Prod.mk.injEq] at hz
  obtain ⟨hz0, hz1, hz2⟩ := hz
  have hnil : w.ownsRow w.heap.size 9 1 (.slice none 0 0) 0 [] := ⟨rfl, .inl ⟨rfl, rfl⟩⟩
  go_enter Tryz.func47, Tryz.ntmps47
  go_wp2_with (at_builtin; refine wpList_append_lies _ rfl _ _ 28 rfl w.heap.size 9 i0 _ 1 16 Tryz.underlying28 hi hz0 hz1 hz2 rfl (by decide) (.slice none 0 0) 0 [] rfl hnil ⟨g0, 0, none⟩ 8 cap0 (strsV l) rfl (by unfold strsV; rw [List.length_map, hl]) hg ?c2 (by decide) (by decide) (by decide) (Nat.le_refl _) w.heap.size rfl ?_)
  case c2 => intro x hx; unfold strsV at hx; rw [List.mem_map] at hx; obtain ⟨y, _, rfl⟩ := hx; rfl
  intro g cap w1 hown hgrow hat hlt
  go_wp2
  go_ret
  have hg1 : w.heap.size ≤ g := by
    rcases hown.2 with ⟨h, _⟩ | ⟨g2, c2, cur, h, hb, _⟩
    · cases h
    · simp only [Value.slice.injEq, Option.some.injEq, Addr.mk.injEq] at h; omega
  have hb1 : Below w.heap.size w w1 := ⟨hgrow.os, hgrow.tape, hgrow.output, hgrow.size, fun k hk => hgrow.block k hk (by simp [Value.ownBlock])⟩
  refine ⟨w1.heap.size, g, cap, rfl, hg1, hgrow.size, ?_, ?_, hb1.alloc hgrow.size _⟩
  · exact heap_alloc_new w1 _
  · refine zch hown fun k hk => ?_
    simp only [Value.ownBlock, Option.some.injEq] at hk
    subst hk
    exact ((Below.refl w1.heap.size w1).alloc (Nat.le_refl _) _).block _ hlt
end Go.Proofs.YtpaopeiegaijiaaGreatDoor
