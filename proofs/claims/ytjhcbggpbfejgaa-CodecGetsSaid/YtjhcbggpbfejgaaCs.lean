import Derived.Test.YtjhcbggpbfejgaaCe
/- The writer of a list of entries, and PutReply. -/
namespace Go.Proofs.Ytjhcbggpbfejgaa.Cw
open Go.RowKit Go.Proofs.YtjhcbggpbfejgaaW.PrintWords Go.Proofs.YtjhcbggpbfejgaaW.PrintLast Go.Proofs.YtjhcbggpbfejgaaW.PrintMore
open Go.Proofs.Ytjhcbggpbfejgaa.Cp
set_option linter.unusedVariables false
set_option linter.unusedSimpArgs false

theorem info93 : (Try.prog.info? 93).map (·.size) = some 4 := by kernel_rfl
theorem WSt.other_grown {w0 w : World} {g : Nat} {P : Nat → Prop} {W w1 : World} {xs : List Int} (h : WSt w0 w g P W xs) {X t : Nat} {c : Array Value} (hX : W.heap[X]? = some (.cells c t (0, 0))) (h5 : t ≠ 5) (h80 : t ≠ 80) (hlt : w.heap.size ≤ X) (hlt0 : w0.heap.size ≤ X) (hg1 : W.grownBy w1 (some X)) : WSt w0 w g P w1 xs := by
  obtain ⟨hb, hk, hge, v, hc, ho⟩ := h
  have hne : g ≠ X := by
    rintro rfl
    rw [hc] at hX
    injection hX with hX
    injection hX with _ ht
    exact h80 ht.symm
  refine ⟨pw_below_grown hb (some X) hb.size hg1 (fun k hk => by injection hk with hk; omega), Kept.of_grown hg1 hk (fun k hk => by injection hk with hk; exact .inr (by omega)), hge, v, blk_grown hc hg1 (by intro he; injection he with he; exact hne he), Kd.R_grown2 ho rfl hg1 (fun k hk he => ?_)⟩
  injection hk with hk
  subst hk
  exact Kd.R_ne ho hX (fun e => h5 (by simpa using e.symm)) he
def ebs {β : Type} (q : β → Ent) (l : List β) : List Int := l.flatMap (fun x => entB (q x))
theorem ebs_take {β : Type} (q : β → Ent) (z : β) (l : List β) (j : Nat) (hj : j < l.length) : ebs q (l.take (j + 1)) = ebs q (l.take j) ++ entB (q (l.getD j z)) := by
  unfold ebs
  rw [List.take_succ_eq_append_getElem hj, List.flatMap_append]
  congr 1
  simp [List.getD_eq_getElem?_getD, List.getElem?_eq_getElem hj]
theorem ebs_split {β : Type} (q : β → Ent) (z : β) (l : List β) (j : Nat) (hj : j < l.length) : (ebs q (l.take j)).length + (entB (q (l.getD j z))).length ≤ (ebs q l).length := by
  rw [← List.length_append, ← ebs_take q z l j hj]
  unfold ebs
  conv => rhs; rw [← List.take_append_drop (j + 1) l]
  rw [List.flatMap_append, List.length_append]
  omega

set_option maxHeartbeats 1600000 in
set_option maxRecDepth 100000 in
theorem listEnt_any {β : Type} (q : β → Ent) (z : β) (w0 w : World) (g p : Nat) (P : Nat → Prop) (W : World) (xs : List Int) (A : Option Addr) (cap : Nat) (l : List β) (h : WSt w0 w g P W xs) (hw : w0.heap.size ≤ w.heap.size)
    (hp : ∀ W' ys, WSt w0 w g P W' ys → W'.heap[p]? = some (.cells #[.pointer (some ⟨g, 0, none⟩)] 78 (0, 0)))
    (hn : ∀ W' ys, WSt w0 w g P W' ys → Kd.C (Kd.iso kT q) W' A l.length l) (hl : xs.length + 8 + (ebs q l).length < 140737488355328) :
    Calls Try.prog 51 #[.pointer (some ⟨g, 0, none⟩), .slice A l.length cap, .func (.func 52) #[] #[.pointer (some ⟨p, 0, none⟩)]] W fun e w' => e = .returned (.tuple #[]) ∧ WSt w0 w g P w' (xs ++ be8 (l.length : Int) ++ ebs q l) := by
  have H := Aside0.mk h
  have HL := Aside0.mk hl
  have HN := Aside0.mk hn
  have HP := Aside0.mk hp
  have hm := Aside0.mk (hn _ _ h).2.1
  clear h hl hn hp
  go_enter Try.func51, Try.ntmps51
  go_wp2_with (go_at_call 36; go_must (refine (number_any w0 w g P _ xs _ H.out (by have := HL.out; omega)).mono ?_); rintro e w1 ⟨rfl, h1⟩; have H1 := Aside0.mk h1; clear h1)
  go_loopw [14] (fun i wr => ∃ x : Int, i = .int .i64 x ∧ Aside0 (0 ≤ x ∧ x ≤ l.length) ∧ Aside0 (WSt w0 w g P wr (xs ++ be8 (l.length : Int) ++ ebs q (l.take x.toNat)))) (fun i _ => l.length - (intOf i).toNat)
  case atStart => exact ⟨0, rfl, ⟨by omega⟩, ⟨by simpa [ebs] using H1.out⟩⟩
  case round =>
    obtain ⟨x, rfl, HX, HJ⟩ := hrel
    have hmx := hm.out
    obtain ⟨hx0, hx1⟩ := HX.out
    by_cases c : x < l.length
    · have c0 : decide (0 ≤ x) = true := decide_eq_true hx0
      have c1 : decide (x < (l.length : Int)) = true := decide_eq_true c
      obtain ⟨ad, e, hcell, hcell1, hcell2, hcell3⟩ := at_ent z (HN.out _ _ HJ.out) x hx0 c
      cases e
      obtain ⟨y, hy⟩ : ∃ y, l.getD x.toNat z = y := ⟨_, rfl⟩
      have HY := Aside0.mk hy
      rw [hy] at hcell hcell1 hcell2 hcell3
      have HJ2 := Aside0.mk (HJ.out.alloc (.cells #[.string ⟨#[]⟩, .int .i64 0, .string ⟨#[]⟩, .bool false] 93))
      go_wp2_with (first
        | ((with_reducible refine gate_store (t := 93) (p := 7) rfl ?_); go_must (refine Ca.store_whole (g := wr.heap.size) (e := 93) (old := #[.string ⟨#[]⟩, .int .i64 0, .string ⟨#[]⟩, .bool false]) (cs := #[.string (q y).1, .int .i64 (q y).2.1, .string (q y).2.2.1, .bool (q y).2.2.2]) rfl rfl 93 (.tmp 7) (.tmp 17) rfl rfl rfl ?hb rfl info93 ?h1 ?_); go_must (case hb => exact blk_new wr _); go_must (case h1 => intro v hv; simp at hv; rcases hv with rfl | rfl | rfl | rfl <;> rfl); intro w9 hb9 hg9; have d0 := (blk_cell hb9 0).trans rfl; have d1 := (blk_cell hb9 1).trans rfl; have d2 := (blk_cell hb9 2).trans rfl; have d3 := (blk_cell hb9 3).trans rfl; have H9 := Aside0.mk (HJ2.out.other_grown (blk_new wr _) (by decide) (by decide) HJ.out.kept.1 (Nat.le_trans hw HJ.out.kept.1) hg9); clear hb9 hg9))
      have hbd : (xs ++ be8 (l.length : Int) ++ ebs q (l.take x.toNat)).length + (entB ((q y).1, (q y).2.1, (q y).2.2.1, (q y).2.2.2)).length < 140737488355328 := by
        have h1 := HL.out
        have h2 := ebs_split q z l x.toNat (by omega)
        rw [HY.out] at h2
        simp only [List.length_append, be8_len]
        rw [show ((q y).1, (q y).2.1, (q y).2.2.1, (q y).2.2.2) = q y from rfl]
        omega
      go_wp2_with (first | (go_at_call 52; go_must (with_reducible refine (ent_any w0 w g p P w9 _ (q y).1 (q y).2.1 (q y).2.2.1 (q y).2.2.2 H9.out HP.out hbd).mono ?_); rintro e w2 ⟨rfl, h2⟩; have H2 := Aside0.mk h2; clear h2))
      go_roundw
      case rel =>
        refine ⟨x + 1, rfl, ⟨by omega⟩, ⟨?_⟩⟩
        rw [show (x + 1).toNat = x.toNat + 1 by omega, ebs_take q z l x.toNat (by omega), ← List.append_assoc, HY.out]
        exact H2.out
      case measure => simp [intOf]; omega
    · have c1 : decide (x < (l.length : Int)) = false := decide_eq_false c
      go_wp2
      go_end0
      have h2 := HJ.out
      rw [List.take_of_length_le (by omega), List.append_assoc] at h2
      exact ⟨rfl, h2⟩
end Go.Proofs.Ytjhcbggpbfejgaa.Cw
