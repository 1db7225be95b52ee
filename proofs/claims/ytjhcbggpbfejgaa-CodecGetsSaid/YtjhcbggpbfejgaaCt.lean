import Derived.Test.YtjhcbggpbfejgaaCs
/- PutReply. -/
namespace Go.Proofs.Ytjhcbggpbfejgaa.Cw
open Go.RowKit Go.Proofs.YtjhcbggpbfejgaaW.PrintWords Go.Proofs.YtjhcbggpbfejgaaW.PrintLast Go.Proofs.YtjhcbggpbfejgaaW.PrintMore
open Go.Proofs.Ytjhcbggpbfejgaa.Cp
set_option linter.unusedVariables false
set_option linter.unusedSimpArgs false

theorem WSt.start3 (w : World) (o o2 : Obj) : WSt w (((w.alloc o).alloc (.cells #[.slice none 0 0] 80)).alloc o2) (w.heap.size + 1) (fun _ => False) (((w.alloc o).alloc (.cells #[.slice none 0 0] 80)).alloc o2) [] := by
  refine ⟨below_alloc (below_alloc (below_alloc (Below.refl _ _) _) _) _, Kept.refl _ _, by omega, .slice none 0 0, ?_, Kd.R_nil _ _ _ _ _⟩
  have := blk_alloc (blk_new (w.alloc o) (.cells #[.slice none 0 0] 80)) o2
  simpa using this
def encQ {β : Type} (q : β → Ent) (st tag : Int) (data : ByteArray) (l : List β) (token : ByteArray) : List Int := be8 st ++ be8 tag ++ txt data ++ (be8 (l.length : Int) ++ ebs q l) ++ txt token
set_option maxHeartbeats 1600000 in
set_option maxRecDepth 100000 in
theorem PutReply_any {β : Type} (q : β → Ent) (z : β) (st tag : Int) (data : ByteArray) (l : List β) (token : ByteArray) (A : Option Addr) (cap : Nat) (w : World) (hn : Kd.C (Kd.iso kT q) w A l.length l) (hl : (encQ q st tag data l token).length < 140737488355328) :
    Calls Try.prog 25 #[.agg #[.int .i64 st, .int .i64 tag, .string data, .slice A l.length cap, .string token]] w fun e w' => ∃ v : Value, e = .returned v ∧ Kd.R (Kd.int .u8) 5 w' w.heap.size (fun _ => True) v (encQ q st tag data l token) ∧ Below w.heap.size w w' := by
  have HN := Aside0.mk hn
  unfold encQ at hl
  simp only [List.length_append, be8_len, txt_len] at hl
  have HL := Aside0.mk hl
  obtain ⟨W4, hW4⟩ : ∃ W4, ((w.alloc (.cells #[.int .i64 st, .int .i64 tag, .string data, .slice A l.length cap, .string token] 45)).alloc (.cells #[.slice none 0 0] 80)).alloc (.cells #[.pointer (some ⟨w.heap.size + 1, 0, none⟩)] 78) = W4 := ⟨_, rfl⟩
  have H0 := Aside0.mk (WSt.start3 w (.cells #[.int .i64 st, .int .i64 tag, .string data, .slice A l.length cap, .string token] 45) (.cells #[.pointer (some ⟨w.heap.size + 1, 0, none⟩)] 78))
  have HX := Aside0.mk (blk_alloc (blk_alloc (blk_new w (.cells #[.int .i64 st, .int .i64 tag, .string data, .slice A l.length cap, .string token] 45)) (.cells #[.slice none 0 0] 80)) (.cells #[.pointer (some ⟨w.heap.size + 1, 0, none⟩)] 78))
  have HPb := Aside0.mk (blk_new ((w.alloc (.cells #[.int .i64 st, .int .i64 tag, .string data, .slice A l.length cap, .string token] 45)).alloc (.cells #[.slice none 0 0] 80)) (.cells #[.pointer (some ⟨w.heap.size + 1, 0, none⟩)] 78))
  rw [show ((w.alloc (.cells #[.int .i64 st, .int .i64 tag, .string data, .slice A l.length cap, .string token] 45)).alloc (.cells #[.slice none 0 0] 80)).heap.size = w.heap.size + 1 + 1 by simp] at HPb
  rw [hW4] at H0 HX HPb
  have HB0 : Aside0 (w.heap.size ≤ W4.heap.size) := ⟨H0.out.below.size⟩
  have HW4 := Aside0.mk hW4
  clear hl hn hW4
  go_enter Try.func25, Try.ntmps25
  go_wp2_with (first
    | (go_at_call 36; rw [HW4.out]; (with_reducible refine (number_any w _ _ (fun _ => False) _ [] _ H0.out ?b1).mono ?_); (case b1 => have := HL.out; simp only [List.length_append, be8_len, txt_len, List.length_nil]; omega); rintro e w1 ⟨rfl, h1⟩; have H1 := Aside0.mk h1; have hb1 := h1.other H0.out (fun k hk => hk.elim) HX.out (by decide) (by decide); have hp1 := h1.other H0.out (fun k hk => hk.elim) HPb.out (by decide) (by decide); have px1 := (blk_cell hp1 0).trans rfl; have cx1 := (blk_cell hb1 1).trans rfl; clear h1 hb1 hp1)
    | (go_at_call 36; (with_reducible refine (number_any w _ _ (fun _ => False) w1 ([] ++ be8 st) tag H1.out ?b2).mono ?_); (case b2 => have := HL.out; simp only [List.length_append, be8_len, txt_len, List.length_nil]; omega); rintro e w2 ⟨rfl, h1⟩; have H2 := Aside0.mk h1; have hb1 := h1.other H0.out (fun k hk => hk.elim) HX.out (by decide) (by decide); have hp1 := h1.other H0.out (fun k hk => hk.elim) HPb.out (by decide) (by decide); have px2 := (blk_cell hp1 0).trans rfl; have cx2 := (blk_cell hb1 2).trans rfl; clear h1 hb1 hp1)
    | (go_at_call 50; (with_reducible refine (text_any w _ _ (fun _ => False) w2 ([] ++ be8 st ++ be8 tag) data H2.out ?b3).mono ?_); (case b3 => have := HL.out; simp only [List.length_append, be8_len, txt_len, List.length_nil]; omega); rintro e w3 ⟨rfl, h1⟩; have H3 := Aside0.mk h1; have hb1 := h1.other H0.out (fun k hk => hk.elim) HX.out (by decide) (by decide); have hp1 := h1.other H0.out (fun k hk => hk.elim) HPb.out (by decide) (by decide); have px3 := (blk_cell hp1 0).trans rfl; have cx3 := (blk_cell hb1 3).trans rfl; clear h1 hb1 hp1)
    | (go_at_call 51; (with_reducible refine (listEnt_any q z w W4 _ (w.heap.size + 1 + 1) (fun _ => False) w3 ([] ++ be8 st ++ be8 tag ++ txt data) A cap l H3.out HB0.out (fun W' ys h => h.other H0.out (fun k hk => hk.elim) HPb.out (by decide) (by decide)) (fun W' ys h => Kd.C_below HN.out h.below) ?b4).mono ?_); (case b4 => have := HL.out; simp only [List.length_append, be8_len, txt_len, List.length_nil]; omega); rintro e w4 ⟨rfl, h1⟩; have H4 := Aside0.mk h1; have hb1 := h1.other H0.out (fun k hk => hk.elim) HX.out (by decide) (by decide); have hp1 := h1.other H0.out (fun k hk => hk.elim) HPb.out (by decide) (by decide); have px4 := (blk_cell hp1 0).trans rfl; have cx4 := (blk_cell hb1 4).trans rfl; clear h1 hb1 hp1)
    | (go_at_call 50; (with_reducible refine (text_any w _ _ (fun _ => False) w4 ([] ++ be8 st ++ be8 tag ++ txt data ++ be8 (l.length : Int) ++ ebs q l) token H4.out ?b5).mono ?_); (case b5 => have := HL.out; simp only [List.length_append, be8_len, txt_len, List.length_nil]; omega); rintro e w5 ⟨rfl, h1⟩; have hp1 := h1.other H0.out (fun k hk => hk.elim) HPb.out (by decide) (by decide); have px5 := (blk_cell hp1 0).trans rfl; obtain ⟨hb, hk, hg, v, hc, ho⟩ := h1; obtain ⟨A1, m1, c1, e1⟩ := shape_of ho; subst e1; have HB := Aside0.mk hb; have HO := Aside0.mk ho; have hcell := (blk_cell hc 0).trans rfl; clear hp1 hb hk hg hc ho))
  go_ret
  refine ⟨_, rfl, ?_, HB.out⟩
  have := Kd.R_mono HO.out (fun _ _ => trivial)
  simpa [encQ, List.append_assoc] using this
end Go.Proofs.Ytjhcbggpbfejgaa.Cw
