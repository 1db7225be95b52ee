import Derived.Test.YtjhcbggpbfejgaaCl
/- The writer of entries: PutReply's list. Generic in the entry's type: g tells its four parts. -/
namespace Go.Proofs.Ytjhcbggpbfejgaa.Cw
open Go.RowKit Go.Proofs.YtjhcbggpbfejgaaW.PrintWords Go.Proofs.YtjhcbggpbfejgaaW.PrintLast Go.Proofs.YtjhcbggpbfejgaaW.PrintMore
open Go.Proofs.Ytjhcbggpbfejgaa.Cp
set_option linter.unusedVariables false
set_option linter.unusedSimpArgs false

abbrev Ent := ByteArray × Int × ByteArray × Bool
abbrev kT : Kd Ent := Kd.pair Kd.string (Kd.pair (Kd.int .i64) (Kd.pair Kd.string Kd.bool))
def bit (b : Bool) : Int := if b then 1 else 0
def entB (e : Ent) : List Int := txt e.1 ++ be8 e.2.1 ++ txt e.2.2.1 ++ [bit e.2.2.2]
def entsB (l : List Ent) : List Int := l.flatMap entB
def encR (st tag : Int) (data : ByteArray) (l : List Ent) (token : ByteArray) : List Int := be8 st ++ be8 tag ++ txt data ++ (be8 (l.length : Int) ++ entsB l) ++ txt token
theorem entB_len (e : Ent) : (entB e).length = 25 + e.1.size + e.2.2.1.size := by
  simp only [entB, List.length_append, be8_len, txt_len, List.length_cons, List.length_nil]
  omega
theorem kT_open {w : World} {x : Ent} {cs : List Value} (h : kT.K w x cs) : cs = [.string x.1, .int .i64 x.2.1, .string x.2.2.1, .bool x.2.2.2] := by
  obtain ⟨_, _, rfl, rfl, ⟨_, _, rfl, rfl, ⟨_, _, rfl, rfl, rfl⟩⟩⟩ := h
  exact rfl
theorem at_ent {β : Type} {g : β → Ent} {w : World} {A : Option Addr} {n : Nat} {xs : List β} (z : β) (h : Kd.C (Kd.iso kT g) w A n xs) (i : Int) (h0 : 0 ≤ i) (h1 : i < n) :
    ∃ ad, A = some ad ∧ w.cell? (ad.add (i.toNat * 4)) = some (.string (g (xs.getD i.toNat z)).1) ∧ w.cell? ⟨(ad.add (i.toNat * 4)).block, (ad.add (i.toNat * 4)).off + 1, none⟩ = some (.int .i64 (g (xs.getD i.toNat z)).2.1)
      ∧ w.cell? ⟨(ad.add (i.toNat * 4)).block, (ad.add (i.toNat * 4)).off + 2, none⟩ = some (.string (g (xs.getD i.toNat z)).2.2.1) ∧ w.cell? ⟨(ad.add (i.toNat * 4)).block, (ad.add (i.toNat * 4)).off + 3, none⟩ = some (.bool (g (xs.getD i.toNat z)).2.2.2) := by
  obtain ⟨ad, c, e, _, hK, hc0⟩ := Kd.C_get h z i h0 h1
  have hc : ∀ j u, c[j]? = some u → w.cell? (ad.add (i.toNat * 4 + j)) = some u := hc0
  obtain rfl := kT_open hK
  exact ⟨ad, e, hc 0 _ rfl, by rw [← add_field _ _ 1 (by omega)]; exact hc 1 _ rfl, by rw [← add_field _ _ 2 (by omega)]; exact hc 2 _ rfl, by rw [← add_field _ _ 3 (by omega)]; exact hc 3 _ rfl⟩

set_option maxHeartbeats 1600000 in
set_option maxRecDepth 100000 in
theorem ent_any (w0 w : World) (g p : Nat) (P : Nat → Prop) (W : World) (xs : List Int) (n : ByteArray) (t : Int) (d : ByteArray) (b : Bool) (h : WSt w0 w g P W xs)
    (hp : ∀ W' ys, WSt w0 w g P W' ys → W'.heap[p]? = some (.cells #[.pointer (some ⟨g, 0, none⟩)] 78 (0, 0))) (hl : xs.length + (entB (n, t, d, b)).length < 140737488355328) :
    Calls Try.prog 52 #[.agg #[.string n, .int .i64 t, .string d, .bool b], .pointer (some ⟨p, 0, none⟩)] W fun e w' => e = .returned (.tuple #[]) ∧ WSt w0 w g P w' (xs ++ entB (n, t, d, b)) := by
  obtain ⟨P2, h2, hp2⟩ := (h.alloc (.cells #[.string n, .int .i64 t, .string d, .bool b] 93)).rebase
  have H0 := Aside0.mk (h.alloc (.cells #[.string n, .int .i64 t, .string d, .bool b] 93))
  have H2 := Aside0.mk h2
  have HP2 := Aside0.mk hp2
  rw [entB_len] at hl
  dsimp only at hl
  have HL := Aside0.mk hl
  have HX := Aside0.mk (blk_new W (.cells #[.string n, .int .i64 t, .string d, .bool b] 93))
  have HP : Aside0 (∀ W' ys, WSt w0 (W.alloc (.cells #[.string n, .int .i64 t, .string d, .bool b] 93)) g P2 W' ys → W'.heap[p]? = some (.cells #[.pointer (some ⟨g, 0, none⟩)] 78 (0, 0))) :=
    ⟨fun W' ys h' => hp _ _ (H0.out.trans h' (fun k hk => (HP2.out k hk).1))⟩
  have hpc0 := (blk_cell (HP.out _ _ h2) 0).trans rfl
  clear h hl hp h2 hp2
  cases b
  case false =>
    go_enter Try.func52, Try.ntmps52
    go_wp2_with (first
      | (go_at_call 50; (with_reducible refine (text_any w0 _ g P2 (W.alloc (.cells #[.string n, .int .i64 t, .string d, .bool false] 93)) xs n H2.out ?b1).mono ?_); (case b1 => have := HL.out; rw [txt_len]; omega); rintro e w1 ⟨rfl, h1⟩; have H1 := Aside0.mk h1; have hb1 := h1.other H2.out (fun k hk => (HP2.out k hk).2) HX.out (by decide) (by decide); have c1 := (blk_cell hb1 1).trans rfl; have hpc1 := (blk_cell (HP.out _ _ h1) 0).trans rfl; clear h1 hb1)
      | (go_at_call 36; (with_reducible refine (number_any w0 _ g P2 w1 (xs ++ txt n) t H1.out ?b2).mono ?_); (case b2 => have := HL.out; rw [List.length_append, txt_len]; omega); rintro e w3 ⟨rfl, h1⟩; have H3 := Aside0.mk h1; have hb1 := h1.other H2.out (fun k hk => (HP2.out k hk).2) HX.out (by decide) (by decide); have c2 := (blk_cell hb1 2).trans rfl; have hpc3 := (blk_cell (HP.out _ _ h1) 0).trans rfl; clear h1 hb1)
      | (go_at_call 50; (with_reducible refine (text_any w0 _ g P2 w3 (xs ++ txt n ++ be8 t) d H3.out ?b3).mono ?_); (case b3 => have := HL.out; simp only [List.length_append, txt_len, be8_len]; omega); rintro e w4 ⟨rfl, h1⟩; have H4 := Aside0.mk h1; have hb1 := h1.other H2.out (fun k hk => (HP2.out k hk).2) HX.out (by decide) (by decide); have c3 := (blk_cell hb1 3).trans rfl; have hpb := HP.out _ _ h1; have hpc4 := (blk_cell hpb 0).trans rfl; have HPB := Aside0.mk hpb; obtain ⟨hb, hk, hg, v, hc, ho⟩ := h1; obtain ⟨A3, m3, k3, e3⟩ := shape_of ho; subst e3; have HB := Aside0.mk hb; have HK := Aside0.mk hk; have HG := Aside0.mk hg; have HC := Aside0.mk hc; have HO := Aside0.mk ho; have hcell := (blk_cell hc 0).trans rfl; have hcellA := fun o => (blk_cell (blk_alloc hc o) 0).trans rfl; have hpcA := fun o => (blk_cell (blk_alloc hpb o) 0).trans rfl; clear hb1 hpb hb hk hg hc ho))
    go_region_law (refine Ca.append_drawn (w0 := w0) w4 w0.heap.size (by rfl) (.tmp 22) (.tmp 24) 27 5 (by rfl) Try.underlying27 info5 (.slice A3 m3 k3) (xs ++ txt n ++ be8 t ++ txt d) 0 (fun k => P2 k ∨ (W.alloc (.cells #[.string n, .int .i64 t, .string d, .bool false] 93)).heap.size ≤ k) (by rfl) (by rfl) (fun k hk => .inr (Nat.le_trans HK.out.1 hk)) HO.out HB.out (below_size HB.out) (by have := HL.out; simp only [List.length_append, txt_len, be8_len]; omega) ?_; intro v4 w5 ho1 hb1 hg1; obtain ⟨A1, m1, cc1, e1⟩ := shape_of ho1; subst e1; have hc1 := blk_grown HC.out hg1 (Kd.R_ne HO.out HC.out (by decide)); have hcell1 := (blk_cell hc1 0).trans rfl; have hfz1 := blk_frozen hc1 0; have hpb5 := blk_grown HPB.out hg1 (Kd.R_ne HO.out HPB.out (by decide)); have hpc5 := (blk_cell hpb5 0).trans rfl; have HO1 := Aside0.mk ho1; have HB1 := Aside0.mk hb1; have HG1 := Aside0.mk hg1; clear hc1 ho1 hb1 hg1 hpb5)
    all_goals go_wp2
    all_goals go_end0
    all_goals (refine ⟨rfl, ?_⟩)
    all_goals (have h9 := H0.out.trans (WSt.put HK.out HG.out HC.out HO.out HO1.out HB1.out HG1.out) (fun k hk => (HP2.out k hk).1); simpa [entB, bit, List.append_assoc] using h9)
  case true =>
    go_enter Try.func52, Try.ntmps52
    go_wp2_with (first
      | (go_at_call 50; (with_reducible refine (text_any w0 _ g P2 (W.alloc (.cells #[.string n, .int .i64 t, .string d, .bool true] 93)) xs n H2.out ?b1).mono ?_); (case b1 => have := HL.out; rw [txt_len]; omega); rintro e w1 ⟨rfl, h1⟩; have H1 := Aside0.mk h1; have hb1 := h1.other H2.out (fun k hk => (HP2.out k hk).2) HX.out (by decide) (by decide); have c1 := (blk_cell hb1 1).trans rfl; have hpc1 := (blk_cell (HP.out _ _ h1) 0).trans rfl; clear h1 hb1)
      | (go_at_call 36; (with_reducible refine (number_any w0 _ g P2 w1 (xs ++ txt n) t H1.out ?b2).mono ?_); (case b2 => have := HL.out; rw [List.length_append, txt_len]; omega); rintro e w3 ⟨rfl, h1⟩; have H3 := Aside0.mk h1; have hb1 := h1.other H2.out (fun k hk => (HP2.out k hk).2) HX.out (by decide) (by decide); have c2 := (blk_cell hb1 2).trans rfl; have hpc3 := (blk_cell (HP.out _ _ h1) 0).trans rfl; clear h1 hb1)
      | (go_at_call 50; (with_reducible refine (text_any w0 _ g P2 w3 (xs ++ txt n ++ be8 t) d H3.out ?b3).mono ?_); (case b3 => have := HL.out; simp only [List.length_append, txt_len, be8_len]; omega); rintro e w4 ⟨rfl, h1⟩; have H4 := Aside0.mk h1; have hb1 := h1.other H2.out (fun k hk => (HP2.out k hk).2) HX.out (by decide) (by decide); have c3 := (blk_cell hb1 3).trans rfl; have hpb := HP.out _ _ h1; have hpc4 := (blk_cell hpb 0).trans rfl; have HPB := Aside0.mk hpb; obtain ⟨hb, hk, hg, v, hc, ho⟩ := h1; obtain ⟨A3, m3, k3, e3⟩ := shape_of ho; subst e3; have HB := Aside0.mk hb; have HK := Aside0.mk hk; have HG := Aside0.mk hg; have HC := Aside0.mk hc; have HO := Aside0.mk ho; have hcell := (blk_cell hc 0).trans rfl; have hcellA := fun o => (blk_cell (blk_alloc hc o) 0).trans rfl; have hpcA := fun o => (blk_cell (blk_alloc hpb o) 0).trans rfl; clear hb1 hpb hb hk hg hc ho))
    go_region_law (refine Ca.append_drawn (w0 := w0) w4 w0.heap.size (by rfl) (.tmp 22) (.tmp 24) 27 5 (by rfl) Try.underlying27 info5 (.slice A3 m3 k3) (xs ++ txt n ++ be8 t ++ txt d) 1 (fun k => P2 k ∨ (W.alloc (.cells #[.string n, .int .i64 t, .string d, .bool true] 93)).heap.size ≤ k) (by rfl) (by rfl) (fun k hk => .inr (Nat.le_trans HK.out.1 hk)) HO.out HB.out (below_size HB.out) (by have := HL.out; simp only [List.length_append, txt_len, be8_len]; omega) ?_; intro v4 w5 ho1 hb1 hg1; obtain ⟨A1, m1, cc1, e1⟩ := shape_of ho1; subst e1; have hc1 := blk_grown HC.out hg1 (Kd.R_ne HO.out HC.out (by decide)); have hcell1 := (blk_cell hc1 0).trans rfl; have hfz1 := blk_frozen hc1 0; have hpb5 := blk_grown HPB.out hg1 (Kd.R_ne HO.out HPB.out (by decide)); have hpc5 := (blk_cell hpb5 0).trans rfl; have HO1 := Aside0.mk ho1; have HB1 := Aside0.mk hb1; have HG1 := Aside0.mk hg1; clear hc1 ho1 hb1 hg1 hpb5)
    all_goals go_wp2
    all_goals go_end0
    all_goals (refine ⟨rfl, ?_⟩)
    all_goals (have h9 := H0.out.trans (WSt.put HK.out HG.out HC.out HO.out HO1.out HB1.out HG1.out) (fun k hk => (HP2.out k hk).1); simpa [entB, bit, List.append_assoc] using h9)
end Go.Proofs.Ytjhcbggpbfejgaa.Cw
