import Derived.Test.YtjhcbggpbfejgaaCv
import Derived.Deep.DeepCutAuto
/- GetReply. Printed by gen_cx.py. -/
namespace Go.Proofs.Ytjhcbggpbfejgaa.Cr
open Go.RowKit Go.Proofs.YtjhcbggpbfejgaaW.PrintWords Go.Proofs.YtjhcbggpbfejgaaW.PrintLast Go.Proofs.YtjhcbggpbfejgaaW.PrintMore
open Go.Proofs.Ytjhcbggpbfejgaa.Cp Go.Proofs.Ytjhcbggpbfejgaa.Cw
set_option linter.unusedVariables false
set_option linter.unusedSimpArgs false

theorem info45 : (Try.prog.info? 45).map (·.size) = some 5 := by kernel_rfl
theorem ent_E : ∀ k, k ∈ 93 :: kT.E → k ≠ 45 := by decide
theorem manyGo_ent_bs {β : Type} (mk : Ent → β) (k : Nat) : ∀ s : St, Bs s.1 → Bs (manyGo (entM mk) k s).2.1 := by
  induction k with
  | zero => exact fun s h => h
  | succ k ih =>
    intro s h
    rw [manyGo]
    split
    · exact h
    · exact ih _ (entR_bs s h)
theorem manyEnt_bs {β : Type} (mk : Ent → β) (s : St) (h : Bs s.1) : Bs (many (entM mk) s).2.1 := manyGo_ent_bs mk _ _ (counted_bs s h)
structure Rep (β : Type) where
  st : Int
  tag : Int
  data : ByteArray
  ents : List β
  token : ByteArray
def repR {β : Type} (mk : Ent → β) (s : St) : Rep β × St :=
  (⟨(numR s).1, (numR (numR s).2).1, (txtR (numR (numR s).2).2).1, (many (entM mk) (txtR (numR (numR s).2).2).2).1, (txtR (many (entM mk) (txtR (numR (numR s).2).2).2).2).1⟩, (txtR (many (entM mk) (txtR (numR (numR s).2).2).2).2).2)
def getReply {β : Type} (mk : Ent → β) (xs : List Int) : Rep β × Int := if doneE (repR mk (xs, 0)).2 = 0 then ((repR mk (xs, 0)).1, 0) else (⟨0, 0, ⟨#[]⟩, [], ⟨#[]⟩⟩, doneE (repR mk (xs, 0)).2)
def RepOut {β : Type} (q : β → Ent) (w : World) (r : Rep β × Int) (e : Ending) (w' : World) : Prop :=
  ∃ v, e = .returned (.tuple #[.agg #[.int .i64 r.1.st, .int .i64 r.1.tag, .string r.1.data, v, .string r.1.token], .int .i64 r.2]) ∧ Kd.R (Kd.iso kT q) 93 w' w.heap.size (fun _ => True) v r.1.ents ∧ Below w.heap.size w w'

def RepMid (w wc : World) (X : Nat) (xs : List Int) : Prop := w.heap.size + 1 + 1 < X ∧ wc.heap[X]? = some (.cells #[.int .i64 (numR (xs, 0)).1, .int .i64 (numR (numR (xs, 0)).2).1, .string (txtR (numR (numR (xs, 0)).2).2).1, .slice none 0 0, .string ⟨#[]⟩] 45 (0, 0)) ∧ wc.heap[w.heap.size + 1 + 1]? = some (.cells #[.pointer (some ⟨w.heap.size + 1, 0, none⟩)] 82 (0, 0)) ∧ wc.heap[w.heap.size]? = some (.cells #[.int .i64 0, .int .i64 0, .string ⟨#[]⟩, .slice none 0 0, .string ⟨#[]⟩] 45 (0, 0)) ∧ RSt w wc (w.heap.size + 1) (txtR (numR (numR (xs, 0)).2).2).2
set_option maxHeartbeats 3200000 in
set_option maxRecDepth 100000 in
theorem GetReply_any {β : Type} (q : β → Ent) (mk : Ent → β) (hq : ∀ e, q (mk e) = e) (xs : List Int) (A : Option Addr) (c : Nat) (w : World) (hc : Kd.C (Kd.int .u8) w A xs.length xs) (hl : xs.length ≤ c) (hs : Bs xs) (hb : xs.length ≤ 1099511627776) :
    Calls Try.prog 16 #[.slice A xs.length c] w (RepOut q w (getReply mk xs)) := by
  have HC := Aside0.mk hc
  have HL := Aside0.mk hl
  have HS := Aside0.mk hs
  have HB := Aside0.mk hb
  have HRA := Aside0.mk ((RSt.begin (below_alloc (Below.refl w.heap.size w) (.cells #[.int .i64 0, .int .i64 0, .string ⟨#[]⟩, .slice none 0 0, .string ⟨#[]⟩] 45)) hc hl (g := w.heap.size + 1) (by simp)).alloc (.cells #[.pointer (some ⟨w.heap.size + 1, 0, none⟩)] 82))
  have HZA := Aside0.mk (blk_alloc (blk_alloc (blk_new w (.cells #[.int .i64 0, .int .i64 0, .string ⟨#[]⟩, .slice none 0 0, .string ⟨#[]⟩] 45)) (.cells #[.slice A xs.length c, .int .i64 0] 84)) (.cells #[.pointer (some ⟨w.heap.size + 1, 0, none⟩)] 82))
  have HPA := Aside0.mk (blk_new ((w.alloc (.cells #[.int .i64 0, .int .i64 0, .string ⟨#[]⟩, .slice none 0 0, .string ⟨#[]⟩] 45)).alloc (.cells #[.slice A xs.length c, .int .i64 0] 84)) (.cells #[.pointer (some ⟨w.heap.size + 1, 0, none⟩)] 82))
  rw [show ((w.alloc (.cells #[.int .i64 0, .int .i64 0, .string ⟨#[]⟩, .slice none 0 0, .string ⟨#[]⟩] 45)).alloc (.cells #[.slice A xs.length c, .int .i64 0] 84)).heap.size = w.heap.size + 1 + 1 by simp] at HPA
  clear hc hl hs hb
  by_cases he : doneE (txtR (many (entM mk) (txtR (numR (numR (xs, 0)).2).2).2).2).2 = 0
  · have HG := Aside0.mk (show getReply mk xs = ((repR mk (xs, 0)).1, 0) from if_pos he)
    have e1 : (doneE (txtR (many (entM mk) (txtR (numR (numR (xs, 0)).2).2).2).2).2 == 0) = true := beq_iff_eq.2 he
    have e2 : (doneE (txtR (many (entM mk) (txtR (numR (numR (xs, 0)).2).2).2).2).2 != 0) = false := by simp [he]
    clear he
    go_enter Try.func16, Try.ntmps16
    go_wp2
    go_cut [5] (fun a5 wc => ∃ X : Nat, a5 = .pointer (some ⟨X, 0, none⟩) ∧ Aside0 (RepMid w wc X xs))
    case first =>
      refine start_ (n := 9) (S := fun w' => w'.cell? ⟨(w.heap.size + 1 + 1), 0, none⟩ = some (.pointer (some ⟨(w.heap.size + 1), 0, none⟩))) (ds := []) #[false, false, false, false, false, false, false, false, false] (by kernel_rfl) rfl rfl ((blk_cell (blk_drew HPA.out) 0).trans rfl) (fun hHeld => ?_)
      obtain ⟨W2, hW2⟩ : ∃ W2, (((w.alloc (.cells #[.int .i64 0, .int .i64 0, .string ⟨#[]⟩, .slice none 0 0, .string ⟨#[]⟩] 45)).alloc (.cells #[.slice A xs.length c, .int .i64 0] 84)).alloc (.cells #[.pointer (some ⟨w.heap.size + 1, 0, none⟩)] 82)).drew = W2 := ⟨_, rfl⟩
      have G0 := Aside0.mk HRA.out.drew
      have P0 := Aside0.mk (blk_drew HPA.out)
      have Q0 := Aside0.mk (blk_drew HZA.out)
      rw [hW2] at G0 P0 Q0 hHeld ⊢
      clear hW2
      refine take_ (i := 0) (N := some 10) (v := ?_) (a' := ?_) #[true, false, false, false, false, false, false, false, false] rfl rfl (by kernel_rfl) (fun _ _ _ h => h) (Or.inl ⟨by rfl, ?_⟩) hHeld ?_ ?_
      rotate_left
      · rintro w' s0
        go_simp
        with_reducible rfl
      rotate_left
      · simp only [Act.put, List.setIfInBounds_toArray, List.set_cons_zero, List.set_cons_succ, i64_w, i32_w]
        rfl
      refine take_ (i := 2) (N := some 12) (v := ?_) (a' := ?_) #[true, false, true, false, false, false, false, false, false] rfl rfl (by kernel_rfl) (fun _ _ _ h => h) (Or.inl ⟨by rfl, ?_⟩) hHeld ?_ ?_
      rotate_left
      · rintro w' s0
        go_simp
        with_reducible rfl
      rotate_left
      · simp only [Act.put, List.setIfInBounds_toArray, List.set_cons_zero, List.set_cons_succ, i64_w, i32_w]
        rfl
      refine take_ (i := 4) (N := some 14) (v := ?_) (a' := ?_) #[true, false, true, false, true, false, false, false, false] rfl rfl (by kernel_rfl) (fun _ _ _ h => h) (Or.inl ⟨by rfl, ?_⟩) hHeld ?_ ?_
      rotate_left
      · rintro w' s0
        go_simp
        with_reducible rfl
      rotate_left
      · simp only [Act.put, List.setIfInBounds_toArray, List.set_cons_zero, List.set_cons_succ, i64_w, i32_w]
        rfl
      refine two_ (i := 1) (j := 7) (Ni := some 11) (Nj := some 5) #[true, true, true, false, true, false, false, false, false] #[true, false, true, false, true, false, false, true, false] rfl rfl rfl rfl (by kernel_rfl) (by decide) (by decide) (fun K hK => ?_) (fun K hK => ?_)
      · refine goes_ Try.func38 (by kernel_rfl) rfl #[.pointer (some ⟨(w.heap.size + 1), 0, none⟩)] (by rfl) rfl rfl (by (try simp only [List.map_toArray, List.map_cons, List.map_nil]); first | done | rfl) ?_
        refine (number_any w _ _ (xs, 0) G0.out HS.out).mono ?_
        rintro e w1x ⟨rfl, h1, hk1⟩
        refine ⟨_, rfl, ?_⟩
        have P1 := Aside0.mk (RSt.other G0.out hk1 P0.out (by decide))
        have Q1 := Aside0.mk (RSt.other G0.out hk1 Q0.out (by decide))
        have G1 := Aside0.mk (show RSt w w1x (w.heap.size + 1) (numR (xs, 0)).2 from h1)
        clear h1 hk1
        refine hK.out _ _ ((blk_cell P1.out 0).trans rfl) (fun hHeld => ?_)
        clear hK K
        refine norm_ (a' := ?_) ?_ ?_
        rotate_left
        · show Act.put _ (some 11) _ = _
          simp only [Act.put, List.setIfInBounds_toArray, List.set_cons_zero, List.set_cons_succ, i64_w, i32_w]
          rfl
        refine two_ (i := 3) (j := 7) (Ni := some 13) (Nj := some 5) #[true, true, true, true, true, false, false, false, false] #[true, true, true, false, true, false, false, true, false] rfl rfl rfl rfl (by kernel_rfl) (by decide) (by decide) (fun K hK => ?_) (fun K hK => ?_)
        · refine goes_ Try.func38 (by kernel_rfl) rfl #[.pointer (some ⟨(w.heap.size + 1), 0, none⟩)] (by rfl) rfl rfl (by (try simp only [List.map_toArray, List.map_cons, List.map_nil]); first | done | rfl) ?_
          refine (number_any w _ _ (numR (xs, 0)).2 G1.out (numR_bs _ HS.out)).mono ?_
          rintro e w2x ⟨rfl, h1, hk1⟩
          refine ⟨_, rfl, ?_⟩
          have P2 := Aside0.mk (RSt.other G1.out hk1 P1.out (by decide))
          have Q2 := Aside0.mk (RSt.other G1.out hk1 Q1.out (by decide))
          have G2 := Aside0.mk (show RSt w w2x (w.heap.size + 1) (numR (numR (xs, 0)).2).2 from h1)
          clear h1 hk1
          refine hK.out _ _ ((blk_cell P2.out 0).trans rfl) (fun hHeld => ?_)
          clear hK K
          refine norm_ (a' := ?_) ?_ ?_
          rotate_left
          · show Act.put _ (some 13) _ = _
            simp only [Act.put, List.setIfInBounds_toArray, List.set_cons_zero, List.set_cons_succ, i64_w, i32_w]
            rfl
          refine two_ (i := 5) (j := 7) (Ni := some 15) (Nj := some 5) #[true, true, true, true, true, true, false, false, false] #[true, true, true, true, true, false, false, true, false] rfl rfl rfl rfl (by kernel_rfl) (by decide) (by decide) (fun K hK => ?_) (fun K hK => ?_)
          · refine goes_ Try.func41 (by kernel_rfl) rfl #[.pointer (some ⟨(w.heap.size + 1), 0, none⟩)] (by rfl) rfl rfl (by (try simp only [List.map_toArray, List.map_cons, List.map_nil]); first | done | rfl) ?_
            refine (text_any w _ _ (numR (numR (xs, 0)).2).2 G2.out (numR_bs _ (numR_bs _ HS.out))).mono ?_
            rintro e w3x ⟨rfl, h1, hk1⟩
            refine ⟨_, rfl, ?_⟩
            have P3 := Aside0.mk (RSt.other G2.out hk1 P2.out (by decide))
            have Q3 := Aside0.mk (RSt.other G2.out hk1 Q2.out (by decide))
            have G3 := Aside0.mk (show RSt w w3x (w.heap.size + 1) (txtR (numR (numR (xs, 0)).2).2).2 from h1)
            clear h1 hk1
            refine hK.out _ _ ((blk_cell P3.out 0).trans rfl) (fun hHeld => ?_)
            clear hK K
            refine norm_ (a' := ?_) ?_ ?_
            rotate_left
            · show Act.put _ (some 15) _ = _
              simp only [Act.put, List.setIfInBounds_toArray, List.set_cons_zero, List.set_cons_succ, i64_w, i32_w]
              rfl
            refine pure_ (i := 6) (N := some 16) (v := ?_) (a' := ?_) #[true, true, true, true, true, true, true, false, false] rfl rfl (by kernel_rfl) (fun _ _ _ h => h) (Or.inl ⟨by rfl, ?_⟩) ?_ ?_
            rotate_left
            · intro w'
              go_simp
              with_reducible rfl
            rotate_left
            · simp only [Act.put, List.setIfInBounds_toArray, List.set_cons_zero, List.set_cons_succ, i64_w, i32_w]
              rfl
            refine one_ (i := 7) (N := some 5) #[true, true, true, true, true, true, true, true, false] rfl rfl (by kernel_rfl) (by decide) (fun K hK => ?_)
            refine value_ (w1 := w3x.alloc (.cells #[.int .i64 0, .int .i64 0, .string ⟨#[]⟩, .slice none 0 0, .string ⟨#[]⟩] 45)) (v := .pointer (some ⟨w3x.heap.size, 0, none⟩)) (by rfl) rfl ?_ ?_
            · go_simp
            refine hK.out _ _ ((blk_cell (blk_alloc P3.out _) 0).trans rfl) (fun hHeld => ?_)
            clear hK K
            refine norm_ (a' := ?_) ?_ ?_
            rotate_left
            · show Act.put _ (some 5) _ = _
              simp only [Act.put, List.setIfInBounds_toArray, List.set_cons_zero, List.set_cons_succ, i64_w, i32_w]
              rfl
            have PL3 := P3
            have P3 := Aside0.mk (blk_alloc P3.out (.cells #[.int .i64 0, .int .i64 0, .string ⟨#[]⟩, .slice none 0 0, .string ⟨#[]⟩] 45))
            have LX : Aside0 (w.heap.size + 1 + 1 < w3x.heap.size) := ⟨by have := blk_lt PL3.out; omega⟩
            have Q3 := Aside0.mk (blk_alloc Q3.out (.cells #[.int .i64 0, .int .i64 0, .string ⟨#[]⟩, .slice none 0 0, .string ⟨#[]⟩] 45))
            have G3 := Aside0.mk (RSt.alloc G3.out (.cells #[.int .i64 0, .int .i64 0, .string ⟨#[]⟩, .slice none 0 0, .string ⟨#[]⟩] 45))
            have X3 := Aside0.mk (blk_new w3x (.cells #[.int .i64 0, .int .i64 0, .string ⟨#[]⟩, .slice none 0 0, .string ⟨#[]⟩] 45))
            generalize hX : w3x.heap.size = X at X3 LX ⊢
            generalize hW : w3x.alloc (.cells #[.int .i64 0, .int .i64 0, .string ⟨#[]⟩, .slice none 0 0, .string ⟨#[]⟩] 45) = wA at P3 Q3 G3 X3 hHeld ⊢
            clear hX hW
            refine one_ (i := 8) (N := none) #[true, true, true, true, true, true, true, true, true] rfl rfl (by kernel_rfl) (by decide) (fun K hK => ?_)
            refine store_one (g := X) (e := 45) (old := #[.int .i64 0, .int .i64 0, .string ⟨#[]⟩, .slice none 0 0, .string ⟨#[]⟩]) (cs := #[.int .i64 (numR (xs, 0)).1, .int .i64 (numR (numR (xs, 0)).2).1, .string (txtR (numR (numR (xs, 0)).2).2).1, .slice none 0 0, .string ⟨#[]⟩]) (by rfl) rfl 45 (.tmp 5) (.tmp 16) rfl rfl rfl X3.out rfl info45 ?_ ?_
            · intro q hq; simp at hq; rcases hq with rfl | rfl | rfl | rfl | rfl <;> rfl
            intro w9 hb9 hg9
            have lx := LX.out
            have P9 := blk_grown P3.out hg9 (by intro he; injection he with he; omega)
            have Q9 := blk_grown Q3.out hg9 (by intro he; injection he with he; omega)
            have G9 := G3.out.grown hg9 (by intro he; injection he with he; omega) (G3.out.below.grown hg9 G3.out.below.size (fun k hk => by injection hk with hk; omega))
            refine hK.out _ _ ((blk_cell P9 0).trans rfl) (fun hHeld => ?_)
            clear hK K hHeld
            refine done_ (by kernel_rfl) ?_
            go_wp2_with fail
            go_meet
            case rel => exact ⟨X, rfl, ⟨⟨lx, hb9, P9, Q9, G9⟩⟩⟩
          · refine value_ (w1 := w2x.alloc (.cells #[.int .i64 0, .int .i64 0, .string ⟨#[]⟩, .slice none 0 0, .string ⟨#[]⟩] 45)) (v := .pointer (some ⟨w2x.heap.size, 0, none⟩)) (by rfl) rfl ?_ ?_
            · go_simp
            refine hK.out _ _ ((blk_cell (blk_alloc P2.out _) 0).trans rfl) (fun hHeld => ?_)
            clear hK K
            refine norm_ (a' := ?_) ?_ ?_
            rotate_left
            · show Act.put _ (some 5) _ = _
              simp only [Act.put, List.setIfInBounds_toArray, List.set_cons_zero, List.set_cons_succ, i64_w, i32_w]
              rfl
            have PL2 := P2
            have P2 := Aside0.mk (blk_alloc P2.out (.cells #[.int .i64 0, .int .i64 0, .string ⟨#[]⟩, .slice none 0 0, .string ⟨#[]⟩] 45))
            have LX : Aside0 (w.heap.size + 1 + 1 < w2x.heap.size) := ⟨by have := blk_lt PL2.out; omega⟩
            have Q2 := Aside0.mk (blk_alloc Q2.out (.cells #[.int .i64 0, .int .i64 0, .string ⟨#[]⟩, .slice none 0 0, .string ⟨#[]⟩] 45))
            have G2 := Aside0.mk (RSt.alloc G2.out (.cells #[.int .i64 0, .int .i64 0, .string ⟨#[]⟩, .slice none 0 0, .string ⟨#[]⟩] 45))
            have X2 := Aside0.mk (blk_new w2x (.cells #[.int .i64 0, .int .i64 0, .string ⟨#[]⟩, .slice none 0 0, .string ⟨#[]⟩] 45))
            generalize hX : w2x.heap.size = X at X2 LX ⊢
            generalize hW : w2x.alloc (.cells #[.int .i64 0, .int .i64 0, .string ⟨#[]⟩, .slice none 0 0, .string ⟨#[]⟩] 45) = wA at P2 Q2 G2 X2 hHeld ⊢
            clear hX hW
            refine one_ (i := 5) (N := some 15) #[true, true, true, true, true, true, false, true, false] rfl rfl (by kernel_rfl) (by decide) (fun K hK => ?_)
            refine goes_ Try.func41 (by kernel_rfl) rfl #[.pointer (some ⟨(w.heap.size + 1), 0, none⟩)] (by rfl) rfl rfl (by (try simp only [List.map_toArray, List.map_cons, List.map_nil]); first | done | rfl) ?_
            refine (text_any w _ _ (numR (numR (xs, 0)).2).2 G2.out (numR_bs _ (numR_bs _ HS.out))).mono ?_
            rintro e w3x ⟨rfl, h1, hk1⟩
            refine ⟨_, rfl, ?_⟩
            have P3 := Aside0.mk (RSt.other G2.out hk1 P2.out (by decide))
            have Q3 := Aside0.mk (RSt.other G2.out hk1 Q2.out (by decide))
            have X3 := Aside0.mk (RSt.other G2.out hk1 X2.out (by decide))
            have G3 := Aside0.mk (show RSt w w3x (w.heap.size + 1) (txtR (numR (numR (xs, 0)).2).2).2 from h1)
            clear h1 hk1
            refine hK.out _ _ ((blk_cell P3.out 0).trans rfl) (fun hHeld => ?_)
            clear hK K
            refine norm_ (a' := ?_) ?_ ?_
            rotate_left
            · show Act.put _ (some 15) _ = _
              simp only [Act.put, List.setIfInBounds_toArray, List.set_cons_zero, List.set_cons_succ, i64_w, i32_w]
              rfl
            refine pure_ (i := 6) (N := some 16) (v := ?_) (a' := ?_) #[true, true, true, true, true, true, true, true, false] rfl rfl (by kernel_rfl) (fun _ _ _ h => h) (Or.inl ⟨by rfl, ?_⟩) ?_ ?_
            rotate_left
            · intro w'
              go_simp
              with_reducible rfl
            rotate_left
            · simp only [Act.put, List.setIfInBounds_toArray, List.set_cons_zero, List.set_cons_succ, i64_w, i32_w]
              rfl
            refine one_ (i := 8) (N := none) #[true, true, true, true, true, true, true, true, true] rfl rfl (by kernel_rfl) (by decide) (fun K hK => ?_)
            refine store_one (g := X) (e := 45) (old := #[.int .i64 0, .int .i64 0, .string ⟨#[]⟩, .slice none 0 0, .string ⟨#[]⟩]) (cs := #[.int .i64 (numR (xs, 0)).1, .int .i64 (numR (numR (xs, 0)).2).1, .string (txtR (numR (numR (xs, 0)).2).2).1, .slice none 0 0, .string ⟨#[]⟩]) (by rfl) rfl 45 (.tmp 5) (.tmp 16) rfl rfl rfl X3.out rfl info45 ?_ ?_
            · intro q hq; simp at hq; rcases hq with rfl | rfl | rfl | rfl | rfl <;> rfl
            intro w9 hb9 hg9
            have lx := LX.out
            have P9 := blk_grown P3.out hg9 (by intro he; injection he with he; omega)
            have Q9 := blk_grown Q3.out hg9 (by intro he; injection he with he; omega)
            have G9 := G3.out.grown hg9 (by intro he; injection he with he; omega) (G3.out.below.grown hg9 G3.out.below.size (fun k hk => by injection hk with hk; omega))
            refine hK.out _ _ ((blk_cell P9 0).trans rfl) (fun hHeld => ?_)
            clear hK K hHeld
            refine done_ (by kernel_rfl) ?_
            go_wp2_with fail
            go_meet
            case rel => exact ⟨X, rfl, ⟨⟨lx, hb9, P9, Q9, G9⟩⟩⟩
        · refine value_ (w1 := w1x.alloc (.cells #[.int .i64 0, .int .i64 0, .string ⟨#[]⟩, .slice none 0 0, .string ⟨#[]⟩] 45)) (v := .pointer (some ⟨w1x.heap.size, 0, none⟩)) (by rfl) rfl ?_ ?_
          · go_simp
          refine hK.out _ _ ((blk_cell (blk_alloc P1.out _) 0).trans rfl) (fun hHeld => ?_)
          clear hK K
          refine norm_ (a' := ?_) ?_ ?_
          rotate_left
          · show Act.put _ (some 5) _ = _
            simp only [Act.put, List.setIfInBounds_toArray, List.set_cons_zero, List.set_cons_succ, i64_w, i32_w]
            rfl
          have PL1 := P1
          have P1 := Aside0.mk (blk_alloc P1.out (.cells #[.int .i64 0, .int .i64 0, .string ⟨#[]⟩, .slice none 0 0, .string ⟨#[]⟩] 45))
          have LX : Aside0 (w.heap.size + 1 + 1 < w1x.heap.size) := ⟨by have := blk_lt PL1.out; omega⟩
          have Q1 := Aside0.mk (blk_alloc Q1.out (.cells #[.int .i64 0, .int .i64 0, .string ⟨#[]⟩, .slice none 0 0, .string ⟨#[]⟩] 45))
          have G1 := Aside0.mk (RSt.alloc G1.out (.cells #[.int .i64 0, .int .i64 0, .string ⟨#[]⟩, .slice none 0 0, .string ⟨#[]⟩] 45))
          have X1 := Aside0.mk (blk_new w1x (.cells #[.int .i64 0, .int .i64 0, .string ⟨#[]⟩, .slice none 0 0, .string ⟨#[]⟩] 45))
          generalize hX : w1x.heap.size = X at X1 LX ⊢
          generalize hW : w1x.alloc (.cells #[.int .i64 0, .int .i64 0, .string ⟨#[]⟩, .slice none 0 0, .string ⟨#[]⟩] 45) = wA at P1 Q1 G1 X1 hHeld ⊢
          clear hX hW
          refine one_ (i := 3) (N := some 13) #[true, true, true, true, true, false, false, true, false] rfl rfl (by kernel_rfl) (by decide) (fun K hK => ?_)
          refine goes_ Try.func38 (by kernel_rfl) rfl #[.pointer (some ⟨(w.heap.size + 1), 0, none⟩)] (by rfl) rfl rfl (by (try simp only [List.map_toArray, List.map_cons, List.map_nil]); first | done | rfl) ?_
          refine (number_any w _ _ (numR (xs, 0)).2 G1.out (numR_bs _ HS.out)).mono ?_
          rintro e w2x ⟨rfl, h1, hk1⟩
          refine ⟨_, rfl, ?_⟩
          have P2 := Aside0.mk (RSt.other G1.out hk1 P1.out (by decide))
          have Q2 := Aside0.mk (RSt.other G1.out hk1 Q1.out (by decide))
          have X2 := Aside0.mk (RSt.other G1.out hk1 X1.out (by decide))
          have G2 := Aside0.mk (show RSt w w2x (w.heap.size + 1) (numR (numR (xs, 0)).2).2 from h1)
          clear h1 hk1
          refine hK.out _ _ ((blk_cell P2.out 0).trans rfl) (fun hHeld => ?_)
          clear hK K
          refine norm_ (a' := ?_) ?_ ?_
          rotate_left
          · show Act.put _ (some 13) _ = _
            simp only [Act.put, List.setIfInBounds_toArray, List.set_cons_zero, List.set_cons_succ, i64_w, i32_w]
            rfl
          refine one_ (i := 5) (N := some 15) #[true, true, true, true, true, true, false, true, false] rfl rfl (by kernel_rfl) (by decide) (fun K hK => ?_)
          refine goes_ Try.func41 (by kernel_rfl) rfl #[.pointer (some ⟨(w.heap.size + 1), 0, none⟩)] (by rfl) rfl rfl (by (try simp only [List.map_toArray, List.map_cons, List.map_nil]); first | done | rfl) ?_
          refine (text_any w _ _ (numR (numR (xs, 0)).2).2 G2.out (numR_bs _ (numR_bs _ HS.out))).mono ?_
          rintro e w3x ⟨rfl, h1, hk1⟩
          refine ⟨_, rfl, ?_⟩
          have P3 := Aside0.mk (RSt.other G2.out hk1 P2.out (by decide))
          have Q3 := Aside0.mk (RSt.other G2.out hk1 Q2.out (by decide))
          have X3 := Aside0.mk (RSt.other G2.out hk1 X2.out (by decide))
          have G3 := Aside0.mk (show RSt w w3x (w.heap.size + 1) (txtR (numR (numR (xs, 0)).2).2).2 from h1)
          clear h1 hk1
          refine hK.out _ _ ((blk_cell P3.out 0).trans rfl) (fun hHeld => ?_)
          clear hK K
          refine norm_ (a' := ?_) ?_ ?_
          rotate_left
          · show Act.put _ (some 15) _ = _
            simp only [Act.put, List.setIfInBounds_toArray, List.set_cons_zero, List.set_cons_succ, i64_w, i32_w]
            rfl
          refine pure_ (i := 6) (N := some 16) (v := ?_) (a' := ?_) #[true, true, true, true, true, true, true, true, false] rfl rfl (by kernel_rfl) (fun _ _ _ h => h) (Or.inl ⟨by rfl, ?_⟩) ?_ ?_
          rotate_left
          · intro w'
            go_simp
            with_reducible rfl
          rotate_left
          · simp only [Act.put, List.setIfInBounds_toArray, List.set_cons_zero, List.set_cons_succ, i64_w, i32_w]
            rfl
          refine one_ (i := 8) (N := none) #[true, true, true, true, true, true, true, true, true] rfl rfl (by kernel_rfl) (by decide) (fun K hK => ?_)
          refine store_one (g := X) (e := 45) (old := #[.int .i64 0, .int .i64 0, .string ⟨#[]⟩, .slice none 0 0, .string ⟨#[]⟩]) (cs := #[.int .i64 (numR (xs, 0)).1, .int .i64 (numR (numR (xs, 0)).2).1, .string (txtR (numR (numR (xs, 0)).2).2).1, .slice none 0 0, .string ⟨#[]⟩]) (by rfl) rfl 45 (.tmp 5) (.tmp 16) rfl rfl rfl X3.out rfl info45 ?_ ?_
          · intro q hq; simp at hq; rcases hq with rfl | rfl | rfl | rfl | rfl <;> rfl
          intro w9 hb9 hg9
          have lx := LX.out
          have P9 := blk_grown P3.out hg9 (by intro he; injection he with he; omega)
          have Q9 := blk_grown Q3.out hg9 (by intro he; injection he with he; omega)
          have G9 := G3.out.grown hg9 (by intro he; injection he with he; omega) (G3.out.below.grown hg9 G3.out.below.size (fun k hk => by injection hk with hk; omega))
          refine hK.out _ _ ((blk_cell P9 0).trans rfl) (fun hHeld => ?_)
          clear hK K hHeld
          refine done_ (by kernel_rfl) ?_
          go_wp2_with fail
          go_meet
          case rel => exact ⟨X, rfl, ⟨⟨lx, hb9, P9, Q9, G9⟩⟩⟩
      · refine value_ (w1 := W2.alloc (.cells #[.int .i64 0, .int .i64 0, .string ⟨#[]⟩, .slice none 0 0, .string ⟨#[]⟩] 45)) (v := .pointer (some ⟨W2.heap.size, 0, none⟩)) (by rfl) rfl ?_ ?_
        · go_simp
        refine hK.out _ _ ((blk_cell (blk_alloc P0.out _) 0).trans rfl) (fun hHeld => ?_)
        clear hK K
        refine norm_ (a' := ?_) ?_ ?_
        rotate_left
        · show Act.put _ (some 5) _ = _
          simp only [Act.put, List.setIfInBounds_toArray, List.set_cons_zero, List.set_cons_succ, i64_w, i32_w]
          rfl
        have PL0 := P0
        have P0 := Aside0.mk (blk_alloc P0.out (.cells #[.int .i64 0, .int .i64 0, .string ⟨#[]⟩, .slice none 0 0, .string ⟨#[]⟩] 45))
        have LX : Aside0 (w.heap.size + 1 + 1 < W2.heap.size) := ⟨by have := blk_lt PL0.out; omega⟩
        have Q0 := Aside0.mk (blk_alloc Q0.out (.cells #[.int .i64 0, .int .i64 0, .string ⟨#[]⟩, .slice none 0 0, .string ⟨#[]⟩] 45))
        have G0 := Aside0.mk (RSt.alloc G0.out (.cells #[.int .i64 0, .int .i64 0, .string ⟨#[]⟩, .slice none 0 0, .string ⟨#[]⟩] 45))
        have X0 := Aside0.mk (blk_new W2 (.cells #[.int .i64 0, .int .i64 0, .string ⟨#[]⟩, .slice none 0 0, .string ⟨#[]⟩] 45))
        generalize hX : W2.heap.size = X at X0 LX ⊢
        generalize hW : W2.alloc (.cells #[.int .i64 0, .int .i64 0, .string ⟨#[]⟩, .slice none 0 0, .string ⟨#[]⟩] 45) = wA at P0 Q0 G0 X0 hHeld ⊢
        clear hX hW
        refine one_ (i := 1) (N := some 11) #[true, true, true, false, true, false, false, true, false] rfl rfl (by kernel_rfl) (by decide) (fun K hK => ?_)
        refine goes_ Try.func38 (by kernel_rfl) rfl #[.pointer (some ⟨(w.heap.size + 1), 0, none⟩)] (by rfl) rfl rfl (by (try simp only [List.map_toArray, List.map_cons, List.map_nil]); first | done | rfl) ?_
        refine (number_any w _ _ (xs, 0) G0.out HS.out).mono ?_
        rintro e w1x ⟨rfl, h1, hk1⟩
        refine ⟨_, rfl, ?_⟩
        have P1 := Aside0.mk (RSt.other G0.out hk1 P0.out (by decide))
        have Q1 := Aside0.mk (RSt.other G0.out hk1 Q0.out (by decide))
        have X1 := Aside0.mk (RSt.other G0.out hk1 X0.out (by decide))
        have G1 := Aside0.mk (show RSt w w1x (w.heap.size + 1) (numR (xs, 0)).2 from h1)
        clear h1 hk1
        refine hK.out _ _ ((blk_cell P1.out 0).trans rfl) (fun hHeld => ?_)
        clear hK K
        refine norm_ (a' := ?_) ?_ ?_
        rotate_left
        · show Act.put _ (some 11) _ = _
          simp only [Act.put, List.setIfInBounds_toArray, List.set_cons_zero, List.set_cons_succ, i64_w, i32_w]
          rfl
        refine one_ (i := 3) (N := some 13) #[true, true, true, true, true, false, false, true, false] rfl rfl (by kernel_rfl) (by decide) (fun K hK => ?_)
        refine goes_ Try.func38 (by kernel_rfl) rfl #[.pointer (some ⟨(w.heap.size + 1), 0, none⟩)] (by rfl) rfl rfl (by (try simp only [List.map_toArray, List.map_cons, List.map_nil]); first | done | rfl) ?_
        refine (number_any w _ _ (numR (xs, 0)).2 G1.out (numR_bs _ HS.out)).mono ?_
        rintro e w2x ⟨rfl, h1, hk1⟩
        refine ⟨_, rfl, ?_⟩
        have P2 := Aside0.mk (RSt.other G1.out hk1 P1.out (by decide))
        have Q2 := Aside0.mk (RSt.other G1.out hk1 Q1.out (by decide))
        have X2 := Aside0.mk (RSt.other G1.out hk1 X1.out (by decide))
        have G2 := Aside0.mk (show RSt w w2x (w.heap.size + 1) (numR (numR (xs, 0)).2).2 from h1)
        clear h1 hk1
        refine hK.out _ _ ((blk_cell P2.out 0).trans rfl) (fun hHeld => ?_)
        clear hK K
        refine norm_ (a' := ?_) ?_ ?_
        rotate_left
        · show Act.put _ (some 13) _ = _
          simp only [Act.put, List.setIfInBounds_toArray, List.set_cons_zero, List.set_cons_succ, i64_w, i32_w]
          rfl
        refine one_ (i := 5) (N := some 15) #[true, true, true, true, true, true, false, true, false] rfl rfl (by kernel_rfl) (by decide) (fun K hK => ?_)
        refine goes_ Try.func41 (by kernel_rfl) rfl #[.pointer (some ⟨(w.heap.size + 1), 0, none⟩)] (by rfl) rfl rfl (by (try simp only [List.map_toArray, List.map_cons, List.map_nil]); first | done | rfl) ?_
        refine (text_any w _ _ (numR (numR (xs, 0)).2).2 G2.out (numR_bs _ (numR_bs _ HS.out))).mono ?_
        rintro e w3x ⟨rfl, h1, hk1⟩
        refine ⟨_, rfl, ?_⟩
        have P3 := Aside0.mk (RSt.other G2.out hk1 P2.out (by decide))
        have Q3 := Aside0.mk (RSt.other G2.out hk1 Q2.out (by decide))
        have X3 := Aside0.mk (RSt.other G2.out hk1 X2.out (by decide))
        have G3 := Aside0.mk (show RSt w w3x (w.heap.size + 1) (txtR (numR (numR (xs, 0)).2).2).2 from h1)
        clear h1 hk1
        refine hK.out _ _ ((blk_cell P3.out 0).trans rfl) (fun hHeld => ?_)
        clear hK K
        refine norm_ (a' := ?_) ?_ ?_
        rotate_left
        · show Act.put _ (some 15) _ = _
          simp only [Act.put, List.setIfInBounds_toArray, List.set_cons_zero, List.set_cons_succ, i64_w, i32_w]
          rfl
        refine pure_ (i := 6) (N := some 16) (v := ?_) (a' := ?_) #[true, true, true, true, true, true, true, true, false] rfl rfl (by kernel_rfl) (fun _ _ _ h => h) (Or.inl ⟨by rfl, ?_⟩) ?_ ?_
        rotate_left
        · intro w'
          go_simp
          with_reducible rfl
        rotate_left
        · simp only [Act.put, List.setIfInBounds_toArray, List.set_cons_zero, List.set_cons_succ, i64_w, i32_w]
          rfl
        refine one_ (i := 8) (N := none) #[true, true, true, true, true, true, true, true, true] rfl rfl (by kernel_rfl) (by decide) (fun K hK => ?_)
        refine store_one (g := X) (e := 45) (old := #[.int .i64 0, .int .i64 0, .string ⟨#[]⟩, .slice none 0 0, .string ⟨#[]⟩]) (cs := #[.int .i64 (numR (xs, 0)).1, .int .i64 (numR (numR (xs, 0)).2).1, .string (txtR (numR (numR (xs, 0)).2).2).1, .slice none 0 0, .string ⟨#[]⟩]) (by rfl) rfl 45 (.tmp 5) (.tmp 16) rfl rfl rfl X3.out rfl info45 ?_ ?_
        · intro q hq; simp at hq; rcases hq with rfl | rfl | rfl | rfl | rfl <;> rfl
        intro w9 hb9 hg9
        have lx := LX.out
        have P9 := blk_grown P3.out hg9 (by intro he; injection he with he; omega)
        have Q9 := blk_grown Q3.out hg9 (by intro he; injection he with he; omega)
        have G9 := G3.out.grown hg9 (by intro he; injection he with he; omega) (G3.out.below.grown hg9 G3.out.below.size (fun k hk => by injection hk with hk; omega))
        refine hK.out _ _ ((blk_cell P9 0).trans rfl) (fun hHeld => ?_)
        clear hK K hHeld
        refine done_ (by kernel_rfl) ?_
        go_wp2_with fail
        go_meet
        case rel => exact ⟨X, rfl, ⟨⟨lx, hb9, P9, Q9, G9⟩⟩⟩
    case rest =>
      obtain ⟨X, rfl, HCUT⟩ := hcut
      obtain ⟨lx, hb9, hp9, hq9, hg9⟩ := HCUT.out
      have X9 := Aside0.mk hb9
      have P9 := Aside0.mk hp9
      have Q9 := Aside0.mk hq9
      have G9 := Aside0.mk hg9
      have L9 : Aside0 (w.heap.size + 1 + 1 < X) := ⟨lx⟩
      clear HCUT lx hb9 hp9 hq9 hg9
      have p9 := (blk_cell P9.out 0).trans rfl
      go_wp2_with (first
        | (go_at_call 42; (with_reducible refine (manyEnt_any q mk hq w _ _ (w.heap.size + 1 + 1) (txtR (numR (numR (xs, 0)).2).2).2 G9.out (txtR_bs _ (numR_bs _ (numR_bs _ HS.out))) ?l4 P9.out).mono ?_); (case l4 => exact Nat.le_trans (txtR_le _) (Nat.le_trans (raw_le _) (Nat.le_trans (raw_le _) HB.out))); rintro e w4 ⟨v4, rfl, ho4, h4, hk4⟩; obtain ⟨A4, m4, k4, e4⟩ := shape_of ho4; subst e4; have X4 := Aside0.mk (RSt.other G9.out hk4 X9.out (by decide)); have P4 := Aside0.mk (RSt.other G9.out hk4 P9.out (by decide)); have Q4 := Aside0.mk (RSt.other G9.out hk4 Q9.out (by decide)); have G4 := Aside0.mk h4; have O4 := Aside0.mk ho4; have f4 := blk_frozen X4.out 3; have x4 := (blk_cell X4.out 3).trans rfl; have p4 := (blk_cell (blk_far P4.out (p := ⟨X, 3, none⟩) (by have := L9.out; show (w.heap.size + 1 + 1) ≠ X; omega) (.slice A4 m4 k4)) 0).trans rfl; clear ho4 h4 hk4)
        | (go_at_call 41; go_must ((with_reducible refine (text_any w _ _ (many (entM mk) (txtR (numR (numR (xs, 0)).2).2).2).2 (RSt.far (j := 3) (b := X) G4.out (by have := L9.out; show (w.heap.size + 1) ≠ X; omega) (by have := L9.out; omega) (.slice A4 m4 k4)) (manyEnt_bs mk _ (txtR_bs _ (numR_bs _ (numR_bs _ HS.out))))).mono ?_); rintro e w5 ⟨rfl, h5, hk5⟩; have H5 := RSt.far (j := 3) (b := X) G4.out (by have := L9.out; show (w.heap.size + 1) ≠ X; omega) (by have := L9.out; omega) (.slice A4 m4 k4); have X5 := Aside0.mk (RSt.other H5 hk5 (blk_set X4.out 3 (.slice A4 m4 k4)) (by decide)); have P5 := Aside0.mk (RSt.other H5 hk5 (blk_far P4.out (p := ⟨X, 3, none⟩) (by have := L9.out; show (w.heap.size + 1 + 1) ≠ X; omega) (.slice A4 m4 k4)) (by decide)); have Q5 := Aside0.mk (RSt.other H5 hk5 (blk_far Q4.out (p := ⟨X, 3, none⟩) (by have := L9.out; show w.heap.size ≠ X; omega) (.slice A4 m4 k4)) (by decide)); have O5 := Aside0.mk (Kd.R_keep (Kd.R_set O4.out X4.out ent_E 3 (.slice A4 m4 k4)) hk5 (fun k hk => by have := G9.out.lt; omega)); have G5 := Aside0.mk h5; have f5 := blk_frozen X5.out 4; have x5 := (blk_cell X5.out 4).trans rfl; have p5 := fun v => (blk_cell (blk_far P5.out (p := ⟨X, 4, none⟩) (by have := L9.out; show (w.heap.size + 1 + 1) ≠ X; omega) v) 0).trans rfl; have y0 := fun v => (blk_cell (blk_set X5.out 4 v) 0).trans rfl; have y1 := fun v => (blk_cell (blk_set X5.out 4 v) 1).trans rfl; have y2 := fun v => (blk_cell (blk_set X5.out 4 v) 2).trans rfl; have y3 := fun v => (blk_cell (blk_set X5.out 4 v) 3).trans rfl; have y4 := fun v => (blk_cell (blk_set X5.out 4 v) 4).trans rfl; clear h5 hk5 H5))
        | (go_at_call 34; (with_reducible refine (done_any w _ _ (txtR (many (entM mk) (txtR (numR (numR (xs, 0)).2).2).2).2).2 (RSt.far (j := 4) (b := X) G5.out (by have := L9.out; show (w.heap.size + 1) ≠ X; omega) (by have := L9.out; omega) (.string (txtR (many (entM mk) (txtR (numR (numR (xs, 0)).2).2).2).2).1))).mono ?_); rintro e w6 ⟨rfl, rfl⟩)
        | ((with_reducible refine gate_store (t := 45) (p := 2) rfl ?_); go_must (refine Ca.store_whole (g := w.heap.size) (e := 45) (old := #[.int .i64 0, .int .i64 0, .string ⟨#[]⟩, .slice none 0 0, .string ⟨#[]⟩]) (cs := #[.int .i64 (numR (xs, 0)).1, .int .i64 (numR (numR (xs, 0)).2).1, .string (txtR (numR (numR (xs, 0)).2).2).1, .slice A4 m4 k4, .string (txtR (many (entM mk) (txtR (numR (numR (xs, 0)).2).2).2).2).1]) rfl rfl 45 (.tmp 2) (.tmp 30) rfl rfl rfl ?hb rfl info45 ?h1 ?_); go_must (case hb => exact blk_far Q5.out (p := ⟨X, 4, none⟩) (by have := L9.out; show w.heap.size ≠ X; omega) _); go_must (case h1 => intro q hq; simp at hq; rcases hq with rfl | rfl | rfl | rfl | rfl <;> rfl); intro w9' hb9 hg9; have HB9 := Aside0.mk hb9; have HG9 := Aside0.mk hg9; clear hb9 hg9))
      have z0 := (blk_cell HB9.out 0).trans rfl
      have z1 := (blk_cell HB9.out 1).trans rfl
      have z2 := (blk_cell HB9.out 2).trans rfl
      have z3 := (blk_cell HB9.out 3).trans rfl
      have z4 := (blk_cell HB9.out 4).trans rfl
      refine bodyPost_ret (v := .tuple #[.agg #[.int .i64 (numR (xs, 0)).1, .int .i64 (numR (numR (xs, 0)).2).1, .string (txtR (numR (numR (xs, 0)).2).2).1, .slice A4 m4 k4, .string (txtR (many (entM mk) (txtR (numR (numR (xs, 0)).2).2).2).2).1], .int .i64 0]) (by simp [results, Try.results16, go_sem, z0, z1, z2, z3, z4]) rfl ?_
      rw [HG.out]
      refine ⟨.slice A4 m4 k4, rfl, ?_, ?_⟩
      · exact Kd.R_mono (Kd.R_grown (Kd.R_types (Kd.R_set O5.out X5.out ent_E 4 (.string (txtR (many (entM mk) (txtR (numR (numR (xs, 0)).2).2).2).2).1)) (blk_far Q5.out (p := ⟨X, 4, none⟩) (by have := L9.out; show w.heap.size ≠ X; omega) _) ent_E) HG9.out (fun k hk he => hk.2 (by injection he))) (fun _ _ => trivial)
      · exact (RSt.far (j := 4) (b := X) G5.out (by have := L9.out; show (w.heap.size + 1) ≠ X; omega) (by have := L9.out; omega) (.string (txtR (many (entM mk) (txtR (numR (numR (xs, 0)).2).2).2).2).1)).below.grown HG9.out (RSt.far (j := 4) (b := X) G5.out (by have := L9.out; show (w.heap.size + 1) ≠ X; omega) (by have := L9.out; omega) (.string (txtR (many (entM mk) (txtR (numR (numR (xs, 0)).2).2).2).2).1)).below.size (fun k hk => by injection hk with hk; omega)
  · have HG := Aside0.mk (show getReply mk xs = (⟨0, 0, ⟨#[]⟩, [], ⟨#[]⟩⟩, doneE (repR mk (xs, 0)).2) from if_neg he)
    have e1 : (doneE (txtR (many (entM mk) (txtR (numR (numR (xs, 0)).2).2).2).2).2 == 0) = false := beq_eq_false_iff_ne.2 he
    have e2 : (doneE (txtR (many (entM mk) (txtR (numR (numR (xs, 0)).2).2).2).2).2 != 0) = true := by simp [he]
    clear he
    go_enter Try.func16, Try.ntmps16
    go_wp2
    go_cut [5] (fun a5 wc => ∃ X : Nat, a5 = .pointer (some ⟨X, 0, none⟩) ∧ Aside0 (RepMid w wc X xs))
    case first =>
      refine start_ (n := 9) (S := fun w' => w'.cell? ⟨(w.heap.size + 1 + 1), 0, none⟩ = some (.pointer (some ⟨(w.heap.size + 1), 0, none⟩))) (ds := []) #[false, false, false, false, false, false, false, false, false] (by kernel_rfl) rfl rfl ((blk_cell (blk_drew HPA.out) 0).trans rfl) (fun hHeld => ?_)
      obtain ⟨W2, hW2⟩ : ∃ W2, (((w.alloc (.cells #[.int .i64 0, .int .i64 0, .string ⟨#[]⟩, .slice none 0 0, .string ⟨#[]⟩] 45)).alloc (.cells #[.slice A xs.length c, .int .i64 0] 84)).alloc (.cells #[.pointer (some ⟨w.heap.size + 1, 0, none⟩)] 82)).drew = W2 := ⟨_, rfl⟩
      have G0 := Aside0.mk HRA.out.drew
      have P0 := Aside0.mk (blk_drew HPA.out)
      have Q0 := Aside0.mk (blk_drew HZA.out)
      rw [hW2] at G0 P0 Q0 hHeld ⊢
      clear hW2
      refine take_ (i := 0) (N := some 10) (v := ?_) (a' := ?_) #[true, false, false, false, false, false, false, false, false] rfl rfl (by kernel_rfl) (fun _ _ _ h => h) (Or.inl ⟨by rfl, ?_⟩) hHeld ?_ ?_
      rotate_left
      · rintro w' s0
        go_simp
        with_reducible rfl
      rotate_left
      · simp only [Act.put, List.setIfInBounds_toArray, List.set_cons_zero, List.set_cons_succ, i64_w, i32_w]
        rfl
      refine take_ (i := 2) (N := some 12) (v := ?_) (a' := ?_) #[true, false, true, false, false, false, false, false, false] rfl rfl (by kernel_rfl) (fun _ _ _ h => h) (Or.inl ⟨by rfl, ?_⟩) hHeld ?_ ?_
      rotate_left
      · rintro w' s0
        go_simp
        with_reducible rfl
      rotate_left
      · simp only [Act.put, List.setIfInBounds_toArray, List.set_cons_zero, List.set_cons_succ, i64_w, i32_w]
        rfl
      refine take_ (i := 4) (N := some 14) (v := ?_) (a' := ?_) #[true, false, true, false, true, false, false, false, false] rfl rfl (by kernel_rfl) (fun _ _ _ h => h) (Or.inl ⟨by rfl, ?_⟩) hHeld ?_ ?_
      rotate_left
      · rintro w' s0
        go_simp
        with_reducible rfl
      rotate_left
      · simp only [Act.put, List.setIfInBounds_toArray, List.set_cons_zero, List.set_cons_succ, i64_w, i32_w]
        rfl
      refine two_ (i := 1) (j := 7) (Ni := some 11) (Nj := some 5) #[true, true, true, false, true, false, false, false, false] #[true, false, true, false, true, false, false, true, false] rfl rfl rfl rfl (by kernel_rfl) (by decide) (by decide) (fun K hK => ?_) (fun K hK => ?_)
      · refine goes_ Try.func38 (by kernel_rfl) rfl #[.pointer (some ⟨(w.heap.size + 1), 0, none⟩)] (by rfl) rfl rfl (by (try simp only [List.map_toArray, List.map_cons, List.map_nil]); first | done | rfl) ?_
        refine (number_any w _ _ (xs, 0) G0.out HS.out).mono ?_
        rintro e w1x ⟨rfl, h1, hk1⟩
        refine ⟨_, rfl, ?_⟩
        have P1 := Aside0.mk (RSt.other G0.out hk1 P0.out (by decide))
        have Q1 := Aside0.mk (RSt.other G0.out hk1 Q0.out (by decide))
        have G1 := Aside0.mk (show RSt w w1x (w.heap.size + 1) (numR (xs, 0)).2 from h1)
        clear h1 hk1
        refine hK.out _ _ ((blk_cell P1.out 0).trans rfl) (fun hHeld => ?_)
        clear hK K
        refine norm_ (a' := ?_) ?_ ?_
        rotate_left
        · show Act.put _ (some 11) _ = _
          simp only [Act.put, List.setIfInBounds_toArray, List.set_cons_zero, List.set_cons_succ, i64_w, i32_w]
          rfl
        refine two_ (i := 3) (j := 7) (Ni := some 13) (Nj := some 5) #[true, true, true, true, true, false, false, false, false] #[true, true, true, false, true, false, false, true, false] rfl rfl rfl rfl (by kernel_rfl) (by decide) (by decide) (fun K hK => ?_) (fun K hK => ?_)
        · refine goes_ Try.func38 (by kernel_rfl) rfl #[.pointer (some ⟨(w.heap.size + 1), 0, none⟩)] (by rfl) rfl rfl (by (try simp only [List.map_toArray, List.map_cons, List.map_nil]); first | done | rfl) ?_
          refine (number_any w _ _ (numR (xs, 0)).2 G1.out (numR_bs _ HS.out)).mono ?_
          rintro e w2x ⟨rfl, h1, hk1⟩
          refine ⟨_, rfl, ?_⟩
          have P2 := Aside0.mk (RSt.other G1.out hk1 P1.out (by decide))
          have Q2 := Aside0.mk (RSt.other G1.out hk1 Q1.out (by decide))
          have G2 := Aside0.mk (show RSt w w2x (w.heap.size + 1) (numR (numR (xs, 0)).2).2 from h1)
          clear h1 hk1
          refine hK.out _ _ ((blk_cell P2.out 0).trans rfl) (fun hHeld => ?_)
          clear hK K
          refine norm_ (a' := ?_) ?_ ?_
          rotate_left
          · show Act.put _ (some 13) _ = _
            simp only [Act.put, List.setIfInBounds_toArray, List.set_cons_zero, List.set_cons_succ, i64_w, i32_w]
            rfl
          refine two_ (i := 5) (j := 7) (Ni := some 15) (Nj := some 5) #[true, true, true, true, true, true, false, false, false] #[true, true, true, true, true, false, false, true, false] rfl rfl rfl rfl (by kernel_rfl) (by decide) (by decide) (fun K hK => ?_) (fun K hK => ?_)
          · refine goes_ Try.func41 (by kernel_rfl) rfl #[.pointer (some ⟨(w.heap.size + 1), 0, none⟩)] (by rfl) rfl rfl (by (try simp only [List.map_toArray, List.map_cons, List.map_nil]); first | done | rfl) ?_
            refine (text_any w _ _ (numR (numR (xs, 0)).2).2 G2.out (numR_bs _ (numR_bs _ HS.out))).mono ?_
            rintro e w3x ⟨rfl, h1, hk1⟩
            refine ⟨_, rfl, ?_⟩
            have P3 := Aside0.mk (RSt.other G2.out hk1 P2.out (by decide))
            have Q3 := Aside0.mk (RSt.other G2.out hk1 Q2.out (by decide))
            have G3 := Aside0.mk (show RSt w w3x (w.heap.size + 1) (txtR (numR (numR (xs, 0)).2).2).2 from h1)
            clear h1 hk1
            refine hK.out _ _ ((blk_cell P3.out 0).trans rfl) (fun hHeld => ?_)
            clear hK K
            refine norm_ (a' := ?_) ?_ ?_
            rotate_left
            · show Act.put _ (some 15) _ = _
              simp only [Act.put, List.setIfInBounds_toArray, List.set_cons_zero, List.set_cons_succ, i64_w, i32_w]
              rfl
            refine pure_ (i := 6) (N := some 16) (v := ?_) (a' := ?_) #[true, true, true, true, true, true, true, false, false] rfl rfl (by kernel_rfl) (fun _ _ _ h => h) (Or.inl ⟨by rfl, ?_⟩) ?_ ?_
            rotate_left
            · intro w'
              go_simp
              with_reducible rfl
            rotate_left
            · simp only [Act.put, List.setIfInBounds_toArray, List.set_cons_zero, List.set_cons_succ, i64_w, i32_w]
              rfl
            refine one_ (i := 7) (N := some 5) #[true, true, true, true, true, true, true, true, false] rfl rfl (by kernel_rfl) (by decide) (fun K hK => ?_)
            refine value_ (w1 := w3x.alloc (.cells #[.int .i64 0, .int .i64 0, .string ⟨#[]⟩, .slice none 0 0, .string ⟨#[]⟩] 45)) (v := .pointer (some ⟨w3x.heap.size, 0, none⟩)) (by rfl) rfl ?_ ?_
            · go_simp
            refine hK.out _ _ ((blk_cell (blk_alloc P3.out _) 0).trans rfl) (fun hHeld => ?_)
            clear hK K
            refine norm_ (a' := ?_) ?_ ?_
            rotate_left
            · show Act.put _ (some 5) _ = _
              simp only [Act.put, List.setIfInBounds_toArray, List.set_cons_zero, List.set_cons_succ, i64_w, i32_w]
              rfl
            have PL3 := P3
            have P3 := Aside0.mk (blk_alloc P3.out (.cells #[.int .i64 0, .int .i64 0, .string ⟨#[]⟩, .slice none 0 0, .string ⟨#[]⟩] 45))
            have LX : Aside0 (w.heap.size + 1 + 1 < w3x.heap.size) := ⟨by have := blk_lt PL3.out; omega⟩
            have Q3 := Aside0.mk (blk_alloc Q3.out (.cells #[.int .i64 0, .int .i64 0, .string ⟨#[]⟩, .slice none 0 0, .string ⟨#[]⟩] 45))
            have G3 := Aside0.mk (RSt.alloc G3.out (.cells #[.int .i64 0, .int .i64 0, .string ⟨#[]⟩, .slice none 0 0, .string ⟨#[]⟩] 45))
            have X3 := Aside0.mk (blk_new w3x (.cells #[.int .i64 0, .int .i64 0, .string ⟨#[]⟩, .slice none 0 0, .string ⟨#[]⟩] 45))
            generalize hX : w3x.heap.size = X at X3 LX ⊢
            generalize hW : w3x.alloc (.cells #[.int .i64 0, .int .i64 0, .string ⟨#[]⟩, .slice none 0 0, .string ⟨#[]⟩] 45) = wA at P3 Q3 G3 X3 hHeld ⊢
            clear hX hW
            refine one_ (i := 8) (N := none) #[true, true, true, true, true, true, true, true, true] rfl rfl (by kernel_rfl) (by decide) (fun K hK => ?_)
            refine store_one (g := X) (e := 45) (old := #[.int .i64 0, .int .i64 0, .string ⟨#[]⟩, .slice none 0 0, .string ⟨#[]⟩]) (cs := #[.int .i64 (numR (xs, 0)).1, .int .i64 (numR (numR (xs, 0)).2).1, .string (txtR (numR (numR (xs, 0)).2).2).1, .slice none 0 0, .string ⟨#[]⟩]) (by rfl) rfl 45 (.tmp 5) (.tmp 16) rfl rfl rfl X3.out rfl info45 ?_ ?_
            · intro q hq; simp at hq; rcases hq with rfl | rfl | rfl | rfl | rfl <;> rfl
            intro w9 hb9 hg9
            have lx := LX.out
            have P9 := blk_grown P3.out hg9 (by intro he; injection he with he; omega)
            have Q9 := blk_grown Q3.out hg9 (by intro he; injection he with he; omega)
            have G9 := G3.out.grown hg9 (by intro he; injection he with he; omega) (G3.out.below.grown hg9 G3.out.below.size (fun k hk => by injection hk with hk; omega))
            refine hK.out _ _ ((blk_cell P9 0).trans rfl) (fun hHeld => ?_)
            clear hK K hHeld
            refine done_ (by kernel_rfl) ?_
            go_wp2_with fail
            go_meet
            case rel => exact ⟨X, rfl, ⟨⟨lx, hb9, P9, Q9, G9⟩⟩⟩
          · refine value_ (w1 := w2x.alloc (.cells #[.int .i64 0, .int .i64 0, .string ⟨#[]⟩, .slice none 0 0, .string ⟨#[]⟩] 45)) (v := .pointer (some ⟨w2x.heap.size, 0, none⟩)) (by rfl) rfl ?_ ?_
            · go_simp
            refine hK.out _ _ ((blk_cell (blk_alloc P2.out _) 0).trans rfl) (fun hHeld => ?_)
            clear hK K
            refine norm_ (a' := ?_) ?_ ?_
            rotate_left
            · show Act.put _ (some 5) _ = _
              simp only [Act.put, List.setIfInBounds_toArray, List.set_cons_zero, List.set_cons_succ, i64_w, i32_w]
              rfl
            have PL2 := P2
            have P2 := Aside0.mk (blk_alloc P2.out (.cells #[.int .i64 0, .int .i64 0, .string ⟨#[]⟩, .slice none 0 0, .string ⟨#[]⟩] 45))
            have LX : Aside0 (w.heap.size + 1 + 1 < w2x.heap.size) := ⟨by have := blk_lt PL2.out; omega⟩
            have Q2 := Aside0.mk (blk_alloc Q2.out (.cells #[.int .i64 0, .int .i64 0, .string ⟨#[]⟩, .slice none 0 0, .string ⟨#[]⟩] 45))
            have G2 := Aside0.mk (RSt.alloc G2.out (.cells #[.int .i64 0, .int .i64 0, .string ⟨#[]⟩, .slice none 0 0, .string ⟨#[]⟩] 45))
            have X2 := Aside0.mk (blk_new w2x (.cells #[.int .i64 0, .int .i64 0, .string ⟨#[]⟩, .slice none 0 0, .string ⟨#[]⟩] 45))
            generalize hX : w2x.heap.size = X at X2 LX ⊢
            generalize hW : w2x.alloc (.cells #[.int .i64 0, .int .i64 0, .string ⟨#[]⟩, .slice none 0 0, .string ⟨#[]⟩] 45) = wA at P2 Q2 G2 X2 hHeld ⊢
            clear hX hW
            refine one_ (i := 5) (N := some 15) #[true, true, true, true, true, true, false, true, false] rfl rfl (by kernel_rfl) (by decide) (fun K hK => ?_)
            refine goes_ Try.func41 (by kernel_rfl) rfl #[.pointer (some ⟨(w.heap.size + 1), 0, none⟩)] (by rfl) rfl rfl (by (try simp only [List.map_toArray, List.map_cons, List.map_nil]); first | done | rfl) ?_
            refine (text_any w _ _ (numR (numR (xs, 0)).2).2 G2.out (numR_bs _ (numR_bs _ HS.out))).mono ?_
            rintro e w3x ⟨rfl, h1, hk1⟩
            refine ⟨_, rfl, ?_⟩
            have P3 := Aside0.mk (RSt.other G2.out hk1 P2.out (by decide))
            have Q3 := Aside0.mk (RSt.other G2.out hk1 Q2.out (by decide))
            have X3 := Aside0.mk (RSt.other G2.out hk1 X2.out (by decide))
            have G3 := Aside0.mk (show RSt w w3x (w.heap.size + 1) (txtR (numR (numR (xs, 0)).2).2).2 from h1)
            clear h1 hk1
            refine hK.out _ _ ((blk_cell P3.out 0).trans rfl) (fun hHeld => ?_)
            clear hK K
            refine norm_ (a' := ?_) ?_ ?_
            rotate_left
            · show Act.put _ (some 15) _ = _
              simp only [Act.put, List.setIfInBounds_toArray, List.set_cons_zero, List.set_cons_succ, i64_w, i32_w]
              rfl
            refine pure_ (i := 6) (N := some 16) (v := ?_) (a' := ?_) #[true, true, true, true, true, true, true, true, false] rfl rfl (by kernel_rfl) (fun _ _ _ h => h) (Or.inl ⟨by rfl, ?_⟩) ?_ ?_
            rotate_left
            · intro w'
              go_simp
              with_reducible rfl
            rotate_left
            · simp only [Act.put, List.setIfInBounds_toArray, List.set_cons_zero, List.set_cons_succ, i64_w, i32_w]
              rfl
            refine one_ (i := 8) (N := none) #[true, true, true, true, true, true, true, true, true] rfl rfl (by kernel_rfl) (by decide) (fun K hK => ?_)
            refine store_one (g := X) (e := 45) (old := #[.int .i64 0, .int .i64 0, .string ⟨#[]⟩, .slice none 0 0, .string ⟨#[]⟩]) (cs := #[.int .i64 (numR (xs, 0)).1, .int .i64 (numR (numR (xs, 0)).2).1, .string (txtR (numR (numR (xs, 0)).2).2).1, .slice none 0 0, .string ⟨#[]⟩]) (by rfl) rfl 45 (.tmp 5) (.tmp 16) rfl rfl rfl X3.out rfl info45 ?_ ?_
            · intro q hq; simp at hq; rcases hq with rfl | rfl | rfl | rfl | rfl <;> rfl
            intro w9 hb9 hg9
            have lx := LX.out
            have P9 := blk_grown P3.out hg9 (by intro he; injection he with he; omega)
            have Q9 := blk_grown Q3.out hg9 (by intro he; injection he with he; omega)
            have G9 := G3.out.grown hg9 (by intro he; injection he with he; omega) (G3.out.below.grown hg9 G3.out.below.size (fun k hk => by injection hk with hk; omega))
            refine hK.out _ _ ((blk_cell P9 0).trans rfl) (fun hHeld => ?_)
            clear hK K hHeld
            refine done_ (by kernel_rfl) ?_
            go_wp2_with fail
            go_meet
            case rel => exact ⟨X, rfl, ⟨⟨lx, hb9, P9, Q9, G9⟩⟩⟩
        · refine value_ (w1 := w1x.alloc (.cells #[.int .i64 0, .int .i64 0, .string ⟨#[]⟩, .slice none 0 0, .string ⟨#[]⟩] 45)) (v := .pointer (some ⟨w1x.heap.size, 0, none⟩)) (by rfl) rfl ?_ ?_
          · go_simp
          refine hK.out _ _ ((blk_cell (blk_alloc P1.out _) 0).trans rfl) (fun hHeld => ?_)
          clear hK K
          refine norm_ (a' := ?_) ?_ ?_
          rotate_left
          · show Act.put _ (some 5) _ = _
            simp only [Act.put, List.setIfInBounds_toArray, List.set_cons_zero, List.set_cons_succ, i64_w, i32_w]
            rfl
          have PL1 := P1
          have P1 := Aside0.mk (blk_alloc P1.out (.cells #[.int .i64 0, .int .i64 0, .string ⟨#[]⟩, .slice none 0 0, .string ⟨#[]⟩] 45))
          have LX : Aside0 (w.heap.size + 1 + 1 < w1x.heap.size) := ⟨by have := blk_lt PL1.out; omega⟩
          have Q1 := Aside0.mk (blk_alloc Q1.out (.cells #[.int .i64 0, .int .i64 0, .string ⟨#[]⟩, .slice none 0 0, .string ⟨#[]⟩] 45))
          have G1 := Aside0.mk (RSt.alloc G1.out (.cells #[.int .i64 0, .int .i64 0, .string ⟨#[]⟩, .slice none 0 0, .string ⟨#[]⟩] 45))
          have X1 := Aside0.mk (blk_new w1x (.cells #[.int .i64 0, .int .i64 0, .string ⟨#[]⟩, .slice none 0 0, .string ⟨#[]⟩] 45))
          generalize hX : w1x.heap.size = X at X1 LX ⊢
          generalize hW : w1x.alloc (.cells #[.int .i64 0, .int .i64 0, .string ⟨#[]⟩, .slice none 0 0, .string ⟨#[]⟩] 45) = wA at P1 Q1 G1 X1 hHeld ⊢
          clear hX hW
          refine one_ (i := 3) (N := some 13) #[true, true, true, true, true, false, false, true, false] rfl rfl (by kernel_rfl) (by decide) (fun K hK => ?_)
          refine goes_ Try.func38 (by kernel_rfl) rfl #[.pointer (some ⟨(w.heap.size + 1), 0, none⟩)] (by rfl) rfl rfl (by (try simp only [List.map_toArray, List.map_cons, List.map_nil]); first | done | rfl) ?_
          refine (number_any w _ _ (numR (xs, 0)).2 G1.out (numR_bs _ HS.out)).mono ?_
          rintro e w2x ⟨rfl, h1, hk1⟩
          refine ⟨_, rfl, ?_⟩
          have P2 := Aside0.mk (RSt.other G1.out hk1 P1.out (by decide))
          have Q2 := Aside0.mk (RSt.other G1.out hk1 Q1.out (by decide))
          have X2 := Aside0.mk (RSt.other G1.out hk1 X1.out (by decide))
          have G2 := Aside0.mk (show RSt w w2x (w.heap.size + 1) (numR (numR (xs, 0)).2).2 from h1)
          clear h1 hk1
          refine hK.out _ _ ((blk_cell P2.out 0).trans rfl) (fun hHeld => ?_)
          clear hK K
          refine norm_ (a' := ?_) ?_ ?_
          rotate_left
          · show Act.put _ (some 13) _ = _
            simp only [Act.put, List.setIfInBounds_toArray, List.set_cons_zero, List.set_cons_succ, i64_w, i32_w]
            rfl
          refine one_ (i := 5) (N := some 15) #[true, true, true, true, true, true, false, true, false] rfl rfl (by kernel_rfl) (by decide) (fun K hK => ?_)
          refine goes_ Try.func41 (by kernel_rfl) rfl #[.pointer (some ⟨(w.heap.size + 1), 0, none⟩)] (by rfl) rfl rfl (by (try simp only [List.map_toArray, List.map_cons, List.map_nil]); first | done | rfl) ?_
          refine (text_any w _ _ (numR (numR (xs, 0)).2).2 G2.out (numR_bs _ (numR_bs _ HS.out))).mono ?_
          rintro e w3x ⟨rfl, h1, hk1⟩
          refine ⟨_, rfl, ?_⟩
          have P3 := Aside0.mk (RSt.other G2.out hk1 P2.out (by decide))
          have Q3 := Aside0.mk (RSt.other G2.out hk1 Q2.out (by decide))
          have X3 := Aside0.mk (RSt.other G2.out hk1 X2.out (by decide))
          have G3 := Aside0.mk (show RSt w w3x (w.heap.size + 1) (txtR (numR (numR (xs, 0)).2).2).2 from h1)
          clear h1 hk1
          refine hK.out _ _ ((blk_cell P3.out 0).trans rfl) (fun hHeld => ?_)
          clear hK K
          refine norm_ (a' := ?_) ?_ ?_
          rotate_left
          · show Act.put _ (some 15) _ = _
            simp only [Act.put, List.setIfInBounds_toArray, List.set_cons_zero, List.set_cons_succ, i64_w, i32_w]
            rfl
          refine pure_ (i := 6) (N := some 16) (v := ?_) (a' := ?_) #[true, true, true, true, true, true, true, true, false] rfl rfl (by kernel_rfl) (fun _ _ _ h => h) (Or.inl ⟨by rfl, ?_⟩) ?_ ?_
          rotate_left
          · intro w'
            go_simp
            with_reducible rfl
          rotate_left
          · simp only [Act.put, List.setIfInBounds_toArray, List.set_cons_zero, List.set_cons_succ, i64_w, i32_w]
            rfl
          refine one_ (i := 8) (N := none) #[true, true, true, true, true, true, true, true, true] rfl rfl (by kernel_rfl) (by decide) (fun K hK => ?_)
          refine store_one (g := X) (e := 45) (old := #[.int .i64 0, .int .i64 0, .string ⟨#[]⟩, .slice none 0 0, .string ⟨#[]⟩]) (cs := #[.int .i64 (numR (xs, 0)).1, .int .i64 (numR (numR (xs, 0)).2).1, .string (txtR (numR (numR (xs, 0)).2).2).1, .slice none 0 0, .string ⟨#[]⟩]) (by rfl) rfl 45 (.tmp 5) (.tmp 16) rfl rfl rfl X3.out rfl info45 ?_ ?_
          · intro q hq; simp at hq; rcases hq with rfl | rfl | rfl | rfl | rfl <;> rfl
          intro w9 hb9 hg9
          have lx := LX.out
          have P9 := blk_grown P3.out hg9 (by intro he; injection he with he; omega)
          have Q9 := blk_grown Q3.out hg9 (by intro he; injection he with he; omega)
          have G9 := G3.out.grown hg9 (by intro he; injection he with he; omega) (G3.out.below.grown hg9 G3.out.below.size (fun k hk => by injection hk with hk; omega))
          refine hK.out _ _ ((blk_cell P9 0).trans rfl) (fun hHeld => ?_)
          clear hK K hHeld
          refine done_ (by kernel_rfl) ?_
          go_wp2_with fail
          go_meet
          case rel => exact ⟨X, rfl, ⟨⟨lx, hb9, P9, Q9, G9⟩⟩⟩
      · refine value_ (w1 := W2.alloc (.cells #[.int .i64 0, .int .i64 0, .string ⟨#[]⟩, .slice none 0 0, .string ⟨#[]⟩] 45)) (v := .pointer (some ⟨W2.heap.size, 0, none⟩)) (by rfl) rfl ?_ ?_
        · go_simp
        refine hK.out _ _ ((blk_cell (blk_alloc P0.out _) 0).trans rfl) (fun hHeld => ?_)
        clear hK K
        refine norm_ (a' := ?_) ?_ ?_
        rotate_left
        · show Act.put _ (some 5) _ = _
          simp only [Act.put, List.setIfInBounds_toArray, List.set_cons_zero, List.set_cons_succ, i64_w, i32_w]
          rfl
        have PL0 := P0
        have P0 := Aside0.mk (blk_alloc P0.out (.cells #[.int .i64 0, .int .i64 0, .string ⟨#[]⟩, .slice none 0 0, .string ⟨#[]⟩] 45))
        have LX : Aside0 (w.heap.size + 1 + 1 < W2.heap.size) := ⟨by have := blk_lt PL0.out; omega⟩
        have Q0 := Aside0.mk (blk_alloc Q0.out (.cells #[.int .i64 0, .int .i64 0, .string ⟨#[]⟩, .slice none 0 0, .string ⟨#[]⟩] 45))
        have G0 := Aside0.mk (RSt.alloc G0.out (.cells #[.int .i64 0, .int .i64 0, .string ⟨#[]⟩, .slice none 0 0, .string ⟨#[]⟩] 45))
        have X0 := Aside0.mk (blk_new W2 (.cells #[.int .i64 0, .int .i64 0, .string ⟨#[]⟩, .slice none 0 0, .string ⟨#[]⟩] 45))
        generalize hX : W2.heap.size = X at X0 LX ⊢
        generalize hW : W2.alloc (.cells #[.int .i64 0, .int .i64 0, .string ⟨#[]⟩, .slice none 0 0, .string ⟨#[]⟩] 45) = wA at P0 Q0 G0 X0 hHeld ⊢
        clear hX hW
        refine one_ (i := 1) (N := some 11) #[true, true, true, false, true, false, false, true, false] rfl rfl (by kernel_rfl) (by decide) (fun K hK => ?_)
        refine goes_ Try.func38 (by kernel_rfl) rfl #[.pointer (some ⟨(w.heap.size + 1), 0, none⟩)] (by rfl) rfl rfl (by (try simp only [List.map_toArray, List.map_cons, List.map_nil]); first | done | rfl) ?_
        refine (number_any w _ _ (xs, 0) G0.out HS.out).mono ?_
        rintro e w1x ⟨rfl, h1, hk1⟩
        refine ⟨_, rfl, ?_⟩
        have P1 := Aside0.mk (RSt.other G0.out hk1 P0.out (by decide))
        have Q1 := Aside0.mk (RSt.other G0.out hk1 Q0.out (by decide))
        have X1 := Aside0.mk (RSt.other G0.out hk1 X0.out (by decide))
        have G1 := Aside0.mk (show RSt w w1x (w.heap.size + 1) (numR (xs, 0)).2 from h1)
        clear h1 hk1
        refine hK.out _ _ ((blk_cell P1.out 0).trans rfl) (fun hHeld => ?_)
        clear hK K
        refine norm_ (a' := ?_) ?_ ?_
        rotate_left
        · show Act.put _ (some 11) _ = _
          simp only [Act.put, List.setIfInBounds_toArray, List.set_cons_zero, List.set_cons_succ, i64_w, i32_w]
          rfl
        refine one_ (i := 3) (N := some 13) #[true, true, true, true, true, false, false, true, false] rfl rfl (by kernel_rfl) (by decide) (fun K hK => ?_)
        refine goes_ Try.func38 (by kernel_rfl) rfl #[.pointer (some ⟨(w.heap.size + 1), 0, none⟩)] (by rfl) rfl rfl (by (try simp only [List.map_toArray, List.map_cons, List.map_nil]); first | done | rfl) ?_
        refine (number_any w _ _ (numR (xs, 0)).2 G1.out (numR_bs _ HS.out)).mono ?_
        rintro e w2x ⟨rfl, h1, hk1⟩
        refine ⟨_, rfl, ?_⟩
        have P2 := Aside0.mk (RSt.other G1.out hk1 P1.out (by decide))
        have Q2 := Aside0.mk (RSt.other G1.out hk1 Q1.out (by decide))
        have X2 := Aside0.mk (RSt.other G1.out hk1 X1.out (by decide))
        have G2 := Aside0.mk (show RSt w w2x (w.heap.size + 1) (numR (numR (xs, 0)).2).2 from h1)
        clear h1 hk1
        refine hK.out _ _ ((blk_cell P2.out 0).trans rfl) (fun hHeld => ?_)
        clear hK K
        refine norm_ (a' := ?_) ?_ ?_
        rotate_left
        · show Act.put _ (some 13) _ = _
          simp only [Act.put, List.setIfInBounds_toArray, List.set_cons_zero, List.set_cons_succ, i64_w, i32_w]
          rfl
        refine one_ (i := 5) (N := some 15) #[true, true, true, true, true, true, false, true, false] rfl rfl (by kernel_rfl) (by decide) (fun K hK => ?_)
        refine goes_ Try.func41 (by kernel_rfl) rfl #[.pointer (some ⟨(w.heap.size + 1), 0, none⟩)] (by rfl) rfl rfl (by (try simp only [List.map_toArray, List.map_cons, List.map_nil]); first | done | rfl) ?_
        refine (text_any w _ _ (numR (numR (xs, 0)).2).2 G2.out (numR_bs _ (numR_bs _ HS.out))).mono ?_
        rintro e w3x ⟨rfl, h1, hk1⟩
        refine ⟨_, rfl, ?_⟩
        have P3 := Aside0.mk (RSt.other G2.out hk1 P2.out (by decide))
        have Q3 := Aside0.mk (RSt.other G2.out hk1 Q2.out (by decide))
        have X3 := Aside0.mk (RSt.other G2.out hk1 X2.out (by decide))
        have G3 := Aside0.mk (show RSt w w3x (w.heap.size + 1) (txtR (numR (numR (xs, 0)).2).2).2 from h1)
        clear h1 hk1
        refine hK.out _ _ ((blk_cell P3.out 0).trans rfl) (fun hHeld => ?_)
        clear hK K
        refine norm_ (a' := ?_) ?_ ?_
        rotate_left
        · show Act.put _ (some 15) _ = _
          simp only [Act.put, List.setIfInBounds_toArray, List.set_cons_zero, List.set_cons_succ, i64_w, i32_w]
          rfl
        refine pure_ (i := 6) (N := some 16) (v := ?_) (a' := ?_) #[true, true, true, true, true, true, true, true, false] rfl rfl (by kernel_rfl) (fun _ _ _ h => h) (Or.inl ⟨by rfl, ?_⟩) ?_ ?_
        rotate_left
        · intro w'
          go_simp
          with_reducible rfl
        rotate_left
        · simp only [Act.put, List.setIfInBounds_toArray, List.set_cons_zero, List.set_cons_succ, i64_w, i32_w]
          rfl
        refine one_ (i := 8) (N := none) #[true, true, true, true, true, true, true, true, true] rfl rfl (by kernel_rfl) (by decide) (fun K hK => ?_)
        refine store_one (g := X) (e := 45) (old := #[.int .i64 0, .int .i64 0, .string ⟨#[]⟩, .slice none 0 0, .string ⟨#[]⟩]) (cs := #[.int .i64 (numR (xs, 0)).1, .int .i64 (numR (numR (xs, 0)).2).1, .string (txtR (numR (numR (xs, 0)).2).2).1, .slice none 0 0, .string ⟨#[]⟩]) (by rfl) rfl 45 (.tmp 5) (.tmp 16) rfl rfl rfl X3.out rfl info45 ?_ ?_
        · intro q hq; simp at hq; rcases hq with rfl | rfl | rfl | rfl | rfl <;> rfl
        intro w9 hb9 hg9
        have lx := LX.out
        have P9 := blk_grown P3.out hg9 (by intro he; injection he with he; omega)
        have Q9 := blk_grown Q3.out hg9 (by intro he; injection he with he; omega)
        have G9 := G3.out.grown hg9 (by intro he; injection he with he; omega) (G3.out.below.grown hg9 G3.out.below.size (fun k hk => by injection hk with hk; omega))
        refine hK.out _ _ ((blk_cell P9 0).trans rfl) (fun hHeld => ?_)
        clear hK K hHeld
        refine done_ (by kernel_rfl) ?_
        go_wp2_with fail
        go_meet
        case rel => exact ⟨X, rfl, ⟨⟨lx, hb9, P9, Q9, G9⟩⟩⟩
    case rest =>
      obtain ⟨X, rfl, HCUT⟩ := hcut
      obtain ⟨lx, hb9, hp9, hq9, hg9⟩ := HCUT.out
      have X9 := Aside0.mk hb9
      have P9 := Aside0.mk hp9
      have Q9 := Aside0.mk hq9
      have G9 := Aside0.mk hg9
      have L9 : Aside0 (w.heap.size + 1 + 1 < X) := ⟨lx⟩
      clear HCUT lx hb9 hp9 hq9 hg9
      have p9 := (blk_cell P9.out 0).trans rfl
      go_wp2_with (first
        | (go_at_call 42; (with_reducible refine (manyEnt_any q mk hq w _ _ (w.heap.size + 1 + 1) (txtR (numR (numR (xs, 0)).2).2).2 G9.out (txtR_bs _ (numR_bs _ (numR_bs _ HS.out))) ?l4 P9.out).mono ?_); (case l4 => exact Nat.le_trans (txtR_le _) (Nat.le_trans (raw_le _) (Nat.le_trans (raw_le _) HB.out))); rintro e w4 ⟨v4, rfl, ho4, h4, hk4⟩; obtain ⟨A4, m4, k4, e4⟩ := shape_of ho4; subst e4; have X4 := Aside0.mk (RSt.other G9.out hk4 X9.out (by decide)); have P4 := Aside0.mk (RSt.other G9.out hk4 P9.out (by decide)); have Q4 := Aside0.mk (RSt.other G9.out hk4 Q9.out (by decide)); have G4 := Aside0.mk h4; have O4 := Aside0.mk ho4; have f4 := blk_frozen X4.out 3; have x4 := (blk_cell X4.out 3).trans rfl; have p4 := (blk_cell (blk_far P4.out (p := ⟨X, 3, none⟩) (by have := L9.out; show (w.heap.size + 1 + 1) ≠ X; omega) (.slice A4 m4 k4)) 0).trans rfl; clear ho4 h4 hk4)
        | (go_at_call 41; go_must ((with_reducible refine (text_any w _ _ (many (entM mk) (txtR (numR (numR (xs, 0)).2).2).2).2 (RSt.far (j := 3) (b := X) G4.out (by have := L9.out; show (w.heap.size + 1) ≠ X; omega) (by have := L9.out; omega) (.slice A4 m4 k4)) (manyEnt_bs mk _ (txtR_bs _ (numR_bs _ (numR_bs _ HS.out))))).mono ?_); rintro e w5 ⟨rfl, h5, hk5⟩; have H5 := RSt.far (j := 3) (b := X) G4.out (by have := L9.out; show (w.heap.size + 1) ≠ X; omega) (by have := L9.out; omega) (.slice A4 m4 k4); have X5 := Aside0.mk (RSt.other H5 hk5 (blk_set X4.out 3 (.slice A4 m4 k4)) (by decide)); have P5 := Aside0.mk (RSt.other H5 hk5 (blk_far P4.out (p := ⟨X, 3, none⟩) (by have := L9.out; show (w.heap.size + 1 + 1) ≠ X; omega) (.slice A4 m4 k4)) (by decide)); have Q5 := Aside0.mk (RSt.other H5 hk5 (blk_far Q4.out (p := ⟨X, 3, none⟩) (by have := L9.out; show w.heap.size ≠ X; omega) (.slice A4 m4 k4)) (by decide)); have O5 := Aside0.mk (Kd.R_keep (Kd.R_set O4.out X4.out ent_E 3 (.slice A4 m4 k4)) hk5 (fun k hk => by have := G9.out.lt; omega)); have G5 := Aside0.mk h5; have f5 := blk_frozen X5.out 4; have x5 := (blk_cell X5.out 4).trans rfl; have p5 := fun v => (blk_cell (blk_far P5.out (p := ⟨X, 4, none⟩) (by have := L9.out; show (w.heap.size + 1 + 1) ≠ X; omega) v) 0).trans rfl; have y0 := fun v => (blk_cell (blk_set X5.out 4 v) 0).trans rfl; have y1 := fun v => (blk_cell (blk_set X5.out 4 v) 1).trans rfl; have y2 := fun v => (blk_cell (blk_set X5.out 4 v) 2).trans rfl; have y3 := fun v => (blk_cell (blk_set X5.out 4 v) 3).trans rfl; have y4 := fun v => (blk_cell (blk_set X5.out 4 v) 4).trans rfl; clear h5 hk5 H5))
        | (go_at_call 34; (with_reducible refine (done_any w _ _ (txtR (many (entM mk) (txtR (numR (numR (xs, 0)).2).2).2).2).2 (RSt.far (j := 4) (b := X) G5.out (by have := L9.out; show (w.heap.size + 1) ≠ X; omega) (by have := L9.out; omega) (.string (txtR (many (entM mk) (txtR (numR (numR (xs, 0)).2).2).2).2).1))).mono ?_); rintro e w6 ⟨rfl, rfl⟩)
        | ((with_reducible refine gate_store (t := 45) (p := 2) rfl ?_); go_must (refine Ca.store_whole (g := w.heap.size) (e := 45) (old := #[.int .i64 0, .int .i64 0, .string ⟨#[]⟩, .slice none 0 0, .string ⟨#[]⟩]) (cs := #[.int .i64 0, .int .i64 0, .string ⟨#[]⟩, .slice none 0 0, .string ⟨#[]⟩]) rfl rfl 45 (.tmp 2) (.tmp 28) rfl rfl rfl ?hb rfl info45 ?h1 ?_); go_must (case hb => exact blk_far Q5.out (p := ⟨X, 4, none⟩) (by have := L9.out; show w.heap.size ≠ X; omega) _); go_must (case h1 => intro q hq; simp at hq; rcases hq with rfl | rfl | rfl | rfl | rfl <;> rfl); intro w9' hb9 hg9; have HB9 := Aside0.mk hb9; have HG9 := Aside0.mk hg9; clear hb9 hg9))
      have z0 := (blk_cell HB9.out 0).trans rfl
      have z1 := (blk_cell HB9.out 1).trans rfl
      have z2 := (blk_cell HB9.out 2).trans rfl
      have z3 := (blk_cell HB9.out 3).trans rfl
      have z4 := (blk_cell HB9.out 4).trans rfl
      refine bodyPost_ret (v := .tuple #[.agg #[.int .i64 0, .int .i64 0, .string ⟨#[]⟩, .slice none 0 0, .string ⟨#[]⟩], .int .i64 (doneE (txtR (many (entM mk) (txtR (numR (numR (xs, 0)).2).2).2).2).2)]) (by simp [results, Try.results16, go_sem, z0, z1, z2, z3, z4]) rfl ?_
      rw [HG.out]
      refine ⟨.slice none 0 0, rfl, Kd.R_nil _ _ _ _ _, ?_⟩
      exact (RSt.far (j := 4) (b := X) G5.out (by have := L9.out; show (w.heap.size + 1) ≠ X; omega) (by have := L9.out; omega) (.string (txtR (many (entM mk) (txtR (numR (numR (xs, 0)).2).2).2).2).1)).below.grown HG9.out (RSt.far (j := 4) (b := X) G5.out (by have := L9.out; show (w.heap.size + 1) ≠ X; omega) (by have := L9.out; omega) (.string (txtR (many (entM mk) (txtR (numR (numR (xs, 0)).2).2).2).2).1)).below.size (fun k hk => by injection hk with hk; omega)
end Go.Proofs.Ytjhcbggpbfejgaa.Cr
