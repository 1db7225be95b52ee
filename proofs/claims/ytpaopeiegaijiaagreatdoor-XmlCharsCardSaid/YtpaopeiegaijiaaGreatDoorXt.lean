import Derived.Test.YtpaopeiegaijiaaGreatDoorXs
import Derived.Test.YtpaopeiegaijiaaGreatDoorXu
/- (*strings.Replacer).build at the eight texts of xml.Print. -/
namespace Go.Proofs.YtpaopeiegaijiaaGreatDoor
open Go.RowKit Go.Shelf Go.Lib Go.Joins Go.Proofs.YtpaopeiegaijiaaGreatDoorW.PrintWords
set_option linter.unusedVariables false
set_option linter.unusedSimpArgs false
def escs : List (List UInt8) := [[38], [38, 97, 109, 112, 59], [60], [38, 108, 116, 59], [62], [38, 103, 116, 59], [13], [38, 35, 49, 51, 59]]
theorem one_set (v : Value) (hv : v.oneCell' = true) : ∀ x ∈ Tryz.zeroCells211.toList.set 256 v, x.oneCell' = true := fun x hx => by
  rcases List.mem_or_eq_of_mem_set hx with h | rfl
  · exact List.all_eq_true.1 (show Tryz.zeroCells211.toList.all Value.oneCell' = true by kernel_rfl) x h
  · exact hv
/-- The replacer's table in memory. -/
def TabAt (nb : Nat) (cs : Array Value) (w : World) : Prop := w.heap[nb]? = some (.cells cs 211 (0, 0)) ∧ cs.size = 257
theorem TabAt.cell {nb : Nat} {cs : Array Value} {w : World} (h : TabAt nb cs w) (j : Nat) (v : Value) (hv : cs[j]? = some v) : w.cell? ⟨nb, j, none⟩ = some v := by rw [Lib.cell_of_heap h.1]; exact hv
theorem TabAt.fz {nb : Nat} {cs : Array Value} {w : World} (h : TabAt nb cs w) (j : Nat) : w.frozen? ⟨nb, j, none⟩ = false := Lib.frozen_of_heap h.1 j
theorem TabAt.set {nb : Nat} {cs : Array Value} {w : World} (h : TabAt nb cs w) (j : Nat) (v : Value) : TabAt nb (cs.setIfInBounds j v) (w.setCell ⟨nb, j, none⟩ v) :=
  ⟨by simp [World.setCell, Array.getElem?_modify, h.1], by simp [h.2]⟩
theorem eql_nil (W : World) : (binOp .eql 93 (.slice none 0 0) (.slice none 0 0)).run Tryz.prog W = .ok (.bool true) W := by
  simp [binOp, run_equal_slice_nil (P := Tryz.prog) W 93 5 none 0 0 Tryz.underlying93]
/-- The table when r kinds of bytes are in it. -/
def PTab (B r nb : Nat) (w : World) : Prop := ∃ (cs : Array Value) (tb cap : Nat), TabAt nb cs w ∧ B ≤ nb ∧ B ≤ tb ∧ tb ≠ nb ∧ tb < w.heap.size ∧
  (∀ c : UInt8, c ∉ repL.take r → cs[c.toNat]? = some (.slice none 0 0)) ∧
  (∀ c ∈ repL.take r, ∃ b cap, b ≠ nb ∧ b ≠ tb ∧ b < w.heap.size ∧ cs[c.toNat]? = some (.slice (some ⟨b, 0, none⟩) (escB c).length cap) ∧ ∀ j v, (bytesV (escB c))[j]? = some v → w.cell? ⟨b, j, none⟩ = some v) ∧
  cs[256]? = some (.slice (some ⟨tb, 0, none⟩) r cap) ∧ w.ownsRow B 9 1 (.slice (some ⟨tb, 0, none⟩) r cap) r (strsV ((repL.take r).map fun c => [c]))
theorem heap_set (w : World) (a : Addr) (v : Value) (k : Nat) (h : k ≠ a.block) : (w.setCell a v).heap[k]? = w.heap[k]? := Below.heap_setCell w a v k h
theorem lt_heap {w : World} {k : Nat} {o : Obj} (h : w.heap[k]? = some o) : k < w.heap.size := (Array.getElem?_eq_some_iff.1 h).1
theorem ptab_step (B r nb g2 cap2 tb capn : Nat) (c : UInt8) (cs : Array Value) (wr w2 : World) (o1 o2 : Obj) (hc : repL[r]? = some c) (hr : r < 4) (hnew : c ∉ repL.take r) (hT : TabAt nb cs wr) (hBn : B ≤ nb) (hBw : B ≤ wr.heap.size) (hBt : B ≤ tb) (htn : tb ≠ nb) (htl : tb < wr.heap.size)
    (hno : ∀ c : UInt8, c ∉ repL.take r → cs[c.toNat]? = some (.slice none 0 0))
    (hyes : ∀ c ∈ repL.take r, ∃ b cap, b ≠ nb ∧ b ≠ tb ∧ b < wr.heap.size ∧ cs[c.toNat]? = some (.slice (some ⟨b, 0, none⟩) (escB c).length cap) ∧ ∀ j v, (bytesV (escB c))[j]? = some v → wr.cell? ⟨b, j, none⟩ = some v)
    (hown2 : w2.ownsRow B 9 1 (.slice (some ⟨g2, 0, none⟩) (r + 1) cap2) (r + 1) (strsV ((repL.take r).map fun c => [c]) ++ [.string ⟨#[c]⟩])) (hgrow : ((wr.alloc o1).alloc o2).grownBy w2 (some tb)) (hat : some tb = some g2 ∨ g2 = wr.heap.size + 2) (hlt : g2 < w2.heap.size) :
    PTab B (r + 1) nb ((bytesWorld (w2.setCell ⟨nb, 256, none⟩ (.slice (some ⟨g2, 0, none⟩) (r + 1) cap2)) 5 ⟨(escB c).toArray⟩).setCell ⟨nb, c.toNat, none⟩ (.slice (some ⟨w2.heap.size, 0, none⟩) (escB c).length capn)) := by
  have hnb : nb < wr.heap.size := lt_heap hT.1
  have hsz : wr.heap.size + 2 ≤ w2.heap.size := by have := hgrow.size; simpa using this
  have hcl := c.toNat_lt
  have htk : repL.take (r + 1) = repL.take r ++ [c] := by rw [List.take_add_one, hc]; rfl
  have hg2n : g2 ≠ nb := by
    rcases hat with h | h
    · injection h with h; omega
    · omega
  obtain ⟨w3, hw3⟩ : ∃ w3, w2.setCell ⟨nb, 256, none⟩ (.slice (some ⟨g2, 0, none⟩) (r + 1) cap2) = w3 := ⟨_, rfl⟩
  have h3s : w3.heap.size = w2.heap.size := by rw [← hw3]; simp [World.setCell]
  have hT2 : TabAt nb cs w2 := ⟨(hgrow.block nb (by simp; omega) (fun h => htn (Option.some.inj h).symm)).trans ((Below.heap_alloc _ _ _ (by simp; omega)).trans ((Below.heap_alloc _ _ _ hnb).trans hT.1)), hT.2⟩
  have hT3 := hT2.set 256 (.slice (some ⟨g2, 0, none⟩) (r + 1) cap2)
  rw [hw3] at hT3 ⊢
  have hbw := below_bytesWorld w3.heap.size w3 5 (⟨(escB c).toArray⟩ : ByteArray) (Nat.le_refl _)
  have hT4 : TabAt nb (cs.setIfInBounds 256 (.slice (some ⟨g2, 0, none⟩) (r + 1) cap2)) (bytesWorld w3 5 ⟨(escB c).toArray⟩) := ⟨(hbw.block nb (by omega)).trans hT3.1, hT3.2⟩
  have hT5 := hT4.set c.toNat (.slice (some ⟨w2.heap.size, 0, none⟩) (escB c).length capn)
  have hkeep : ∀ b, b < w2.heap.size → b ≠ nb → ((bytesWorld w3 5 ⟨(escB c).toArray⟩).setCell ⟨nb, c.toNat, none⟩ (.slice (some ⟨w2.heap.size, 0, none⟩) (escB c).length capn)).heap[b]? = w2.heap[b]? := fun b hb hn => by
    rw [heap_set _ _ _ _ hn, hbw.block b (by omega), ← hw3, heap_set _ _ _ _ hn]
  have hkeep0 : ∀ b, b < wr.heap.size → b ≠ nb → b ≠ tb → w2.heap[b]? = wr.heap[b]? := fun b hb hn ht =>
    (hgrow.block b (by simp; omega) (fun h => ht (Option.some.inj h))).trans ((Below.heap_alloc _ _ _ (by simp; omega)).trans (Below.heap_alloc _ _ _ hb))
  refine ⟨_, g2, cap2, hT5, hBn, ?_, hg2n, ?_, fun x hx => ?_, fun x hx => ?_, ?_, ?_⟩
  · rcases hat with h | h
    · injection h with h; omega
    · omega
  · have := hbw.size; simp [World.setCell]; omega
  · rw [htk, List.mem_append, not_or] at hx
    have hxl := x.toNat_lt
    have hne : c.toNat ≠ x.toNat := fun e => hx.2 (by rw [UInt8.toNat_inj.1 e]; simp)
    rw [Array.getElem?_setIfInBounds_ne hne, Array.getElem?_setIfInBounds_ne (by omega)]
    exact hno x hx.1
  · rw [htk, List.mem_append] at hx
    rcases hx with hx | hx
    · obtain ⟨b, cap, h1, h2, h3, h4, h5⟩ := hyes x hx
      have hxl := x.toNat_lt
      have hne : c.toNat ≠ x.toNat := fun e => hnew (by rw [UInt8.toNat_inj.1 e]; exact hx)
      refine ⟨b, cap, h1, ?_, ?_, ?_, fun j v hj => ?_⟩
      · rcases hat with h | h
        · injection h with h; omega
        · omega
      · have := hbw.size; simp [World.setCell]; omega
      · rw [Array.getElem?_setIfInBounds_ne hne, Array.getElem?_setIfInBounds_ne (by omega)]
        exact h4
      · rw [World.cell?_of_block ((hkeep b (by omega) h1).trans (hkeep0 b h3 h1 h2))]
        exact h5 j v hj
    · rw [List.mem_singleton] at hx
      subst hx
      refine ⟨w2.heap.size, capn, by omega, by omega, ?_, ?_, fun j v hj => ?_⟩
      · have := bytesWorld_at_new w3 5 (⟨(escB x).toArray⟩ : ByteArray)
        have h := lt_heap this
        simp [World.setCell]; omega
      · rw [Array.getElem?_setIfInBounds_self]
        simp [hT.2]; omega
      · have hjl : j < (escB x).length := by
          have := (List.getElem?_eq_some_iff.1 hj).1
          rwa [bytesV_len] at this
        rw [World.cell?_setCell_other _ _ _ _ (by first | (simp; done) | (simp; omega)), ← h3s, bytesWorld_cell _ _ _ _ (by simpa [ByteArray.size] using hjl)]
        rw [bytesV_get _ _ hjl] at hj
        cases hj
        simp [hjl]
  · rw [Array.getElem?_setIfInBounds_ne (by omega), Array.getElem?_setIfInBounds_self]
    simp [hT.2]
  · rw [htk, List.map_append]
    have : strsV ((repL.take r).map (fun c => [c]) ++ [c].map fun c => [c]) = strsV ((repL.take r).map fun c => [c]) ++ [.string ⟨#[c]⟩] := by simp [strsV]
    rw [this]
    refine row_kept hown2 fun k hk => ?_
    simp only [Value.ownBlock, Option.some.injEq] at hk
    subst hk
    exact hkeep g2 hlt hg2n
theorem rep_esc : ∀ c : UInt8, isEsc c = true → c ∈ repL := fun c h => by
  simp only [isEsc, Bool.or_eq_true, beq_iff_eq] at h
  rcases h with ((rfl | rfl) | rfl) | rfl <;> decide
theorem rep_no : ∀ c : UInt8, isEsc c = false → c ∉ repL := fun c h hm => by
  simp only [repL, List.mem_cons, List.not_mem_nil, or_false] at hm
  rcases hm with rfl | rfl | rfl | rfl <;> revert h <;> decide
theorem PTab.tab {B nb : Nat} {w : World} (h : PTab B 4 nb w) : Tab nb w := by
  obtain ⟨cs, tb, cap, hT, _, _, _, _, hno, hyes, h6, hown⟩ := h
  refine ⟨fun c hc => hT.cell _ _ (hno c (rep_no c hc)), fun c hc => ?_, tb, cap, hT.cell _ _ h6, fun k c hk => ?_⟩
  · obtain ⟨b, cap, h1, h2, h3, h4, h5⟩ := hyes c (rep_esc c hc)
    exact ⟨b, cap, hT.cell _ _ h4, h5⟩
  · have h := hown.cells (g := tb) rfl k (.string ⟨#[c]⟩) (by
      show ((repL.map fun c => [c]).map strV)[k]? = _
      rw [List.getElem?_map, List.getElem?_map, hk]; rfl)
    have e : (⟨tb, 0, none⟩ : Addr).add k = ⟨tb, k, none⟩ := by simp [Addr.add]; omega
    rw [e] at h
    exact h
theorem zero_tab : Tryz.zeroCells211.toList = List.replicate 257 (.slice none 0 0) := by kernel_rfl
theorem escs_at : ∀ r c, repL[r]? = some c → (strsV escs)[6 - 2 * r]? = some (strV [c]) ∧ (strsV escs)[7 - 2 * r]? = some (strV (escB c)) ∧ r < 4
  | 0, c, h => by cases h; exact ⟨rfl, rfl, by decide⟩
  | 1, c, h => by cases h; exact ⟨rfl, rfl, by decide⟩
  | 2, c, h => by cases h; exact ⟨rfl, rfl, by decide⟩
  | 3, c, h => by cases h; exact ⟨rfl, rfl, by decide⟩
  | r + 4, c, h => by simp [repL] at h
set_option maxHeartbeats 4000000 in
set_option maxRecDepth 100000 in
theorem build_any (q g cap : Nat) (x0 x1 : Value) (w : World) (hq : w.heap[q]? = some (.cells #[x0, x1, .int .u32 0, .nilIface, .slice (some ⟨g, 0, none⟩) 8 cap] 154 (0, 0)))
    (hg : ∀ j v, (strsV escs)[j]? = some v → w.cell? ⟨g, j, none⟩ = some v) :
    Calls Tryz.prog 132 #[.pointer (some ⟨q, 0, none⟩)] w fun e w' => ∃ nb, e = .returned (.iface 212 (.pointer (some ⟨nb, 0, none⟩))) ∧ w.heap.size ≤ nb ∧ Tab nb w' ∧ Below w.heap.size w w' := by
  obtain ⟨i0, hi, hz⟩ := Option.map_eq_some_iff.1 (show (Tryz.prog.info? 9).map (fun i => (i.zero, i.size, i.bytes)) = some (some (.string ⟨#[]⟩), 1, 16) by kernel_rfl)
  simp only [Prod.mk.injEq] at hz
  obtain ⟨hz0, hz1, hz2⟩ := hz
  have info211 : ∀ v, (Tryz.prog.info? 211).map (·.size) = some (Tryz.zeroCells211.set! 256 v).size := fun v => by rw [show (Tryz.prog.info? 211).map (·.size) = some 257 by kernel_rfl]; simp
  have c4 : w.cell? ⟨q, 4, none⟩ = some (.slice (some ⟨g, 0, none⟩) 8 cap) := by rw [Lib.cell_of_heap hq]; rfl
  have d0 := hg 0 _ rfl
  have d1 := hg 1 _ rfl
  have d2 := hg 2 _ rfl
  have d3 := hg 3 _ rfl
  have d4 := hg 4 _ rfl
  have d5 := hg 5 _ rfl
  have d6 := hg 6 _ rfl
  have d7 := hg 7 _ rfl
  go_enter Tryz.func132, Tryz.ntmps132
  go_wp2
  refine wp_loop_rounds 5 ?_
  rw [rounds_succ]
  go_wp2
  rw [rounds_succ]
  go_wp2
  rw [rounds_succ]
  go_wp2
  rw [rounds_succ]
  go_wp2
  rw [rounds_succ]
  go_upto_region 26 with (fail)
  have hst := fun (w1 : World) (v : Value) (hv : v.oneCell' = true) => run_storeCells_at (P := Tryz.prog) w1.heap.size 0 211 (Tryz.zeroCells211.toList.set 256 v) 0 Tryz.zeroCells211 (w1.alloc (.cells Tryz.zeroCells211 211)) (heap_alloc_new w1 _) (by rw [List.length_set, Array.length_toList]; omega)
  go_upto_region 27 with (at_make; refine wpList_make_own _ rfl _ _ 28 rfl w.heap.size 9 i0 _ 1 Tryz.underlying28 hi hz0 hz1 .i64 .i64 4 4 rfl rfl rfl (by rw [hz2]; decide) (by decide) (Nat.le_refl _) ?_; intro w1 hown1 hgrow1; have hs1 := hst w1 (.slice (some ⟨w.heap.size, 0, none⟩) 0 4) rfl (one_set _ rfl))
  obtain ⟨nb, hnb⟩ : ∃ nb, w1.heap.size = nb := ⟨_, rfl⟩
  have hT0 : TabAt nb (Tryz.zeroCells211.toList.set 256 (.slice (some ⟨w.heap.size, 0, none⟩) 0 4) ++ List.drop 257 Tryz.zeroCells211.toList).toArray ((w1.alloc (.cells Tryz.zeroCells211 211)).setRow w1.heap.size (Tryz.zeroCells211.toList.set 256 (.slice (some ⟨w.heap.size, 0, none⟩) 0 4) ++ List.drop 257 Tryz.zeroCells211.toList).toArray) := by
    subst hnb
    exact ⟨setRow_heap _ _ _ _ _ _ (heap_alloc_new w1 _), by simp⟩
  have hb0 : Below w.heap.size w ((w1.alloc (.cells Tryz.zeroCells211 211)).setRow w1.heap.size (Tryz.zeroCells211.toList.set 256 (.slice (some ⟨w.heap.size, 0, none⟩) 0 4) ++ List.drop 257 Tryz.zeroCells211.toList).toArray) :=
    below_setRow (((Below.refl w.heap.size w).grown hgrow1 (Nat.le_refl _) (fun k h => by cases h)).alloc hgrow1.size _) hgrow1.size _
  have hlt1 := (hown1.lt w.heap.size rfl).2
  have hP0 : PTab w.heap.size 0 nb ((w1.alloc (.cells Tryz.zeroCells211 211)).setRow w1.heap.size (Tryz.zeroCells211.toList.set 256 (.slice (some ⟨w.heap.size, 0, none⟩) 0 4) ++ List.drop 257 Tryz.zeroCells211.toList).toArray) := by
    refine ⟨_, w.heap.size, 4, hT0, by rw [← hnb]; exact hgrow1.size, Nat.le_refl _, by omega, by simp [World.setRow]; omega, fun c _ => ?_, fun c h => by simp at h, ?_, ?_⟩
    · have := c.toNat_lt
      rw [zero_tab]
      simp only [List.drop_replicate, Nat.sub_self, List.replicate_zero, List.append_nil, List.getElem?_toArray]
      rw [List.getElem?_set_ne (by omega), List.getElem?_replicate, if_pos (by omega)]
    · rw [zero_tab]
      simp only [List.drop_replicate, Nat.sub_self, List.replicate_zero, List.append_nil, List.getElem?_toArray]
      rw [List.getElem?_set_self (by simp)]
    · refine row_kept (hown1.alloc (.cells Tryz.zeroCells211 211)) fun k hk => ?_
      simp only [Value.ownBlock, Option.some.injEq] at hk
      subst hk
      exact setRow_other _ _ _ _ (by omega)
  generalize ((w1.alloc (.cells Tryz.zeroCells211 211)).setRow w1.heap.size (Tryz.zeroCells211.toList.set 256 (.slice (some ⟨w.heap.size, 0, none⟩) 0 4) ++ List.drop 257 Tryz.zeroCells211.toList).toArray) = W0 at *
  rw [hnb]
  have HP0 := Aside0.mk hP0
  have HB0 := Aside0.mk hb0
  have hnB : w.heap.size ≤ nb := by rw [← hnb]; exact hgrow1.size
  clear hP0 hb0 hT0 hst hown1 hgrow1
  go_wp2_with fail
  go_loopg [12] 4 (fun n v12 wx => ∃ r : Nat, v12 = .int .i64 (6 - 2 * (r : Int)) ∧ Aside0 (r + n = 4) ∧ Aside0 (PTab w.heap.size r nb wx) ∧ Aside0 (Below w.heap.size w wx))
  case atStart => exact ⟨0, rfl, ⟨rfl⟩, HP0, HB0⟩
  case round =>
    obtain ⟨r, rfl, HN, HP, HW⟩ := hrel
    cases gk with
    | zero =>
      have hr : r = 4 := by have := HN.out; omega
      subst hr
      go_wp2_with fail
      go_ret
      exact ⟨nb, rfl, hnB, HP.out.tab, HW.out⟩
    | succ gk =>
      have hr : r < 4 := by have := HN.out; omega
      obtain ⟨c, hc⟩ : ∃ c, repL[r]? = some c := ⟨_, List.getElem?_eq_getElem (by simpa [repL] using hr)⟩
      obtain ⟨s1, s2, _⟩ := escs_at r c hc
      have hgw : ∀ j v, (strsV escs)[j]? = some v → wr.cell? ⟨g, j, none⟩ = some v := fun j v hj => by
        have := hg j v hj
        rw [HW.out.cell (World.block_lt_of_cell? w _ this)]; exact this
      have x1 := hgw _ _ s1
      have x2 := hgw _ _ s2
      obtain ⟨i, hi2⟩ : ∃ i : Nat, 6 - 2 * r = i := ⟨_, rfl⟩
      rw [hi2] at x1
      rw [show 7 - 2 * r = i + 1 by omega] at x2
      rw [show (6 : Int) - 2 * (r : Int) = (i : Int) by omega]
      have hi8 : i ≤ 6 := by omega
      have hI := Aside0.mk hi2
      clear hi2 s1 s2 hgw
      have hc256 : ((c.toNat : Nat) : Int) < 256 := by have := c.toNat_lt; omega
      have hc0 : (⟨#[c]⟩ : ByteArray)[0]'(Nat.zero_lt_one) = c := rfl
      have hnew : c ∉ repL.take r := by
        rcases (show r = 0 ∨ r = 1 ∨ r = 2 ∨ r = 3 by omega) with rfl | rfl | rfl | rfl <;> cases hc <;> decide
      obtain ⟨cs, tb, cap, hT, hBn, hBt, htn, htl, hno, hyes, hc6, hown⟩ := HP.out
      have y1 := hT.cell c.toNat _ (hno c hnew)
      have y2 := hT.cell 256 _ hc6
      have y3 := hT.fz 256
      have y4 := hT.fz c.toNat
      have HX := Aside0.mk hyes
      have HNo := Aside0.mk hno
      have HT := Aside0.mk hT
      have HO := Aside0.mk hown
      clear hyes hno hT hown
      have heq := eql_nil
      have hcv : (convert 93 9 (.slice (some ⟨wr.heap.size, 0, none⟩) 1 1)).run Tryz.prog (wr.alloc (.cells #[.int .u8 (c.toNat : Int)] 5)) = .ok (.string ⟨#[c]⟩) (wr.alloc (.cells #[.int .u8 (c.toNat : Int)] 5)) :=
        run_convert_bytes_back (P := Tryz.prog) _ 93 9 5 ⟨wr.heap.size, 0, none⟩ 1 [c] Tryz.underlying93 Tryz.underlying5 Tryz.underlying9 (fun j hj => by
          have hj0 : j = 0 := by simpa using hj
          subst hj0
          rw [show (⟨wr.heap.size, 0, none⟩ : Addr).add 0 = ⟨wr.heap.size, 0, none⟩ from rfl, Lib.cell_of_heap (heap_alloc_new wr _)]
          rfl)
      have hO2 := (HO.out.alloc (.cells #[.int .u8 (c.toNat : Int)] 5)).alloc (.cells #[.string ⟨#[c]⟩] 9)
      have hnews : ∀ j u, ([.string ⟨#[c]⟩] : List Value)[j]? = some u → ((wr.alloc (.cells #[.int .u8 (c.toNat : Int)] 5)).alloc (.cells #[.string ⟨#[c]⟩] 9)).cell? ((⟨wr.heap.size + 1, 0, none⟩ : Addr).add j) = some u := by
        have h := World.news_of_block (cs := #[.string ⟨#[c]⟩]) (t := 9) (fr := (0, 0)) (heap_alloc_new (wr.alloc (.cells #[.int .u8 (c.toNat : Int)] 5)) (.cells #[.string ⟨#[c]⟩] 9))
        rw [show (wr.alloc (.cells #[.int .u8 (c.toNat : Int)] 5)).heap.size = wr.heap.size + 1 by simp] at h
        exact h
      have hBw : w.heap.size ≤ wr.heap.size := HW.out.size
      have hnbl : nb < wr.heap.size := lt_heap HT.out.1
      have hcl := c.toNat_lt
      have hconv : ∀ W, (convert 9 93 (strV (escB c))).run Tryz.prog W = .ok (.slice (some ⟨W.heap.size, 0, none⟩) (escB c).length (grownCap W (escB c).length 0 5)) (bytesWorld W 5 ⟨(escB c).toArray⟩) := fun W => by
        have h := Lib.run_convert_string_bytes W 9 93 5 (⟨(escB c).toArray⟩ : ByteArray) Tryz.underlying9 Tryz.underlying93 Tryz.underlying5
        rw [show (⟨(escB c).toArray⟩ : ByteArray).size = (escB c).length by simp [ByteArray.size]] at h
        exact h
      have HO2 := Aside0.mk hO2
      have HNW := Aside0.mk hnews
      clear hO2 hnews
      go_wp2_with (at_builtin; refine wpList_append_lies _ rfl _ _ 28 rfl w.heap.size 9 i0 _ 1 16 Tryz.underlying28 hi hz0 hz1 hz2 rfl (by decide) (.slice (some ⟨tb, 0, none⟩) r cap) r _ rfl HO2.out ⟨wr.heap.size + 1, 0, none⟩ 1 1 [.string ⟨#[c]⟩] rfl rfl HNW.out (fun u hu => by rw [List.mem_singleton] at hu; subst hu; rfl) (by decide) (by unfold maxLen; omega) (by omega) (by simp; omega) (wr.heap.size + 2) (by simp) ?_; intro g2 cap2 w2 hown2 hgrow hat hlt; have hT2 : TabAt nb cs w2 := ⟨(hgrow.block nb (by simp; omega) (fun h => htn (Option.some.inj h).symm)).trans ((Below.heap_alloc _ _ _ (by simp; omega)).trans ((Below.heap_alloc _ _ _ hnbl).trans HT.out.1)), HT.out.2⟩; have z1 := hT2.cell 256 _ hc6; have z2 := hT2.fz 256; have hT3 : ∀ v, TabAt nb (cs.setIfInBounds 256 v) (bytesWorld (w2.setCell ⟨nb, 256, none⟩ v) 5 ⟨(escB c).toArray⟩) := (fun v => ⟨((below_bytesWorld nb.succ (w2.setCell ⟨nb, 256, none⟩ v) 5 ⟨(escB c).toArray⟩ (by have := hgrow.size; simp [World.setCell] at this ⊢; omega)).block nb (Nat.lt_succ_self _)).trans (hT2.set 256 v).1, (hT2.set 256 v).2⟩); have z3 := fun v => (hT3 v).cell c.toNat _ ((Array.getElem?_setIfInBounds_ne (by omega)).trans (HNo.out c hnew)); have z4 := fun v => (hT3 v).fz c.toNat)
      go_roundg gk
      case measure => omega
      case rel =>
        have hB1 := ((HW.out.alloc hBw (.cells #[.int .u8 (c.toNat : Int)] 5)).alloc (by simp; omega) (.cells #[.string ⟨#[c]⟩] 9)).grown hgrow (by simp; omega) (fun k h => by cases h; exact hBt)
        refine ⟨r + 1, by congr 1; have := hI.out; omega, ⟨by have := HN.out; omega⟩, ⟨?_⟩, ⟨?_⟩⟩
        · exact ptab_step w.heap.size r nb g2 cap2 tb _ c cs wr w2 _ _ hc hr hnew HT.out hBn hBw hBt htn htl HNo.out HX.out hown2 hgrow hat hlt
        · exact ((hB1.setCell hBn _).trans (below_bytesWorld w.heap.size _ _ _ (by have := hB1.size; simpa [World.setCell] using this))).setCell hBn _
end Go.Proofs.YtpaopeiegaijiaaGreatDoor
