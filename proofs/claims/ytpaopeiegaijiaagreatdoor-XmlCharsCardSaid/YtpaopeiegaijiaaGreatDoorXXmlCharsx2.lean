-- written by wip/xprint.py: the kit's print with functions walked by hand
import Derived.Test.YtpaopeiegaijiaaGreatDoorXXmlCharsx0
import Derived.Test.YtpaopeiegaijiaaGreatDoorXXmlCharsx1
namespace Go.Proofs.YtpaopeiegaijiaaGreatDoor.XXmlChars
open Go.RowKit Go.Proofs.YtpaopeiegaijiaaGreatDoorW.PrintWords Go.Proofs.YtpaopeiegaijiaaGreatDoorW.PrintLast Go.Proofs.YtpaopeiegaijiaaGreatDoorW.PrintMore
attribute [local go_sem] max2_int min2_int max_two min_two max_three min_three max_four min_four   -- for this text's walks alone
set_option linter.unusedVariables false
set_option linter.unusedSimpArgs false

/-! ### xml_Check: function 20 -/
mutual
def xml_Check.l0 : Nat → List (S60) → List (S60) → List (S60) → Int → Int → Option (Int)
  | 0, _, _, _, _, _ => none
  | k + 1, x0, x3, x6, x7, x8 => if x8 < x7 then (if 0 ≤ x8 then (if x8 < (x6.length : Int) then ((xml_right.f k ((rd_T60 x6 x8).f0) ((rd_T60 x6 x8).f1) ((rd_T60 x6 x8).f2) ((rd_T60 x6 x8).f3)).bind fun t108 => (if t108 = true then (if x8 > 0 then (if (x3.length : Int) = 0 then (xml_Check.j1 k x0 x3 x6 x7 x8 true ((rd_T60 x6 x8).f0) ((rd_T60 x6 x8).f1) ((rd_T60 x6 x8).f2) ((rd_T60 x6 x8).f3)) else (if ((rd_T60 x6 x8).f0) = 3 then (if x8 = 0 then (xml_Check.j1 k x0 x3 x6 x7 x8 true ((rd_T60 x6 x8).f0) ((rd_T60 x6 x8).f1) ((rd_T60 x6 x8).f2) ((rd_T60 x6 x8).f3)) else (if 0 ≤ (wrap64 (x8 - 1)) then (if (wrap64 (x8 - 1)) < (x0.length : Int) then (xml_Check.j1 k x0 x3 x6 x7 x8 (((rd_T60 x0 (wrap64 (x8 - 1))).f0) == 3) ((rd_T60 x6 x8).f0) ((rd_T60 x6 x8).f1) ((rd_T60 x6 x8).f2) ((rd_T60 x6 x8).f3)) else (none)) else (none))) else (xml_Check.j1 k x0 x3 x6 x7 x8 false ((rd_T60 x6 x8).f0) ((rd_T60 x6 x8).f1) ((rd_T60 x6 x8).f2) ((rd_T60 x6 x8).f3)))) else (if ((rd_T60 x6 x8).f0) = 3 then (if x8 = 0 then (xml_Check.j1 k x0 x3 x6 x7 x8 true ((rd_T60 x6 x8).f0) ((rd_T60 x6 x8).f1) ((rd_T60 x6 x8).f2) ((rd_T60 x6 x8).f3)) else (if 0 ≤ (wrap64 (x8 - 1)) then (if (wrap64 (x8 - 1)) < (x0.length : Int) then (xml_Check.j1 k x0 x3 x6 x7 x8 (((rd_T60 x0 (wrap64 (x8 - 1))).f0) == 3) ((rd_T60 x6 x8).f0) ((rd_T60 x6 x8).f1) ((rd_T60 x6 x8).f2) ((rd_T60 x6 x8).f3)) else (none)) else (none))) else (xml_Check.j1 k x0 x3 x6 x7 x8 false ((rd_T60 x6 x8).f0) ((rd_T60 x6 x8).f1) ((rd_T60 x6 x8).f2) ((rd_T60 x6 x8).f3)))) else (xml_Check.j1 k x0 x3 x6 x7 x8 true ((rd_T60 x6 x8).f0) ((rd_T60 x6 x8).f1) ((rd_T60 x6 x8).f2) ((rd_T60 x6 x8).f3)))) else (none)) else (none)) else (if (x0.length : Int) = 0 then (some 70) else (if (x3.length : Int) > 0 then (some 70) else (some 0)))
def xml_Check.j1 : Nat → List (S60) → List (S60) → List (S60) → Int → Int → Bool → Int → Int → ByteArray → ByteArray → Option (Int)
  | 0, _, _, _, _, _, _, _, _, _, _ => none
  | k + 1, x0, x3, x6, x7, x8, x42, x108000, x108001, x108002, x108003 => if x42 = true then (some 70) else (if x108000 = 1 then (if x3.length < 2932031007402 then ((some (x3 ++ [(⟨x108000, x108001, x108002, x108003⟩ : S60)] : List (S60))).bind fun y111 => (if (y111.length : Int) > 16 then (some 70) else (xml_Check.l0 k x0 y111 x6 x7 (wrap64 (x8 + 1))))) else (none)) else (if x108000 = 2 then (if (x3.length : Int) = 0 then (xml_Check.j2 k x0 x3 x6 x7 x8 true) else (if 0 ≤ (wrap64 ((x3.length : Int) - 1)) then (if (wrap64 ((x3.length : Int) - 1)) < (x3.length : Int) then (if ((rd_T60 x3 (wrap64 ((x3.length : Int) - 1))).f2).toList = x108002.toList then (xml_Check.j2 k x0 x3 x6 x7 x8 (((rd_T60 x3 (wrap64 ((x3.length : Int) - 1))).f1) != x108001)) else (xml_Check.j2 k x0 x3 x6 x7 x8 true)) else (none)) else (none))) else (if (x3.length : Int) > 16 then (some 70) else (xml_Check.l0 k x0 x3 x6 x7 (wrap64 (x8 + 1))))))
def xml_Check.j2 : Nat → List (S60) → List (S60) → List (S60) → Int → Int → Bool → Option (Int)
  | 0, _, _, _, _, _, _ => none
  | k + 1, x0, x3, x6, x7, x8, x79 => if x79 = true then (some 70) else (if 0 ≤ (wrap64 ((x3.length : Int) - 1)) then (if (wrap64 ((x3.length : Int) - 1)) ≤ (x3.length : Int) then ((some (x3.take ((wrap64 ((x3.length : Int) - 1)) : Int).toNat : List (S60))).bind fun y116 => (if (y116.length : Int) > 16 then (some 70) else (xml_Check.l0 k x0 y116 x6 x7 (wrap64 (x8 + 1))))) else (none)) else (none))
end
def xml_Check.f (k : Nat) (l0 : List (S60)) : Option (Int) := xml_Check.l0 k l0 ([] : List (S60)) l0 (l0.length : Int) 0
theorem xml_Check.mono_l : ∀ k, (∀ y0 y1 y2 y3 y4, LeO (xml_Check.l0 k y0 y1 y2 y3 y4) (xml_Check.l0 (k + 1) y0 y1 y2 y3 y4)) ∧ (∀ y0 y1 y2 y3 y4 y5 y6 y7 y8 y9, LeO (xml_Check.j1 k y0 y1 y2 y3 y4 y5 y6 y7 y8 y9) (xml_Check.j1 (k + 1) y0 y1 y2 y3 y4 y5 y6 y7 y8 y9)) ∧ (∀ y0 y1 y2 y3 y4 y5, LeO (xml_Check.j2 k y0 y1 y2 y3 y4 y5) (xml_Check.j2 (k + 1) y0 y1 y2 y3 y4 y5))
  | 0 => ⟨fun _ _ _ _ _ r h => by simp [xml_Check.l0] at h, fun _ _ _ _ _ _ _ _ _ _ r h => by simp [xml_Check.j1] at h, fun _ _ _ _ _ _ r h => by simp [xml_Check.j2] at h⟩
  | k + 1 => by
    obtain ⟨ih0, ih1, ih2⟩ := xml_Check.mono_l k
    refine ⟨?_, ?_, ?_⟩
    · intro y0 y1 y2 y3 y4
      unfold xml_Check.l0
      repeat' first
      | (with_reducible exact ih0 _ _ _ _ _)
      | (with_reducible exact ih1 _ _ _ _ _ _ _ _ _ _)
      | (with_reducible exact ih2 _ _ _ _ _ _)
      | (with_reducible exact xml_right.mono _ _ _ _ _)
      | (with_reducible exact LeO.refl _)
      | (with_reducible exact LeO.none _)
      | (with_reducible refine LeO.ite ?_ ?_)
      | (with_reducible refine LeO.bind ?_ (fun _ => ?_))
      | exact ih0 _ _ _ _ _
      | exact ih1 _ _ _ _ _ _ _ _ _ _
      | exact ih2 _ _ _ _ _ _
      | exact xml_right.mono _ _ _ _ _
      | exact LeO.none _
      | refine LeO.ite ?_ ?_
      | refine LeO.bind ?_ (fun _ => ?_)
    · intro y0 y1 y2 y3 y4 y5 y6 y7 y8 y9
      unfold xml_Check.j1
      repeat' first
      | (with_reducible exact ih0 _ _ _ _ _)
      | (with_reducible exact ih1 _ _ _ _ _ _ _ _ _ _)
      | (with_reducible exact ih2 _ _ _ _ _ _)
      | (with_reducible exact xml_right.mono _ _ _ _ _)
      | (with_reducible exact LeO.refl _)
      | (with_reducible exact LeO.none _)
      | (with_reducible refine LeO.ite ?_ ?_)
      | (with_reducible refine LeO.bind ?_ (fun _ => ?_))
      | exact ih0 _ _ _ _ _
      | exact ih1 _ _ _ _ _ _ _ _ _ _
      | exact ih2 _ _ _ _ _ _
      | exact xml_right.mono _ _ _ _ _
      | exact LeO.none _
      | refine LeO.ite ?_ ?_
      | refine LeO.bind ?_ (fun _ => ?_)
    · intro y0 y1 y2 y3 y4 y5
      unfold xml_Check.j2
      repeat' first
      | (with_reducible exact ih0 _ _ _ _ _)
      | (with_reducible exact ih1 _ _ _ _ _ _ _ _ _ _)
      | (with_reducible exact ih2 _ _ _ _ _ _)
      | (with_reducible exact xml_right.mono _ _ _ _ _)
      | (with_reducible exact LeO.refl _)
      | (with_reducible exact LeO.none _)
      | (with_reducible refine LeO.ite ?_ ?_)
      | (with_reducible refine LeO.bind ?_ (fun _ => ?_))
      | exact ih0 _ _ _ _ _
      | exact ih1 _ _ _ _ _ _ _ _ _ _
      | exact ih2 _ _ _ _ _ _
      | exact xml_right.mono _ _ _ _ _
      | exact LeO.none _
      | refine LeO.ite ?_ ?_
      | refine LeO.bind ?_ (fun _ => ?_)
theorem xml_Check.mono : ∀ a0 k, LeO (xml_Check.f k a0) (xml_Check.f (k + 1) a0) := by
  intro a0 k
  obtain ⟨ih0, ih1, ih2⟩ := xml_Check.mono_l k
  unfold xml_Check.f
  repeat' first
      | (with_reducible exact ih0 _ _ _ _ _)
      | (with_reducible exact ih1 _ _ _ _ _ _ _ _ _ _)
      | (with_reducible exact ih2 _ _ _ _ _ _)
      | (with_reducible exact xml_right.mono _ _ _ _ _)
      | (with_reducible exact LeO.refl _)
      | (with_reducible exact LeO.none _)
      | (with_reducible refine LeO.ite ?_ ?_)
      | (with_reducible refine LeO.bind ?_ (fun _ => ?_))
      | exact ih0 _ _ _ _ _
      | exact ih1 _ _ _ _ _ _ _ _ _ _
      | exact ih2 _ _ _ _ _ _
      | exact xml_right.mono _ _ _ _ _
      | exact LeO.none _
      | refine LeO.ite ?_ ?_
      | refine LeO.bind ?_ (fun _ => ?_)
set_option maxHeartbeats 8000000 in
set_option maxRecDepth 100000 in
theorem xml_Check.calls (k : Nat) (A0 : Option Addr) (c0 : Nat) (l0 : List (S60)) (r : Int) (w : World) (hr0 : Kd.C k60 w A0 l0.length l0) (hc0 : l0.length ≤ c0) (hT : LaidM w) (h : xml_Check.f k l0 = some r) :
    Calls Tryz.prog 20 #[.slice A0 l0.length c0] w fun e w' => e = .returned (.int .i64 r) ∧ Below w.heap.size w w' := by
  have hu60 := Tryz.underlying60
  have HR0 := Aside0.mk hr0
  have HC0 := Aside0.mk hc0
  clear hr0 hc0
  have HB := Aside0.mk (Below.refl w.heap.size w)
  have HT := Aside0.mk hT
  clear hT
  have H : (xml_Check.l0 k l0 ([] : List (S60)) l0 (l0.length : Int) 0) = some r := h
  clear h
  have H' := Aside0.mk H
  clear H
  go_enter Tryz.func20, Tryz.ntmps20
  go_wp2
  repeat (go_quiet (fail); try go_wp2)
  go_loopg [3, 8] k (fun kq v3 v8 w' => ∃ (x3_1 : List (S60)) (x8_1 : Int), v8 = .int .i64 x8_1 ∧ Aside0 (xml_Check.l0 kq l0 x3_1 l0 (l0.length : Int) x8_1 = some r) ∧ Aside0 (kq ≤ k) ∧ Aside0 (Kd.R k60 60 w' w.heap.size (fun _ => True) v3 x3_1) ∧ Aside0 (Below w.heap.size w w'))
  case atStart => exact ⟨(([] : List (S60))), (0), (by first | rfl | (simp; done) | (simp [*]; done)), H', ⟨Nat.le_refl _⟩, ⟨by first | exact Kd.R_nil _ _ _ _ _ | exact Kd.N_nil _ _ _ _ _ | exact Kd.V_nil _ _ _ _ _ | exact Kd.Q_nil _ _ _ _ _ | exact Kd.S_nil _ _ _ _ _⟩, ⟨by repeat (first | (with_reducible first | exact HB.out | apply below_alloc | apply pw_below_drewN | apply below_drew1) | exact HB.out)⟩⟩
  case round =>
    clear H'
    obtain ⟨x3_1, x8_1, rfl, HA, HK1, HO_3, HB⟩ := hrel
    cases gk with
    | zero => exact absurd HA.out (by simp [xml_Check.l0])
    | succ k1 =>
      have H := HA.out
      clear HA
      simp only [xml_Check.l0] at H
      by_cases c2 : x8_1 < (l0.length : Int)
      · rw [if_pos c2] at H
        have c2b0 : decide (x8_1 < (l0.length : Int)) = true := decide_eq_true c2
        clear c2
        by_cases c3 : 0 ≤ x8_1
        · rw [if_pos c3] at H
          have c3b0 : decide (0 ≤ x8_1) = true := decide_eq_true c3
          clear c3
          by_cases c4 : x8_1 < (l0.length : Int)
          · rw [if_pos c4] at H
            have c4b0 : decide (x8_1 < (l0.length : Int)) = true := decide_eq_true c4
            clear c4
            have HC5 := Aside0.mk H
            clear H
            have p106 : 0 ≤ (x8_1 : Int) := of_decide_eq_true (by first | (with_reducible assumption) | assumption)
            have q106 : x8_1 < (l0.length : Int) := of_decide_eq_true (by first | (with_reducible assumption) | assumption)
            obtain ⟨ad106, e106, hx106_0, hx106_1, hx106_2, hx106_3⟩ := at_T60 HR0.out x8_1 p106 q106
            cases e106
            replace hx106_0 := (HB.out.cell (World.block_lt_of_cell? w _ hx106_0)).trans hx106_0
            replace hx106_1 := (HB.out.cell (World.block_lt_of_cell? w _ hx106_1)).trans hx106_1
            replace hx106_2 := (HB.out.cell (World.block_lt_of_cell? w _ hx106_2)).trans hx106_2
            replace hx106_3 := (HB.out.cell (World.block_lt_of_cell? w _ hx106_3)).trans hx106_3
            replace p106 := eq_true p106
            replace q106 := eq_true q106
            go_upto_region 5 with (first | ((with_reducible refine gate_dst (N := 5) rfl ?_); (try (refine gate_guard (by rfl) ?_; dsimp only)); refine box_event ?hg (N := 5) ?hd (cs := #[.int .i64 0, .int .i64 0, .string (⟨#[]⟩ : ByteArray), .string (⟨#[]⟩ : ByteArray)]) (t := 60) ?hr ?_; (case hd => rfl); (case hg => rfl); (case hr => first | (go_simp; done) | (go_simp; rfl)); intro gb107 hg w6 hbox hb; have n0_ := Aside0.mk (Kd.R_below (Kd.R_elderB (by (with_reducible repeat (first | apply Kd.R_alloc | apply Kd.R_drewN | apply Kd.R_drew)); exact HO_3.out) gb107 (Nat.le_of_eq hg.symm)) hb); have n1_ := Aside0.mk (below_step (by repeat (first | (with_reducible first | exact HB.out | apply below_alloc | apply pw_below_drewN | apply below_drew1) | exact HB.out)) hb); have n2_ := Aside0.mk (hbox); have n3_ := Aside0.mk ((by rw [hg]; exact (below_size (by repeat (first | (with_reducible first | exact HB.out | apply below_alloc | apply pw_below_drewN | apply below_drew1) | exact HB.out))) : w.heap.size ≤ gb107)); have n4_ := Aside0.mk ((by rw [hg]; exact (below_size (by repeat (first | (with_reducible first | exact HB.out | apply below_alloc | apply pw_below_drewN | apply below_drew1) | exact HB.out))) : w.heap.size ≤ gb107)); clear HO_3; clear HB; have HO_3 := n0_; have HB := n1_; have BK107 := n2_; have GW107 := n3_; have GE107 := n4_; clear n0_ n1_ n2_ n3_ n4_; clear hb hbox hg; have hcz7_0 : w6.cell? ⟨gb107, 0, none⟩ = some (.int .i64 0) := (blk_cell BK107.out 0).trans rfl; have hcz7_1 : w6.cell? ⟨gb107, 1, none⟩ = some (.int .i64 0) := (blk_cell BK107.out 1).trans rfl; have hcz7_2 : w6.cell? ⟨gb107, 2, none⟩ = some (.string (⟨#[]⟩ : ByteArray)) := (blk_cell BK107.out 2).trans rfl; have hcz7_3 : w6.cell? ⟨gb107, 3, none⟩ = some (.string (⟨#[]⟩ : ByteArray)) := (blk_cell BK107.out 3).trans rfl; have hfz7_0 := blk_frozen BK107.out 0; have hfz7_1 := blk_frozen BK107.out 1; have hfz7_2 := blk_frozen BK107.out 2; have hfz7_3 := blk_frozen BK107.out 3))
            repeat (go_quiet (first | ((with_reducible refine gate_dst (N := 5) rfl ?_); (try (refine gate_guard (by rfl) ?_; dsimp only)); refine box_event ?hg (N := 5) ?hd (cs := #[.int .i64 0, .int .i64 0, .string (⟨#[]⟩ : ByteArray), .string (⟨#[]⟩ : ByteArray)]) (t := 60) ?hr ?_; (case hd => rfl); (case hg => rfl); (case hr => first | (go_simp; done) | (go_simp; rfl)); intro gb107 hg w6 hbox hb; have n0_ := Aside0.mk (Kd.R_below (Kd.R_elderB (by (with_reducible repeat (first | apply Kd.R_alloc | apply Kd.R_drewN | apply Kd.R_drew)); exact HO_3.out) gb107 (Nat.le_of_eq hg.symm)) hb); have n1_ := Aside0.mk (below_step (by repeat (first | (with_reducible first | exact HB.out | apply below_alloc | apply pw_below_drewN | apply below_drew1) | exact HB.out)) hb); have n2_ := Aside0.mk (hbox); have n3_ := Aside0.mk ((by rw [hg]; exact (below_size (by repeat (first | (with_reducible first | exact HB.out | apply below_alloc | apply pw_below_drewN | apply below_drew1) | exact HB.out))) : w.heap.size ≤ gb107)); have n4_ := Aside0.mk ((by rw [hg]; exact (below_size (by repeat (first | (with_reducible first | exact HB.out | apply below_alloc | apply pw_below_drewN | apply below_drew1) | exact HB.out))) : w.heap.size ≤ gb107)); clear HO_3; clear HB; have HO_3 := n0_; have HB := n1_; have BK107 := n2_; have GW107 := n3_; have GE107 := n4_; clear n0_ n1_ n2_ n3_ n4_; clear hb hbox hg; have hcz7_0 : w6.cell? ⟨gb107, 0, none⟩ = some (.int .i64 0) := (blk_cell BK107.out 0).trans rfl; have hcz7_1 : w6.cell? ⟨gb107, 1, none⟩ = some (.int .i64 0) := (blk_cell BK107.out 1).trans rfl; have hcz7_2 : w6.cell? ⟨gb107, 2, none⟩ = some (.string (⟨#[]⟩ : ByteArray)) := (blk_cell BK107.out 2).trans rfl; have hcz7_3 : w6.cell? ⟨gb107, 3, none⟩ = some (.string (⟨#[]⟩ : ByteArray)) := (blk_cell BK107.out 3).trans rfl; have hfz7_0 := blk_frozen BK107.out 0; have hfz7_1 := blk_frozen BK107.out 1; have hfz7_2 := blk_frozen BK107.out 2; have hfz7_3 := blk_frozen BK107.out 3)); go_upto_region 5 with (first | ((with_reducible refine gate_dst (N := 5) rfl ?_); (try (refine gate_guard (by rfl) ?_; dsimp only)); refine box_event ?hg (N := 5) ?hd (cs := #[.int .i64 0, .int .i64 0, .string (⟨#[]⟩ : ByteArray), .string (⟨#[]⟩ : ByteArray)]) (t := 60) ?hr ?_; (case hd => rfl); (case hg => rfl); (case hr => first | (go_simp; done) | (go_simp; rfl)); intro gb107 hg w6 hbox hb; have n0_ := Aside0.mk (Kd.R_below (Kd.R_elderB (by (with_reducible repeat (first | apply Kd.R_alloc | apply Kd.R_drewN | apply Kd.R_drew)); exact HO_3.out) gb107 (Nat.le_of_eq hg.symm)) hb); have n1_ := Aside0.mk (below_step (by repeat (first | (with_reducible first | exact HB.out | apply below_alloc | apply pw_below_drewN | apply below_drew1) | exact HB.out)) hb); have n2_ := Aside0.mk (hbox); have n3_ := Aside0.mk ((by rw [hg]; exact (below_size (by repeat (first | (with_reducible first | exact HB.out | apply below_alloc | apply pw_below_drewN | apply below_drew1) | exact HB.out))) : w.heap.size ≤ gb107)); have n4_ := Aside0.mk ((by rw [hg]; exact (below_size (by repeat (first | (with_reducible first | exact HB.out | apply below_alloc | apply pw_below_drewN | apply below_drew1) | exact HB.out))) : w.heap.size ≤ gb107)); clear HO_3; clear HB; have HO_3 := n0_; have HB := n1_; have BK107 := n2_; have GW107 := n3_; have GE107 := n4_; clear n0_ n1_ n2_ n3_ n4_; clear hb hbox hg; have hcz7_0 : w6.cell? ⟨gb107, 0, none⟩ = some (.int .i64 0) := (blk_cell BK107.out 0).trans rfl; have hcz7_1 : w6.cell? ⟨gb107, 1, none⟩ = some (.int .i64 0) := (blk_cell BK107.out 1).trans rfl; have hcz7_2 : w6.cell? ⟨gb107, 2, none⟩ = some (.string (⟨#[]⟩ : ByteArray)) := (blk_cell BK107.out 2).trans rfl; have hcz7_3 : w6.cell? ⟨gb107, 3, none⟩ = some (.string (⟨#[]⟩ : ByteArray)) := (blk_cell BK107.out 3).trans rfl; have hfz7_0 := blk_frozen BK107.out 0; have hfz7_1 := blk_frozen BK107.out 1; have hfz7_2 := blk_frozen BK107.out 2; have hfz7_3 := blk_frozen BK107.out 3)))
            (try simp only [Act.put, List.setIfInBounds_toArray, List.set_cons_zero, List.set_cons_succ])
            go_cut [42] (fun v42 wc => ∃ (kq : Nat) (x42_4 : Bool), v42 = .bool x42_4 ∧ Aside0 (xml_Check.j1 kq l0 x3_1 l0 (l0.length : Int) x8_1 x42_4 ((rd_T60 l0 x8_1).f0) ((rd_T60 l0 x8_1).f1) ((rd_T60 l0 x8_1).f2) ((rd_T60 l0 x8_1).f3) = some r) ∧ Aside0 (kq ≤ k1) ∧ Aside0 (Kd.R k60 60 wc w.heap.size (fun k_ => k_ ≠ gb107) u3 x3_1) ∧ Aside0 (wc.heap[gb107]? = some (.cells #[.int .i64 ((rd_T60 l0 x8_1).f0), .int .i64 ((rd_T60 l0 x8_1).f1), .string ((rd_T60 l0 x8_1).f2), .string ((rd_T60 l0 x8_1).f3)] 60 (0, 0))) ∧ Aside0 (Below w.heap.size w wc))
            case first =>
              have H := HC5.out
              clear HC5
              replace H := Option.bind_eq_some_iff.mp H
              obtain ⟨t108, A80, H⟩ := H
              replace H : (if t108 = true then (if x8_1 > 0 then (if (x3_1.length : Int) = 0 then (xml_Check.j1 k1 l0 x3_1 l0 (l0.length : Int) x8_1 true ((rd_T60 l0 x8_1).f0) ((rd_T60 l0 x8_1).f1) ((rd_T60 l0 x8_1).f2) ((rd_T60 l0 x8_1).f3)) else (if ((rd_T60 l0 x8_1).f0) = 3 then (if x8_1 = 0 then (xml_Check.j1 k1 l0 x3_1 l0 (l0.length : Int) x8_1 true ((rd_T60 l0 x8_1).f0) ((rd_T60 l0 x8_1).f1) ((rd_T60 l0 x8_1).f2) ((rd_T60 l0 x8_1).f3)) else (if 0 ≤ (wrap64 (x8_1 - 1)) then (if (wrap64 (x8_1 - 1)) < (l0.length : Int) then (xml_Check.j1 k1 l0 x3_1 l0 (l0.length : Int) x8_1 (((rd_T60 l0 (wrap64 (x8_1 - 1))).f0) == 3) ((rd_T60 l0 x8_1).f0) ((rd_T60 l0 x8_1).f1) ((rd_T60 l0 x8_1).f2) ((rd_T60 l0 x8_1).f3)) else (none)) else (none))) else (xml_Check.j1 k1 l0 x3_1 l0 (l0.length : Int) x8_1 false ((rd_T60 l0 x8_1).f0) ((rd_T60 l0 x8_1).f1) ((rd_T60 l0 x8_1).f2) ((rd_T60 l0 x8_1).f3)))) else (if ((rd_T60 l0 x8_1).f0) = 3 then (if x8_1 = 0 then (xml_Check.j1 k1 l0 x3_1 l0 (l0.length : Int) x8_1 true ((rd_T60 l0 x8_1).f0) ((rd_T60 l0 x8_1).f1) ((rd_T60 l0 x8_1).f2) ((rd_T60 l0 x8_1).f3)) else (if 0 ≤ (wrap64 (x8_1 - 1)) then (if (wrap64 (x8_1 - 1)) < (l0.length : Int) then (xml_Check.j1 k1 l0 x3_1 l0 (l0.length : Int) x8_1 (((rd_T60 l0 (wrap64 (x8_1 - 1))).f0) == 3) ((rd_T60 l0 x8_1).f0) ((rd_T60 l0 x8_1).f1) ((rd_T60 l0 x8_1).f2) ((rd_T60 l0 x8_1).f3)) else (none)) else (none))) else (xml_Check.j1 k1 l0 x3_1 l0 (l0.length : Int) x8_1 false ((rd_T60 l0 x8_1).f0) ((rd_T60 l0 x8_1).f1) ((rd_T60 l0 x8_1).f2) ((rd_T60 l0 x8_1).f3)))) else (xml_Check.j1 k1 l0 x3_1 l0 (l0.length : Int) x8_1 true ((rd_T60 l0 x8_1).f0) ((rd_T60 l0 x8_1).f1) ((rd_T60 l0 x8_1).f2) ((rd_T60 l0 x8_1).f3))) = some r := H
              have A8 := Aside0.mk A80
              clear A80
              by_cases c9 : t108 = true
              · subst c9
                have H1 : (if x8_1 > 0 then (if (x3_1.length : Int) = 0 then (xml_Check.j1 k1 l0 x3_1 l0 (l0.length : Int) x8_1 true ((rd_T60 l0 x8_1).f0) ((rd_T60 l0 x8_1).f1) ((rd_T60 l0 x8_1).f2) ((rd_T60 l0 x8_1).f3)) else (if ((rd_T60 l0 x8_1).f0) = 3 then (if x8_1 = 0 then (xml_Check.j1 k1 l0 x3_1 l0 (l0.length : Int) x8_1 true ((rd_T60 l0 x8_1).f0) ((rd_T60 l0 x8_1).f1) ((rd_T60 l0 x8_1).f2) ((rd_T60 l0 x8_1).f3)) else (if 0 ≤ (wrap64 (x8_1 - 1)) then (if (wrap64 (x8_1 - 1)) < (l0.length : Int) then (xml_Check.j1 k1 l0 x3_1 l0 (l0.length : Int) x8_1 (((rd_T60 l0 (wrap64 (x8_1 - 1))).f0) == 3) ((rd_T60 l0 x8_1).f0) ((rd_T60 l0 x8_1).f1) ((rd_T60 l0 x8_1).f2) ((rd_T60 l0 x8_1).f3)) else (none)) else (none))) else (xml_Check.j1 k1 l0 x3_1 l0 (l0.length : Int) x8_1 false ((rd_T60 l0 x8_1).f0) ((rd_T60 l0 x8_1).f1) ((rd_T60 l0 x8_1).f2) ((rd_T60 l0 x8_1).f3)))) else (if ((rd_T60 l0 x8_1).f0) = 3 then (if x8_1 = 0 then (xml_Check.j1 k1 l0 x3_1 l0 (l0.length : Int) x8_1 true ((rd_T60 l0 x8_1).f0) ((rd_T60 l0 x8_1).f1) ((rd_T60 l0 x8_1).f2) ((rd_T60 l0 x8_1).f3)) else (if 0 ≤ (wrap64 (x8_1 - 1)) then (if (wrap64 (x8_1 - 1)) < (l0.length : Int) then (xml_Check.j1 k1 l0 x3_1 l0 (l0.length : Int) x8_1 (((rd_T60 l0 (wrap64 (x8_1 - 1))).f0) == 3) ((rd_T60 l0 x8_1).f0) ((rd_T60 l0 x8_1).f1) ((rd_T60 l0 x8_1).f2) ((rd_T60 l0 x8_1).f3)) else (none)) else (none))) else (xml_Check.j1 k1 l0 x3_1 l0 (l0.length : Int) x8_1 false ((rd_T60 l0 x8_1).f0) ((rd_T60 l0 x8_1).f1) ((rd_T60 l0 x8_1).f2) ((rd_T60 l0 x8_1).f3)))) = some r := by rw [if_pos rfl] at H; exact H
                clear H
                have H := H1
                clear H1
                by_cases c10 : x8_1 > 0
                · rw [if_pos c10] at H
                  have c10b0 : decide (0 < x8_1) = true := decide_eq_true c10
                  clear c10
                  (first | rw [c10b0] | (simp only [i64_w, i32_w]; rw [c10b0]) | skip)
                  by_cases c11 : (x3_1.length : Int) = 0
                  · rw [if_pos c11] at H
                    have c11b0 : ((x3_1.length : Int) == 0) = true := beq_iff_eq.mpr c11
                    have c11b1 : ((x3_1.length : Int) != 0) = false := bne_eq_false_iff_eq.mpr c11
                    clear c11
                    have H' := Aside0.mk H
                    clear H
                    have hcz12_0 : w6.cell? ⟨gb107, 0, none⟩ = some (.int .i64 0) := (blk_cell BK107.out 0).trans rfl
                    have hcz12_1 : w6.cell? ⟨gb107, 1, none⟩ = some (.int .i64 0) := (blk_cell BK107.out 1).trans rfl
                    have hcz12_2 : w6.cell? ⟨gb107, 2, none⟩ = some (.string (⟨#[]⟩ : ByteArray)) := (blk_cell BK107.out 2).trans rfl
                    have hcz12_3 : w6.cell? ⟨gb107, 3, none⟩ = some (.string (⟨#[]⟩ : ByteArray)) := (blk_cell BK107.out 3).trans rfl
                    have hfz12_0 := blk_frozen BK107.out 0
                    have hfz12_1 := blk_frozen BK107.out 1
                    have hfz12_2 := blk_frozen BK107.out 2
                    have hfz12_3 := blk_frozen BK107.out 3
                    go_wp2_with (first | (go_at_call 45; (with_reducible refine (xml_right.calls k1 ((rd_T60 l0 x8_1).f0) ((rd_T60 l0 x8_1).f1) ((rd_T60 l0 x8_1).f2) ((rd_T60 l0 x8_1).f3) true _ ?side1 A8.out).mono ?_); (case side1 => exact LaidM.below HT.out (by repeat (first | (with_reducible first | exact HB.out | apply below_alloc | apply pw_below_drewN | apply below_drew1 | refine below_set ?_ GE107.out) | exact HB.out))); rintro e w13 ⟨rfl, hb⟩; have n0_ := Aside0.mk (Kd.R_below (by (with_reducible repeat (first | apply Kd.R_alloc | apply Kd.R_drewN | apply Kd.R_drew)); exact (Kd.R_mono (Kd.R_far (p := ⟨gb107, 3, none⟩) (Kd.R_far (p := ⟨gb107, 2, none⟩) (Kd.R_far (p := ⟨gb107, 1, none⟩) (Kd.R_far (p := ⟨gb107, 0, none⟩) (Kd.R_mono HO_3.out (fun k_ hk => (⟨hk, hk.2⟩ : _ ∧ k_ ≠ gb107))) (fun _ hk => hk.2) (.int .i64 ((rd_T60 l0 x8_1).f0))) (fun _ hk => hk.2) (.int .i64 ((rd_T60 l0 x8_1).f1))) (fun _ hk => hk.2) (.string ((rd_T60 l0 x8_1).f2))) (fun _ hk => hk.2) (.string ((rd_T60 l0 x8_1).f3))) (fun _ h_ => h_.1))) hb); have n1_ := Aside0.mk (blk_below (g := gb107) (o := .cells #[.int .i64 ((rd_T60 l0 x8_1).f0), .int .i64 ((rd_T60 l0 x8_1).f1), .string ((rd_T60 l0 x8_1).f2), .string ((rd_T60 l0 x8_1).f3)] 60 (0, 0)) (by (with_reducible repeat (first | refine blk_drewN ?_ _ | refine blk_drew ?_ | refine blk_alloc ?_ _)); refine blk_put (cs := #[.int .i64 ((rd_T60 l0 x8_1).f0), .int .i64 ((rd_T60 l0 x8_1).f1), .string ((rd_T60 l0 x8_1).f2), .string (⟨#[]⟩ : ByteArray)]) ?_ 3 _ rfl; (with_reducible repeat (first | refine blk_drewN ?_ _ | refine blk_drew ?_ | refine blk_alloc ?_ _)); refine blk_put (cs := #[.int .i64 ((rd_T60 l0 x8_1).f0), .int .i64 ((rd_T60 l0 x8_1).f1), .string (⟨#[]⟩ : ByteArray), .string (⟨#[]⟩ : ByteArray)]) ?_ 2 _ rfl; (with_reducible repeat (first | refine blk_drewN ?_ _ | refine blk_drew ?_ | refine blk_alloc ?_ _)); refine blk_put (cs := #[.int .i64 ((rd_T60 l0 x8_1).f0), .int .i64 0, .string (⟨#[]⟩ : ByteArray), .string (⟨#[]⟩ : ByteArray)]) ?_ 1 _ rfl; (with_reducible repeat (first | refine blk_drewN ?_ _ | refine blk_drew ?_ | refine blk_alloc ?_ _)); refine blk_put (cs := #[.int .i64 0, .int .i64 0, .string (⟨#[]⟩ : ByteArray), .string (⟨#[]⟩ : ByteArray)]) ?_ 0 _ rfl; (with_reducible repeat (first | refine blk_drewN ?_ _ | refine blk_drew ?_ | refine blk_alloc ?_ _)); exact BK107.out) hb); have n2_ := Aside0.mk (below_step (by repeat (first | (with_reducible first | exact HB.out | apply below_alloc | apply pw_below_drewN | apply below_drew1 | refine below_set ?_ GE107.out) | exact HB.out)) hb); clear HO_3; clear BK107; clear HB; have HO_3 := n0_; have BK107 := n1_; have HB := n2_; clear n0_ n1_ n2_; (try clear hb); (try clear hb2); (try clear hk); (try clear hi); obtain ⟨Ao14, co14, eo14⟩ := Kd.R_slice HO_3.out; subst eo14))
                    repeat (go_quiet (first | (go_at_call 45; (with_reducible refine (xml_right.calls k1 ((rd_T60 l0 x8_1).f0) ((rd_T60 l0 x8_1).f1) ((rd_T60 l0 x8_1).f2) ((rd_T60 l0 x8_1).f3) true _ ?side1 A8.out).mono ?_); (case side1 => exact LaidM.below HT.out (by repeat (first | (with_reducible first | exact HB.out | apply below_alloc | apply pw_below_drewN | apply below_drew1 | refine below_set ?_ GE107.out) | exact HB.out))); rintro e w13 ⟨rfl, hb⟩; have n0_ := Aside0.mk (Kd.R_below (by (with_reducible repeat (first | apply Kd.R_alloc | apply Kd.R_drewN | apply Kd.R_drew)); exact (Kd.R_mono (Kd.R_far (p := ⟨gb107, 3, none⟩) (Kd.R_far (p := ⟨gb107, 2, none⟩) (Kd.R_far (p := ⟨gb107, 1, none⟩) (Kd.R_far (p := ⟨gb107, 0, none⟩) (Kd.R_mono HO_3.out (fun k_ hk => (⟨hk, hk.2⟩ : _ ∧ k_ ≠ gb107))) (fun _ hk => hk.2) (.int .i64 ((rd_T60 l0 x8_1).f0))) (fun _ hk => hk.2) (.int .i64 ((rd_T60 l0 x8_1).f1))) (fun _ hk => hk.2) (.string ((rd_T60 l0 x8_1).f2))) (fun _ hk => hk.2) (.string ((rd_T60 l0 x8_1).f3))) (fun _ h_ => h_.1))) hb); have n1_ := Aside0.mk (blk_below (g := gb107) (o := .cells #[.int .i64 ((rd_T60 l0 x8_1).f0), .int .i64 ((rd_T60 l0 x8_1).f1), .string ((rd_T60 l0 x8_1).f2), .string ((rd_T60 l0 x8_1).f3)] 60 (0, 0)) (by (with_reducible repeat (first | refine blk_drewN ?_ _ | refine blk_drew ?_ | refine blk_alloc ?_ _)); refine blk_put (cs := #[.int .i64 ((rd_T60 l0 x8_1).f0), .int .i64 ((rd_T60 l0 x8_1).f1), .string ((rd_T60 l0 x8_1).f2), .string (⟨#[]⟩ : ByteArray)]) ?_ 3 _ rfl; (with_reducible repeat (first | refine blk_drewN ?_ _ | refine blk_drew ?_ | refine blk_alloc ?_ _)); refine blk_put (cs := #[.int .i64 ((rd_T60 l0 x8_1).f0), .int .i64 ((rd_T60 l0 x8_1).f1), .string (⟨#[]⟩ : ByteArray), .string (⟨#[]⟩ : ByteArray)]) ?_ 2 _ rfl; (with_reducible repeat (first | refine blk_drewN ?_ _ | refine blk_drew ?_ | refine blk_alloc ?_ _)); refine blk_put (cs := #[.int .i64 ((rd_T60 l0 x8_1).f0), .int .i64 0, .string (⟨#[]⟩ : ByteArray), .string (⟨#[]⟩ : ByteArray)]) ?_ 1 _ rfl; (with_reducible repeat (first | refine blk_drewN ?_ _ | refine blk_drew ?_ | refine blk_alloc ?_ _)); refine blk_put (cs := #[.int .i64 0, .int .i64 0, .string (⟨#[]⟩ : ByteArray), .string (⟨#[]⟩ : ByteArray)]) ?_ 0 _ rfl; (with_reducible repeat (first | refine blk_drewN ?_ _ | refine blk_drew ?_ | refine blk_alloc ?_ _)); exact BK107.out) hb); have n2_ := Aside0.mk (below_step (by repeat (first | (with_reducible first | exact HB.out | apply below_alloc | apply pw_below_drewN | apply below_drew1 | refine below_set ?_ GE107.out) | exact HB.out)) hb); clear HO_3; clear BK107; clear HB; have HO_3 := n0_; have BK107 := n1_; have HB := n2_; clear n0_ n1_ n2_; (try clear hb); (try clear hb2); (try clear hk); (try clear hi); obtain ⟨Ao14, co14, eo14⟩ := Kd.R_slice HO_3.out; subst eo14)); try go_wp2_with (first | (go_at_call 45; (with_reducible refine (xml_right.calls k1 ((rd_T60 l0 x8_1).f0) ((rd_T60 l0 x8_1).f1) ((rd_T60 l0 x8_1).f2) ((rd_T60 l0 x8_1).f3) true _ ?side1 A8.out).mono ?_); (case side1 => exact LaidM.below HT.out (by repeat (first | (with_reducible first | exact HB.out | apply below_alloc | apply pw_below_drewN | apply below_drew1 | refine below_set ?_ GE107.out) | exact HB.out))); rintro e w13 ⟨rfl, hb⟩; have n0_ := Aside0.mk (Kd.R_below (by (with_reducible repeat (first | apply Kd.R_alloc | apply Kd.R_drewN | apply Kd.R_drew)); exact (Kd.R_mono (Kd.R_far (p := ⟨gb107, 3, none⟩) (Kd.R_far (p := ⟨gb107, 2, none⟩) (Kd.R_far (p := ⟨gb107, 1, none⟩) (Kd.R_far (p := ⟨gb107, 0, none⟩) (Kd.R_mono HO_3.out (fun k_ hk => (⟨hk, hk.2⟩ : _ ∧ k_ ≠ gb107))) (fun _ hk => hk.2) (.int .i64 ((rd_T60 l0 x8_1).f0))) (fun _ hk => hk.2) (.int .i64 ((rd_T60 l0 x8_1).f1))) (fun _ hk => hk.2) (.string ((rd_T60 l0 x8_1).f2))) (fun _ hk => hk.2) (.string ((rd_T60 l0 x8_1).f3))) (fun _ h_ => h_.1))) hb); have n1_ := Aside0.mk (blk_below (g := gb107) (o := .cells #[.int .i64 ((rd_T60 l0 x8_1).f0), .int .i64 ((rd_T60 l0 x8_1).f1), .string ((rd_T60 l0 x8_1).f2), .string ((rd_T60 l0 x8_1).f3)] 60 (0, 0)) (by (with_reducible repeat (first | refine blk_drewN ?_ _ | refine blk_drew ?_ | refine blk_alloc ?_ _)); refine blk_put (cs := #[.int .i64 ((rd_T60 l0 x8_1).f0), .int .i64 ((rd_T60 l0 x8_1).f1), .string ((rd_T60 l0 x8_1).f2), .string (⟨#[]⟩ : ByteArray)]) ?_ 3 _ rfl; (with_reducible repeat (first | refine blk_drewN ?_ _ | refine blk_drew ?_ | refine blk_alloc ?_ _)); refine blk_put (cs := #[.int .i64 ((rd_T60 l0 x8_1).f0), .int .i64 ((rd_T60 l0 x8_1).f1), .string (⟨#[]⟩ : ByteArray), .string (⟨#[]⟩ : ByteArray)]) ?_ 2 _ rfl; (with_reducible repeat (first | refine blk_drewN ?_ _ | refine blk_drew ?_ | refine blk_alloc ?_ _)); refine blk_put (cs := #[.int .i64 ((rd_T60 l0 x8_1).f0), .int .i64 0, .string (⟨#[]⟩ : ByteArray), .string (⟨#[]⟩ : ByteArray)]) ?_ 1 _ rfl; (with_reducible repeat (first | refine blk_drewN ?_ _ | refine blk_drew ?_ | refine blk_alloc ?_ _)); refine blk_put (cs := #[.int .i64 0, .int .i64 0, .string (⟨#[]⟩ : ByteArray), .string (⟨#[]⟩ : ByteArray)]) ?_ 0 _ rfl; (with_reducible repeat (first | refine blk_drewN ?_ _ | refine blk_drew ?_ | refine blk_alloc ?_ _)); exact BK107.out) hb); have n2_ := Aside0.mk (below_step (by repeat (first | (with_reducible first | exact HB.out | apply below_alloc | apply pw_below_drewN | apply below_drew1 | refine below_set ?_ GE107.out) | exact HB.out)) hb); clear HO_3; clear BK107; clear HB; have HO_3 := n0_; have BK107 := n1_; have HB := n2_; clear n0_ n1_ n2_; (try clear hb); (try clear hb2); (try clear hk); (try clear hi); obtain ⟨Ao14, co14, eo14⟩ := Kd.R_slice HO_3.out; subst eo14)))
                    go_meet
                    case rel => exact ⟨_, (true), (by first | rfl | (simp; done) | (simp [*]; done)), H', ⟨by have := HK1.out; first | omega | exact Nat.le_refl _⟩, ⟨by (with_reducible repeat (first | apply Kd.R_alloc | apply Kd.R_drewN | apply Kd.R_drew)); exact Kd.R_mono HO_3.out (fun _ hk => hk.2)⟩, ⟨by (with_reducible repeat (first | refine blk_drewN ?_ _ | refine blk_drew ?_ | refine blk_alloc ?_ _)); exact BK107.out⟩, ⟨by repeat (first | (with_reducible first | exact HB.out | apply below_alloc | apply pw_below_drewN | apply below_drew1 | refine below_set ?_ GE107.out) | exact HB.out)⟩⟩
                  · rw [if_neg c11] at H
                    have c11b0 : ((x3_1.length : Int) == 0) = false := beq_eq_false_iff_ne.mpr c11
                    have c11b1 : ((x3_1.length : Int) != 0) = true := bne_iff_ne.mpr c11
                    have c11b2 : ¬ (x3_1 = []) := fun h_ => c11 (by rw [h_]; rfl)
                    by_cases c15 : ((rd_T60 l0 x8_1).f0) = 3
                    · rw [if_pos c15] at H
                      have c15b0 : (((rd_T60 l0 x8_1).f0) == 3) = true := beq_iff_eq.mpr c15
                      have c15b1 : (((rd_T60 l0 x8_1).f0) != 3) = false := bne_eq_false_iff_eq.mpr c15
                      clear c15
                      by_cases c16 : x8_1 = 0
                      · rw [if_pos c16] at H
                        have c16b0 : (x8_1 == 0) = true := beq_iff_eq.mpr c16
                        have c16b1 : (x8_1 != 0) = false := bne_eq_false_iff_eq.mpr c16
                        clear c16
                        have H' := Aside0.mk H
                        clear H
                        have hcz17_0 : w6.cell? ⟨gb107, 0, none⟩ = some (.int .i64 0) := (blk_cell BK107.out 0).trans rfl
                        have hcz17_1 : w6.cell? ⟨gb107, 1, none⟩ = some (.int .i64 0) := (blk_cell BK107.out 1).trans rfl
                        have hcz17_2 : w6.cell? ⟨gb107, 2, none⟩ = some (.string (⟨#[]⟩ : ByteArray)) := (blk_cell BK107.out 2).trans rfl
                        have hcz17_3 : w6.cell? ⟨gb107, 3, none⟩ = some (.string (⟨#[]⟩ : ByteArray)) := (blk_cell BK107.out 3).trans rfl
                        have hfz17_0 := blk_frozen BK107.out 0
                        have hfz17_1 := blk_frozen BK107.out 1
                        have hfz17_2 := blk_frozen BK107.out 2
                        have hfz17_3 := blk_frozen BK107.out 3
                        go_wp2_with (first | (go_at_call 45; (with_reducible refine (xml_right.calls k1 ((rd_T60 l0 x8_1).f0) ((rd_T60 l0 x8_1).f1) ((rd_T60 l0 x8_1).f2) ((rd_T60 l0 x8_1).f3) true _ ?side1 A8.out).mono ?_); (case side1 => exact LaidM.below HT.out (by repeat (first | (with_reducible first | exact HB.out | apply below_alloc | apply pw_below_drewN | apply below_drew1 | refine below_set ?_ GE107.out) | exact HB.out))); rintro e w18 ⟨rfl, hb⟩; have n0_ := Aside0.mk (Kd.R_below (by (with_reducible repeat (first | apply Kd.R_alloc | apply Kd.R_drewN | apply Kd.R_drew)); exact (Kd.R_mono (Kd.R_far (p := ⟨gb107, 3, none⟩) (Kd.R_far (p := ⟨gb107, 2, none⟩) (Kd.R_far (p := ⟨gb107, 1, none⟩) (Kd.R_far (p := ⟨gb107, 0, none⟩) (Kd.R_mono HO_3.out (fun k_ hk => (⟨hk, hk.2⟩ : _ ∧ k_ ≠ gb107))) (fun _ hk => hk.2) (.int .i64 ((rd_T60 l0 x8_1).f0))) (fun _ hk => hk.2) (.int .i64 ((rd_T60 l0 x8_1).f1))) (fun _ hk => hk.2) (.string ((rd_T60 l0 x8_1).f2))) (fun _ hk => hk.2) (.string ((rd_T60 l0 x8_1).f3))) (fun _ h_ => h_.1))) hb); have n1_ := Aside0.mk (blk_below (g := gb107) (o := .cells #[.int .i64 ((rd_T60 l0 x8_1).f0), .int .i64 ((rd_T60 l0 x8_1).f1), .string ((rd_T60 l0 x8_1).f2), .string ((rd_T60 l0 x8_1).f3)] 60 (0, 0)) (by (with_reducible repeat (first | refine blk_drewN ?_ _ | refine blk_drew ?_ | refine blk_alloc ?_ _)); refine blk_put (cs := #[.int .i64 ((rd_T60 l0 x8_1).f0), .int .i64 ((rd_T60 l0 x8_1).f1), .string ((rd_T60 l0 x8_1).f2), .string (⟨#[]⟩ : ByteArray)]) ?_ 3 _ rfl; (with_reducible repeat (first | refine blk_drewN ?_ _ | refine blk_drew ?_ | refine blk_alloc ?_ _)); refine blk_put (cs := #[.int .i64 ((rd_T60 l0 x8_1).f0), .int .i64 ((rd_T60 l0 x8_1).f1), .string (⟨#[]⟩ : ByteArray), .string (⟨#[]⟩ : ByteArray)]) ?_ 2 _ rfl; (with_reducible repeat (first | refine blk_drewN ?_ _ | refine blk_drew ?_ | refine blk_alloc ?_ _)); refine blk_put (cs := #[.int .i64 ((rd_T60 l0 x8_1).f0), .int .i64 0, .string (⟨#[]⟩ : ByteArray), .string (⟨#[]⟩ : ByteArray)]) ?_ 1 _ rfl; (with_reducible repeat (first | refine blk_drewN ?_ _ | refine blk_drew ?_ | refine blk_alloc ?_ _)); refine blk_put (cs := #[.int .i64 0, .int .i64 0, .string (⟨#[]⟩ : ByteArray), .string (⟨#[]⟩ : ByteArray)]) ?_ 0 _ rfl; (with_reducible repeat (first | refine blk_drewN ?_ _ | refine blk_drew ?_ | refine blk_alloc ?_ _)); exact BK107.out) hb); have n2_ := Aside0.mk (below_step (by repeat (first | (with_reducible first | exact HB.out | apply below_alloc | apply pw_below_drewN | apply below_drew1 | refine below_set ?_ GE107.out) | exact HB.out)) hb); clear HO_3; clear BK107; clear HB; have HO_3 := n0_; have BK107 := n1_; have HB := n2_; clear n0_ n1_ n2_; (try clear hb); (try clear hb2); (try clear hk); (try clear hi); obtain ⟨Ao19, co19, eo19⟩ := Kd.R_slice HO_3.out; subst eo19; have hcz20_0 : w18.cell? ⟨gb107, 0, none⟩ = some (.int .i64 ((rd_T60 l0 x8_1).f0)) := (blk_cell BK107.out 0).trans rfl; have hcz20_1 : w18.cell? ⟨gb107, 1, none⟩ = some (.int .i64 ((rd_T60 l0 x8_1).f1)) := (blk_cell BK107.out 1).trans rfl; have hcz20_2 : w18.cell? ⟨gb107, 2, none⟩ = some (.string ((rd_T60 l0 x8_1).f2)) := (blk_cell BK107.out 2).trans rfl; have hcz20_3 : w18.cell? ⟨gb107, 3, none⟩ = some (.string ((rd_T60 l0 x8_1).f3)) := (blk_cell BK107.out 3).trans rfl; have hfz20_0 := blk_frozen BK107.out 0; have hfz20_1 := blk_frozen BK107.out 1; have hfz20_2 := blk_frozen BK107.out 2; have hfz20_3 := blk_frozen BK107.out 3))
                        repeat (go_quiet (first | (go_at_call 45; (with_reducible refine (xml_right.calls k1 ((rd_T60 l0 x8_1).f0) ((rd_T60 l0 x8_1).f1) ((rd_T60 l0 x8_1).f2) ((rd_T60 l0 x8_1).f3) true _ ?side1 A8.out).mono ?_); (case side1 => exact LaidM.below HT.out (by repeat (first | (with_reducible first | exact HB.out | apply below_alloc | apply pw_below_drewN | apply below_drew1 | refine below_set ?_ GE107.out) | exact HB.out))); rintro e w18 ⟨rfl, hb⟩; have n0_ := Aside0.mk (Kd.R_below (by (with_reducible repeat (first | apply Kd.R_alloc | apply Kd.R_drewN | apply Kd.R_drew)); exact (Kd.R_mono (Kd.R_far (p := ⟨gb107, 3, none⟩) (Kd.R_far (p := ⟨gb107, 2, none⟩) (Kd.R_far (p := ⟨gb107, 1, none⟩) (Kd.R_far (p := ⟨gb107, 0, none⟩) (Kd.R_mono HO_3.out (fun k_ hk => (⟨hk, hk.2⟩ : _ ∧ k_ ≠ gb107))) (fun _ hk => hk.2) (.int .i64 ((rd_T60 l0 x8_1).f0))) (fun _ hk => hk.2) (.int .i64 ((rd_T60 l0 x8_1).f1))) (fun _ hk => hk.2) (.string ((rd_T60 l0 x8_1).f2))) (fun _ hk => hk.2) (.string ((rd_T60 l0 x8_1).f3))) (fun _ h_ => h_.1))) hb); have n1_ := Aside0.mk (blk_below (g := gb107) (o := .cells #[.int .i64 ((rd_T60 l0 x8_1).f0), .int .i64 ((rd_T60 l0 x8_1).f1), .string ((rd_T60 l0 x8_1).f2), .string ((rd_T60 l0 x8_1).f3)] 60 (0, 0)) (by (with_reducible repeat (first | refine blk_drewN ?_ _ | refine blk_drew ?_ | refine blk_alloc ?_ _)); refine blk_put (cs := #[.int .i64 ((rd_T60 l0 x8_1).f0), .int .i64 ((rd_T60 l0 x8_1).f1), .string ((rd_T60 l0 x8_1).f2), .string (⟨#[]⟩ : ByteArray)]) ?_ 3 _ rfl; (with_reducible repeat (first | refine blk_drewN ?_ _ | refine blk_drew ?_ | refine blk_alloc ?_ _)); refine blk_put (cs := #[.int .i64 ((rd_T60 l0 x8_1).f0), .int .i64 ((rd_T60 l0 x8_1).f1), .string (⟨#[]⟩ : ByteArray), .string (⟨#[]⟩ : ByteArray)]) ?_ 2 _ rfl; (with_reducible repeat (first | refine blk_drewN ?_ _ | refine blk_drew ?_ | refine blk_alloc ?_ _)); refine blk_put (cs := #[.int .i64 ((rd_T60 l0 x8_1).f0), .int .i64 0, .string (⟨#[]⟩ : ByteArray), .string (⟨#[]⟩ : ByteArray)]) ?_ 1 _ rfl; (with_reducible repeat (first | refine blk_drewN ?_ _ | refine blk_drew ?_ | refine blk_alloc ?_ _)); refine blk_put (cs := #[.int .i64 0, .int .i64 0, .string (⟨#[]⟩ : ByteArray), .string (⟨#[]⟩ : ByteArray)]) ?_ 0 _ rfl; (with_reducible repeat (first | refine blk_drewN ?_ _ | refine blk_drew ?_ | refine blk_alloc ?_ _)); exact BK107.out) hb); have n2_ := Aside0.mk (below_step (by repeat (first | (with_reducible first | exact HB.out | apply below_alloc | apply pw_below_drewN | apply below_drew1 | refine below_set ?_ GE107.out) | exact HB.out)) hb); clear HO_3; clear BK107; clear HB; have HO_3 := n0_; have BK107 := n1_; have HB := n2_; clear n0_ n1_ n2_; (try clear hb); (try clear hb2); (try clear hk); (try clear hi); obtain ⟨Ao19, co19, eo19⟩ := Kd.R_slice HO_3.out; subst eo19; have hcz20_0 : w18.cell? ⟨gb107, 0, none⟩ = some (.int .i64 ((rd_T60 l0 x8_1).f0)) := (blk_cell BK107.out 0).trans rfl; have hcz20_1 : w18.cell? ⟨gb107, 1, none⟩ = some (.int .i64 ((rd_T60 l0 x8_1).f1)) := (blk_cell BK107.out 1).trans rfl; have hcz20_2 : w18.cell? ⟨gb107, 2, none⟩ = some (.string ((rd_T60 l0 x8_1).f2)) := (blk_cell BK107.out 2).trans rfl; have hcz20_3 : w18.cell? ⟨gb107, 3, none⟩ = some (.string ((rd_T60 l0 x8_1).f3)) := (blk_cell BK107.out 3).trans rfl; have hfz20_0 := blk_frozen BK107.out 0; have hfz20_1 := blk_frozen BK107.out 1; have hfz20_2 := blk_frozen BK107.out 2; have hfz20_3 := blk_frozen BK107.out 3)); try go_wp2_with (first | (go_at_call 45; (with_reducible refine (xml_right.calls k1 ((rd_T60 l0 x8_1).f0) ((rd_T60 l0 x8_1).f1) ((rd_T60 l0 x8_1).f2) ((rd_T60 l0 x8_1).f3) true _ ?side1 A8.out).mono ?_); (case side1 => exact LaidM.below HT.out (by repeat (first | (with_reducible first | exact HB.out | apply below_alloc | apply pw_below_drewN | apply below_drew1 | refine below_set ?_ GE107.out) | exact HB.out))); rintro e w18 ⟨rfl, hb⟩; have n0_ := Aside0.mk (Kd.R_below (by (with_reducible repeat (first | apply Kd.R_alloc | apply Kd.R_drewN | apply Kd.R_drew)); exact (Kd.R_mono (Kd.R_far (p := ⟨gb107, 3, none⟩) (Kd.R_far (p := ⟨gb107, 2, none⟩) (Kd.R_far (p := ⟨gb107, 1, none⟩) (Kd.R_far (p := ⟨gb107, 0, none⟩) (Kd.R_mono HO_3.out (fun k_ hk => (⟨hk, hk.2⟩ : _ ∧ k_ ≠ gb107))) (fun _ hk => hk.2) (.int .i64 ((rd_T60 l0 x8_1).f0))) (fun _ hk => hk.2) (.int .i64 ((rd_T60 l0 x8_1).f1))) (fun _ hk => hk.2) (.string ((rd_T60 l0 x8_1).f2))) (fun _ hk => hk.2) (.string ((rd_T60 l0 x8_1).f3))) (fun _ h_ => h_.1))) hb); have n1_ := Aside0.mk (blk_below (g := gb107) (o := .cells #[.int .i64 ((rd_T60 l0 x8_1).f0), .int .i64 ((rd_T60 l0 x8_1).f1), .string ((rd_T60 l0 x8_1).f2), .string ((rd_T60 l0 x8_1).f3)] 60 (0, 0)) (by (with_reducible repeat (first | refine blk_drewN ?_ _ | refine blk_drew ?_ | refine blk_alloc ?_ _)); refine blk_put (cs := #[.int .i64 ((rd_T60 l0 x8_1).f0), .int .i64 ((rd_T60 l0 x8_1).f1), .string ((rd_T60 l0 x8_1).f2), .string (⟨#[]⟩ : ByteArray)]) ?_ 3 _ rfl; (with_reducible repeat (first | refine blk_drewN ?_ _ | refine blk_drew ?_ | refine blk_alloc ?_ _)); refine blk_put (cs := #[.int .i64 ((rd_T60 l0 x8_1).f0), .int .i64 ((rd_T60 l0 x8_1).f1), .string (⟨#[]⟩ : ByteArray), .string (⟨#[]⟩ : ByteArray)]) ?_ 2 _ rfl; (with_reducible repeat (first | refine blk_drewN ?_ _ | refine blk_drew ?_ | refine blk_alloc ?_ _)); refine blk_put (cs := #[.int .i64 ((rd_T60 l0 x8_1).f0), .int .i64 0, .string (⟨#[]⟩ : ByteArray), .string (⟨#[]⟩ : ByteArray)]) ?_ 1 _ rfl; (with_reducible repeat (first | refine blk_drewN ?_ _ | refine blk_drew ?_ | refine blk_alloc ?_ _)); refine blk_put (cs := #[.int .i64 0, .int .i64 0, .string (⟨#[]⟩ : ByteArray), .string (⟨#[]⟩ : ByteArray)]) ?_ 0 _ rfl; (with_reducible repeat (first | refine blk_drewN ?_ _ | refine blk_drew ?_ | refine blk_alloc ?_ _)); exact BK107.out) hb); have n2_ := Aside0.mk (below_step (by repeat (first | (with_reducible first | exact HB.out | apply below_alloc | apply pw_below_drewN | apply below_drew1 | refine below_set ?_ GE107.out) | exact HB.out)) hb); clear HO_3; clear BK107; clear HB; have HO_3 := n0_; have BK107 := n1_; have HB := n2_; clear n0_ n1_ n2_; (try clear hb); (try clear hb2); (try clear hk); (try clear hi); obtain ⟨Ao19, co19, eo19⟩ := Kd.R_slice HO_3.out; subst eo19; have hcz20_0 : w18.cell? ⟨gb107, 0, none⟩ = some (.int .i64 ((rd_T60 l0 x8_1).f0)) := (blk_cell BK107.out 0).trans rfl; have hcz20_1 : w18.cell? ⟨gb107, 1, none⟩ = some (.int .i64 ((rd_T60 l0 x8_1).f1)) := (blk_cell BK107.out 1).trans rfl; have hcz20_2 : w18.cell? ⟨gb107, 2, none⟩ = some (.string ((rd_T60 l0 x8_1).f2)) := (blk_cell BK107.out 2).trans rfl; have hcz20_3 : w18.cell? ⟨gb107, 3, none⟩ = some (.string ((rd_T60 l0 x8_1).f3)) := (blk_cell BK107.out 3).trans rfl; have hfz20_0 := blk_frozen BK107.out 0; have hfz20_1 := blk_frozen BK107.out 1; have hfz20_2 := blk_frozen BK107.out 2; have hfz20_3 := blk_frozen BK107.out 3)))
                        go_meet
                        case rel => exact ⟨_, (true), (by first | rfl | (simp; done) | (simp [*]; done)), H', ⟨by have := HK1.out; first | omega | exact Nat.le_refl _⟩, ⟨by (with_reducible repeat (first | apply Kd.R_alloc | apply Kd.R_drewN | apply Kd.R_drew)); exact Kd.R_mono HO_3.out (fun _ hk => hk.2)⟩, ⟨by (with_reducible repeat (first | refine blk_drewN ?_ _ | refine blk_drew ?_ | refine blk_alloc ?_ _)); exact BK107.out⟩, ⟨by repeat (first | (with_reducible first | exact HB.out | apply below_alloc | apply pw_below_drewN | apply below_drew1 | refine below_set ?_ GE107.out) | exact HB.out)⟩⟩
                      · rw [if_neg c16] at H
                        have c16b0 : (x8_1 == 0) = false := beq_eq_false_iff_ne.mpr c16
                        have c16b1 : (x8_1 != 0) = true := bne_iff_ne.mpr c16
                        obtain ⟨ji21, hji21⟩ : ∃ j_ : Int, (wrap64 (x8_1 - 1)) = j_ := ⟨_, rfl⟩
                        replace H : (if 0 ≤ (ji21) then (if (ji21) < (l0.length : Int) then (xml_Check.j1 k1 l0 x3_1 l0 (l0.length : Int) x8_1 (((rd_T60 l0 (ji21)).f0) == 3) ((rd_T60 l0 x8_1).f0) ((rd_T60 l0 x8_1).f1) ((rd_T60 l0 x8_1).f2) ((rd_T60 l0 x8_1).f3)) else (none)) else (none)) = some r := by first | (rw [hji21] at H; exact H) | (simp only [hji21] at H ⊢; exact H)
                        (try rw [hji21] at A8)
                        have hji21w : (IntKind.i64.wrap (x8_1 - 1)) = ji21 := (i64_w _).trans hji21
                        by_cases c22 : 0 ≤ (ji21)
                        · rw [if_pos c22] at H
                          have c22b0 : decide (0 ≤ (ji21)) = true := decide_eq_true c22
                          clear c22
                          by_cases c23 : (ji21) < (l0.length : Int)
                          · rw [if_pos c23] at H
                            have c23b0 : decide ((ji21) < (l0.length : Int)) = true := decide_eq_true c23
                            clear c23
                            have H' := Aside0.mk H
                            clear H
                            have hcz24_0 : w6.cell? ⟨gb107, 0, none⟩ = some (.int .i64 0) := (blk_cell BK107.out 0).trans rfl
                            have hcz24_1 : w6.cell? ⟨gb107, 1, none⟩ = some (.int .i64 0) := (blk_cell BK107.out 1).trans rfl
                            have hcz24_2 : w6.cell? ⟨gb107, 2, none⟩ = some (.string (⟨#[]⟩ : ByteArray)) := (blk_cell BK107.out 2).trans rfl
                            have hcz24_3 : w6.cell? ⟨gb107, 3, none⟩ = some (.string (⟨#[]⟩ : ByteArray)) := (blk_cell BK107.out 3).trans rfl
                            have hfz24_0 := blk_frozen BK107.out 0
                            have hfz24_1 := blk_frozen BK107.out 1
                            have hfz24_2 := blk_frozen BK107.out 2
                            have hfz24_3 := blk_frozen BK107.out 3
                            go_wp2_with (first | (go_at_call 45; (with_reducible refine (xml_right.calls k1 ((rd_T60 l0 x8_1).f0) ((rd_T60 l0 x8_1).f1) ((rd_T60 l0 x8_1).f2) ((rd_T60 l0 x8_1).f3) true _ ?side1 A8.out).mono ?_); (case side1 => exact LaidM.below HT.out (by repeat (first | (with_reducible first | exact HB.out | apply below_alloc | apply pw_below_drewN | apply below_drew1 | refine below_set ?_ GE107.out) | exact HB.out))); rintro e w25 ⟨rfl, hb⟩; have n0_ := Aside0.mk (Kd.R_below (by (with_reducible repeat (first | apply Kd.R_alloc | apply Kd.R_drewN | apply Kd.R_drew)); exact (Kd.R_mono (Kd.R_far (p := ⟨gb107, 3, none⟩) (Kd.R_far (p := ⟨gb107, 2, none⟩) (Kd.R_far (p := ⟨gb107, 1, none⟩) (Kd.R_far (p := ⟨gb107, 0, none⟩) (Kd.R_mono HO_3.out (fun k_ hk => (⟨hk, hk.2⟩ : _ ∧ k_ ≠ gb107))) (fun _ hk => hk.2) (.int .i64 ((rd_T60 l0 x8_1).f0))) (fun _ hk => hk.2) (.int .i64 ((rd_T60 l0 x8_1).f1))) (fun _ hk => hk.2) (.string ((rd_T60 l0 x8_1).f2))) (fun _ hk => hk.2) (.string ((rd_T60 l0 x8_1).f3))) (fun _ h_ => h_.1))) hb); have n1_ := Aside0.mk (blk_below (g := gb107) (o := .cells #[.int .i64 ((rd_T60 l0 x8_1).f0), .int .i64 ((rd_T60 l0 x8_1).f1), .string ((rd_T60 l0 x8_1).f2), .string ((rd_T60 l0 x8_1).f3)] 60 (0, 0)) (by (with_reducible repeat (first | refine blk_drewN ?_ _ | refine blk_drew ?_ | refine blk_alloc ?_ _)); refine blk_put (cs := #[.int .i64 ((rd_T60 l0 x8_1).f0), .int .i64 ((rd_T60 l0 x8_1).f1), .string ((rd_T60 l0 x8_1).f2), .string (⟨#[]⟩ : ByteArray)]) ?_ 3 _ rfl; (with_reducible repeat (first | refine blk_drewN ?_ _ | refine blk_drew ?_ | refine blk_alloc ?_ _)); refine blk_put (cs := #[.int .i64 ((rd_T60 l0 x8_1).f0), .int .i64 ((rd_T60 l0 x8_1).f1), .string (⟨#[]⟩ : ByteArray), .string (⟨#[]⟩ : ByteArray)]) ?_ 2 _ rfl; (with_reducible repeat (first | refine blk_drewN ?_ _ | refine blk_drew ?_ | refine blk_alloc ?_ _)); refine blk_put (cs := #[.int .i64 ((rd_T60 l0 x8_1).f0), .int .i64 0, .string (⟨#[]⟩ : ByteArray), .string (⟨#[]⟩ : ByteArray)]) ?_ 1 _ rfl; (with_reducible repeat (first | refine blk_drewN ?_ _ | refine blk_drew ?_ | refine blk_alloc ?_ _)); refine blk_put (cs := #[.int .i64 0, .int .i64 0, .string (⟨#[]⟩ : ByteArray), .string (⟨#[]⟩ : ByteArray)]) ?_ 0 _ rfl; (with_reducible repeat (first | refine blk_drewN ?_ _ | refine blk_drew ?_ | refine blk_alloc ?_ _)); exact BK107.out) hb); have n2_ := Aside0.mk (below_step (by repeat (first | (with_reducible first | exact HB.out | apply below_alloc | apply pw_below_drewN | apply below_drew1 | refine below_set ?_ GE107.out) | exact HB.out)) hb); clear HO_3; clear BK107; clear HB; have HO_3 := n0_; have BK107 := n1_; have HB := n2_; clear n0_ n1_ n2_; (try clear hb); (try clear hb2); (try clear hk); (try clear hi); obtain ⟨Ao26, co26, eo26⟩ := Kd.R_slice HO_3.out; subst eo26; have hcz27_0 : w25.cell? ⟨gb107, 0, none⟩ = some (.int .i64 ((rd_T60 l0 x8_1).f0)) := (blk_cell BK107.out 0).trans rfl; have hcz27_1 : w25.cell? ⟨gb107, 1, none⟩ = some (.int .i64 ((rd_T60 l0 x8_1).f1)) := (blk_cell BK107.out 1).trans rfl; have hcz27_2 : w25.cell? ⟨gb107, 2, none⟩ = some (.string ((rd_T60 l0 x8_1).f2)) := (blk_cell BK107.out 2).trans rfl; have hcz27_3 : w25.cell? ⟨gb107, 3, none⟩ = some (.string ((rd_T60 l0 x8_1).f3)) := (blk_cell BK107.out 3).trans rfl; have hfz27_0 := blk_frozen BK107.out 0; have hfz27_1 := blk_frozen BK107.out 1; have hfz27_2 := blk_frozen BK107.out 2; have hfz27_3 := blk_frozen BK107.out 3; have p109 : 0 ≤ ((ji21) : Int) := of_decide_eq_true (by first | (with_reducible assumption) | assumption); have q109 : (ji21) < (l0.length : Int) := of_decide_eq_true (by first | (with_reducible assumption) | assumption); obtain ⟨ad109, e109, hx109_0, hx109_1, hx109_2, hx109_3⟩ := at_T60 HR0.out (ji21) p109 q109; obtain rfl : ad106 = ad109 := (by injection e109); replace hx109_0 := (HB.out.cell (World.block_lt_of_cell? w _ hx109_0)).trans hx109_0; replace hx109_1 := (HB.out.cell (World.block_lt_of_cell? w _ hx109_1)).trans hx109_1; replace hx109_2 := (HB.out.cell (World.block_lt_of_cell? w _ hx109_2)).trans hx109_2; replace hx109_3 := (HB.out.cell (World.block_lt_of_cell? w _ hx109_3)).trans hx109_3; replace p109 := eq_true p109; replace q109 := eq_true q109))
                            repeat (go_quiet (first | (go_at_call 45; (with_reducible refine (xml_right.calls k1 ((rd_T60 l0 x8_1).f0) ((rd_T60 l0 x8_1).f1) ((rd_T60 l0 x8_1).f2) ((rd_T60 l0 x8_1).f3) true _ ?side1 A8.out).mono ?_); (case side1 => exact LaidM.below HT.out (by repeat (first | (with_reducible first | exact HB.out | apply below_alloc | apply pw_below_drewN | apply below_drew1 | refine below_set ?_ GE107.out) | exact HB.out))); rintro e w25 ⟨rfl, hb⟩; have n0_ := Aside0.mk (Kd.R_below (by (with_reducible repeat (first | apply Kd.R_alloc | apply Kd.R_drewN | apply Kd.R_drew)); exact (Kd.R_mono (Kd.R_far (p := ⟨gb107, 3, none⟩) (Kd.R_far (p := ⟨gb107, 2, none⟩) (Kd.R_far (p := ⟨gb107, 1, none⟩) (Kd.R_far (p := ⟨gb107, 0, none⟩) (Kd.R_mono HO_3.out (fun k_ hk => (⟨hk, hk.2⟩ : _ ∧ k_ ≠ gb107))) (fun _ hk => hk.2) (.int .i64 ((rd_T60 l0 x8_1).f0))) (fun _ hk => hk.2) (.int .i64 ((rd_T60 l0 x8_1).f1))) (fun _ hk => hk.2) (.string ((rd_T60 l0 x8_1).f2))) (fun _ hk => hk.2) (.string ((rd_T60 l0 x8_1).f3))) (fun _ h_ => h_.1))) hb); have n1_ := Aside0.mk (blk_below (g := gb107) (o := .cells #[.int .i64 ((rd_T60 l0 x8_1).f0), .int .i64 ((rd_T60 l0 x8_1).f1), .string ((rd_T60 l0 x8_1).f2), .string ((rd_T60 l0 x8_1).f3)] 60 (0, 0)) (by (with_reducible repeat (first | refine blk_drewN ?_ _ | refine blk_drew ?_ | refine blk_alloc ?_ _)); refine blk_put (cs := #[.int .i64 ((rd_T60 l0 x8_1).f0), .int .i64 ((rd_T60 l0 x8_1).f1), .string ((rd_T60 l0 x8_1).f2), .string (⟨#[]⟩ : ByteArray)]) ?_ 3 _ rfl; (with_reducible repeat (first | refine blk_drewN ?_ _ | refine blk_drew ?_ | refine blk_alloc ?_ _)); refine blk_put (cs := #[.int .i64 ((rd_T60 l0 x8_1).f0), .int .i64 ((rd_T60 l0 x8_1).f1), .string (⟨#[]⟩ : ByteArray), .string (⟨#[]⟩ : ByteArray)]) ?_ 2 _ rfl; (with_reducible repeat (first | refine blk_drewN ?_ _ | refine blk_drew ?_ | refine blk_alloc ?_ _)); refine blk_put (cs := #[.int .i64 ((rd_T60 l0 x8_1).f0), .int .i64 0, .string (⟨#[]⟩ : ByteArray), .string (⟨#[]⟩ : ByteArray)]) ?_ 1 _ rfl; (with_reducible repeat (first | refine blk_drewN ?_ _ | refine blk_drew ?_ | refine blk_alloc ?_ _)); refine blk_put (cs := #[.int .i64 0, .int .i64 0, .string (⟨#[]⟩ : ByteArray), .string (⟨#[]⟩ : ByteArray)]) ?_ 0 _ rfl; (with_reducible repeat (first | refine blk_drewN ?_ _ | refine blk_drew ?_ | refine blk_alloc ?_ _)); exact BK107.out) hb); have n2_ := Aside0.mk (below_step (by repeat (first | (with_reducible first | exact HB.out | apply below_alloc | apply pw_below_drewN | apply below_drew1 | refine below_set ?_ GE107.out) | exact HB.out)) hb); clear HO_3; clear BK107; clear HB; have HO_3 := n0_; have BK107 := n1_; have HB := n2_; clear n0_ n1_ n2_; (try clear hb); (try clear hb2); (try clear hk); (try clear hi); obtain ⟨Ao26, co26, eo26⟩ := Kd.R_slice HO_3.out; subst eo26; have hcz27_0 : w25.cell? ⟨gb107, 0, none⟩ = some (.int .i64 ((rd_T60 l0 x8_1).f0)) := (blk_cell BK107.out 0).trans rfl; have hcz27_1 : w25.cell? ⟨gb107, 1, none⟩ = some (.int .i64 ((rd_T60 l0 x8_1).f1)) := (blk_cell BK107.out 1).trans rfl; have hcz27_2 : w25.cell? ⟨gb107, 2, none⟩ = some (.string ((rd_T60 l0 x8_1).f2)) := (blk_cell BK107.out 2).trans rfl; have hcz27_3 : w25.cell? ⟨gb107, 3, none⟩ = some (.string ((rd_T60 l0 x8_1).f3)) := (blk_cell BK107.out 3).trans rfl; have hfz27_0 := blk_frozen BK107.out 0; have hfz27_1 := blk_frozen BK107.out 1; have hfz27_2 := blk_frozen BK107.out 2; have hfz27_3 := blk_frozen BK107.out 3; have p109 : 0 ≤ ((ji21) : Int) := of_decide_eq_true (by first | (with_reducible assumption) | assumption); have q109 : (ji21) < (l0.length : Int) := of_decide_eq_true (by first | (with_reducible assumption) | assumption); obtain ⟨ad109, e109, hx109_0, hx109_1, hx109_2, hx109_3⟩ := at_T60 HR0.out (ji21) p109 q109; obtain rfl : ad106 = ad109 := (by injection e109); replace hx109_0 := (HB.out.cell (World.block_lt_of_cell? w _ hx109_0)).trans hx109_0; replace hx109_1 := (HB.out.cell (World.block_lt_of_cell? w _ hx109_1)).trans hx109_1; replace hx109_2 := (HB.out.cell (World.block_lt_of_cell? w _ hx109_2)).trans hx109_2; replace hx109_3 := (HB.out.cell (World.block_lt_of_cell? w _ hx109_3)).trans hx109_3; replace p109 := eq_true p109; replace q109 := eq_true q109)); try go_wp2_with (first | (go_at_call 45; (with_reducible refine (xml_right.calls k1 ((rd_T60 l0 x8_1).f0) ((rd_T60 l0 x8_1).f1) ((rd_T60 l0 x8_1).f2) ((rd_T60 l0 x8_1).f3) true _ ?side1 A8.out).mono ?_); (case side1 => exact LaidM.below HT.out (by repeat (first | (with_reducible first | exact HB.out | apply below_alloc | apply pw_below_drewN | apply below_drew1 | refine below_set ?_ GE107.out) | exact HB.out))); rintro e w25 ⟨rfl, hb⟩; have n0_ := Aside0.mk (Kd.R_below (by (with_reducible repeat (first | apply Kd.R_alloc | apply Kd.R_drewN | apply Kd.R_drew)); exact (Kd.R_mono (Kd.R_far (p := ⟨gb107, 3, none⟩) (Kd.R_far (p := ⟨gb107, 2, none⟩) (Kd.R_far (p := ⟨gb107, 1, none⟩) (Kd.R_far (p := ⟨gb107, 0, none⟩) (Kd.R_mono HO_3.out (fun k_ hk => (⟨hk, hk.2⟩ : _ ∧ k_ ≠ gb107))) (fun _ hk => hk.2) (.int .i64 ((rd_T60 l0 x8_1).f0))) (fun _ hk => hk.2) (.int .i64 ((rd_T60 l0 x8_1).f1))) (fun _ hk => hk.2) (.string ((rd_T60 l0 x8_1).f2))) (fun _ hk => hk.2) (.string ((rd_T60 l0 x8_1).f3))) (fun _ h_ => h_.1))) hb); have n1_ := Aside0.mk (blk_below (g := gb107) (o := .cells #[.int .i64 ((rd_T60 l0 x8_1).f0), .int .i64 ((rd_T60 l0 x8_1).f1), .string ((rd_T60 l0 x8_1).f2), .string ((rd_T60 l0 x8_1).f3)] 60 (0, 0)) (by (with_reducible repeat (first | refine blk_drewN ?_ _ | refine blk_drew ?_ | refine blk_alloc ?_ _)); refine blk_put (cs := #[.int .i64 ((rd_T60 l0 x8_1).f0), .int .i64 ((rd_T60 l0 x8_1).f1), .string ((rd_T60 l0 x8_1).f2), .string (⟨#[]⟩ : ByteArray)]) ?_ 3 _ rfl; (with_reducible repeat (first | refine blk_drewN ?_ _ | refine blk_drew ?_ | refine blk_alloc ?_ _)); refine blk_put (cs := #[.int .i64 ((rd_T60 l0 x8_1).f0), .int .i64 ((rd_T60 l0 x8_1).f1), .string (⟨#[]⟩ : ByteArray), .string (⟨#[]⟩ : ByteArray)]) ?_ 2 _ rfl; (with_reducible repeat (first | refine blk_drewN ?_ _ | refine blk_drew ?_ | refine blk_alloc ?_ _)); refine blk_put (cs := #[.int .i64 ((rd_T60 l0 x8_1).f0), .int .i64 0, .string (⟨#[]⟩ : ByteArray), .string (⟨#[]⟩ : ByteArray)]) ?_ 1 _ rfl; (with_reducible repeat (first | refine blk_drewN ?_ _ | refine blk_drew ?_ | refine blk_alloc ?_ _)); refine blk_put (cs := #[.int .i64 0, .int .i64 0, .string (⟨#[]⟩ : ByteArray), .string (⟨#[]⟩ : ByteArray)]) ?_ 0 _ rfl; (with_reducible repeat (first | refine blk_drewN ?_ _ | refine blk_drew ?_ | refine blk_alloc ?_ _)); exact BK107.out) hb); have n2_ := Aside0.mk (below_step (by repeat (first | (with_reducible first | exact HB.out | apply below_alloc | apply pw_below_drewN | apply below_drew1 | refine below_set ?_ GE107.out) | exact HB.out)) hb); clear HO_3; clear BK107; clear HB; have HO_3 := n0_; have BK107 := n1_; have HB := n2_; clear n0_ n1_ n2_; (try clear hb); (try clear hb2); (try clear hk); (try clear hi); obtain ⟨Ao26, co26, eo26⟩ := Kd.R_slice HO_3.out; subst eo26; have hcz27_0 : w25.cell? ⟨gb107, 0, none⟩ = some (.int .i64 ((rd_T60 l0 x8_1).f0)) := (blk_cell BK107.out 0).trans rfl; have hcz27_1 : w25.cell? ⟨gb107, 1, none⟩ = some (.int .i64 ((rd_T60 l0 x8_1).f1)) := (blk_cell BK107.out 1).trans rfl; have hcz27_2 : w25.cell? ⟨gb107, 2, none⟩ = some (.string ((rd_T60 l0 x8_1).f2)) := (blk_cell BK107.out 2).trans rfl; have hcz27_3 : w25.cell? ⟨gb107, 3, none⟩ = some (.string ((rd_T60 l0 x8_1).f3)) := (blk_cell BK107.out 3).trans rfl; have hfz27_0 := blk_frozen BK107.out 0; have hfz27_1 := blk_frozen BK107.out 1; have hfz27_2 := blk_frozen BK107.out 2; have hfz27_3 := blk_frozen BK107.out 3; have p109 : 0 ≤ ((ji21) : Int) := of_decide_eq_true (by first | (with_reducible assumption) | assumption); have q109 : (ji21) < (l0.length : Int) := of_decide_eq_true (by first | (with_reducible assumption) | assumption); obtain ⟨ad109, e109, hx109_0, hx109_1, hx109_2, hx109_3⟩ := at_T60 HR0.out (ji21) p109 q109; obtain rfl : ad106 = ad109 := (by injection e109); replace hx109_0 := (HB.out.cell (World.block_lt_of_cell? w _ hx109_0)).trans hx109_0; replace hx109_1 := (HB.out.cell (World.block_lt_of_cell? w _ hx109_1)).trans hx109_1; replace hx109_2 := (HB.out.cell (World.block_lt_of_cell? w _ hx109_2)).trans hx109_2; replace hx109_3 := (HB.out.cell (World.block_lt_of_cell? w _ hx109_3)).trans hx109_3; replace p109 := eq_true p109; replace q109 := eq_true q109)))
                            go_meet
                            case rel => exact ⟨_, ((((rd_T60 l0 (ji21)).f0) == 3)), (by first | rfl | (simp; done) | (simp only [← hji21] <;> (first | rfl | simp)) | (simp [*]; done)), H', ⟨by have := HK1.out; first | omega | exact Nat.le_refl _⟩, ⟨by (with_reducible repeat (first | apply Kd.R_alloc | apply Kd.R_drewN | apply Kd.R_drew)); exact Kd.R_mono HO_3.out (fun _ hk => hk.2)⟩, ⟨by (with_reducible repeat (first | refine blk_drewN ?_ _ | refine blk_drew ?_ | refine blk_alloc ?_ _)); exact BK107.out⟩, ⟨by repeat (first | (with_reducible first | exact HB.out | apply below_alloc | apply pw_below_drewN | apply below_drew1 | refine below_set ?_ GE107.out) | exact HB.out)⟩⟩
                          · rw [if_neg c23] at H
                            exact absurd H (by simp)
                        · rw [if_neg c22] at H
                          exact absurd H (by simp)
                    · rw [if_neg c15] at H
                      have c15b0 : (((rd_T60 l0 x8_1).f0) == 3) = false := beq_eq_false_iff_ne.mpr c15
                      have c15b1 : (((rd_T60 l0 x8_1).f0) != 3) = true := bne_iff_ne.mpr c15
                      have H' := Aside0.mk H
                      clear H
                      have hcz28_0 : w6.cell? ⟨gb107, 0, none⟩ = some (.int .i64 0) := (blk_cell BK107.out 0).trans rfl
                      have hcz28_1 : w6.cell? ⟨gb107, 1, none⟩ = some (.int .i64 0) := (blk_cell BK107.out 1).trans rfl
                      have hcz28_2 : w6.cell? ⟨gb107, 2, none⟩ = some (.string (⟨#[]⟩ : ByteArray)) := (blk_cell BK107.out 2).trans rfl
                      have hcz28_3 : w6.cell? ⟨gb107, 3, none⟩ = some (.string (⟨#[]⟩ : ByteArray)) := (blk_cell BK107.out 3).trans rfl
                      have hfz28_0 := blk_frozen BK107.out 0
                      have hfz28_1 := blk_frozen BK107.out 1
                      have hfz28_2 := blk_frozen BK107.out 2
                      have hfz28_3 := blk_frozen BK107.out 3
                      go_wp2_with (first | (go_at_call 45; (with_reducible refine (xml_right.calls k1 ((rd_T60 l0 x8_1).f0) ((rd_T60 l0 x8_1).f1) ((rd_T60 l0 x8_1).f2) ((rd_T60 l0 x8_1).f3) true _ ?side1 A8.out).mono ?_); (case side1 => exact LaidM.below HT.out (by repeat (first | (with_reducible first | exact HB.out | apply below_alloc | apply pw_below_drewN | apply below_drew1 | refine below_set ?_ GE107.out) | exact HB.out))); rintro e w29 ⟨rfl, hb⟩; have n0_ := Aside0.mk (Kd.R_below (by (with_reducible repeat (first | apply Kd.R_alloc | apply Kd.R_drewN | apply Kd.R_drew)); exact (Kd.R_mono (Kd.R_far (p := ⟨gb107, 3, none⟩) (Kd.R_far (p := ⟨gb107, 2, none⟩) (Kd.R_far (p := ⟨gb107, 1, none⟩) (Kd.R_far (p := ⟨gb107, 0, none⟩) (Kd.R_mono HO_3.out (fun k_ hk => (⟨hk, hk.2⟩ : _ ∧ k_ ≠ gb107))) (fun _ hk => hk.2) (.int .i64 ((rd_T60 l0 x8_1).f0))) (fun _ hk => hk.2) (.int .i64 ((rd_T60 l0 x8_1).f1))) (fun _ hk => hk.2) (.string ((rd_T60 l0 x8_1).f2))) (fun _ hk => hk.2) (.string ((rd_T60 l0 x8_1).f3))) (fun _ h_ => h_.1))) hb); have n1_ := Aside0.mk (blk_below (g := gb107) (o := .cells #[.int .i64 ((rd_T60 l0 x8_1).f0), .int .i64 ((rd_T60 l0 x8_1).f1), .string ((rd_T60 l0 x8_1).f2), .string ((rd_T60 l0 x8_1).f3)] 60 (0, 0)) (by (with_reducible repeat (first | refine blk_drewN ?_ _ | refine blk_drew ?_ | refine blk_alloc ?_ _)); refine blk_put (cs := #[.int .i64 ((rd_T60 l0 x8_1).f0), .int .i64 ((rd_T60 l0 x8_1).f1), .string ((rd_T60 l0 x8_1).f2), .string (⟨#[]⟩ : ByteArray)]) ?_ 3 _ rfl; (with_reducible repeat (first | refine blk_drewN ?_ _ | refine blk_drew ?_ | refine blk_alloc ?_ _)); refine blk_put (cs := #[.int .i64 ((rd_T60 l0 x8_1).f0), .int .i64 ((rd_T60 l0 x8_1).f1), .string (⟨#[]⟩ : ByteArray), .string (⟨#[]⟩ : ByteArray)]) ?_ 2 _ rfl; (with_reducible repeat (first | refine blk_drewN ?_ _ | refine blk_drew ?_ | refine blk_alloc ?_ _)); refine blk_put (cs := #[.int .i64 ((rd_T60 l0 x8_1).f0), .int .i64 0, .string (⟨#[]⟩ : ByteArray), .string (⟨#[]⟩ : ByteArray)]) ?_ 1 _ rfl; (with_reducible repeat (first | refine blk_drewN ?_ _ | refine blk_drew ?_ | refine blk_alloc ?_ _)); refine blk_put (cs := #[.int .i64 0, .int .i64 0, .string (⟨#[]⟩ : ByteArray), .string (⟨#[]⟩ : ByteArray)]) ?_ 0 _ rfl; (with_reducible repeat (first | refine blk_drewN ?_ _ | refine blk_drew ?_ | refine blk_alloc ?_ _)); exact BK107.out) hb); have n2_ := Aside0.mk (below_step (by repeat (first | (with_reducible first | exact HB.out | apply below_alloc | apply pw_below_drewN | apply below_drew1 | refine below_set ?_ GE107.out) | exact HB.out)) hb); clear HO_3; clear BK107; clear HB; have HO_3 := n0_; have BK107 := n1_; have HB := n2_; clear n0_ n1_ n2_; (try clear hb); (try clear hb2); (try clear hk); (try clear hi); obtain ⟨Ao30, co30, eo30⟩ := Kd.R_slice HO_3.out; subst eo30; have hcz31_0 : w29.cell? ⟨gb107, 0, none⟩ = some (.int .i64 ((rd_T60 l0 x8_1).f0)) := (blk_cell BK107.out 0).trans rfl; have hcz31_1 : w29.cell? ⟨gb107, 1, none⟩ = some (.int .i64 ((rd_T60 l0 x8_1).f1)) := (blk_cell BK107.out 1).trans rfl; have hcz31_2 : w29.cell? ⟨gb107, 2, none⟩ = some (.string ((rd_T60 l0 x8_1).f2)) := (blk_cell BK107.out 2).trans rfl; have hcz31_3 : w29.cell? ⟨gb107, 3, none⟩ = some (.string ((rd_T60 l0 x8_1).f3)) := (blk_cell BK107.out 3).trans rfl; have hfz31_0 := blk_frozen BK107.out 0; have hfz31_1 := blk_frozen BK107.out 1; have hfz31_2 := blk_frozen BK107.out 2; have hfz31_3 := blk_frozen BK107.out 3))
                      repeat (go_quiet (first | (go_at_call 45; (with_reducible refine (xml_right.calls k1 ((rd_T60 l0 x8_1).f0) ((rd_T60 l0 x8_1).f1) ((rd_T60 l0 x8_1).f2) ((rd_T60 l0 x8_1).f3) true _ ?side1 A8.out).mono ?_); (case side1 => exact LaidM.below HT.out (by repeat (first | (with_reducible first | exact HB.out | apply below_alloc | apply pw_below_drewN | apply below_drew1 | refine below_set ?_ GE107.out) | exact HB.out))); rintro e w29 ⟨rfl, hb⟩; have n0_ := Aside0.mk (Kd.R_below (by (with_reducible repeat (first | apply Kd.R_alloc | apply Kd.R_drewN | apply Kd.R_drew)); exact (Kd.R_mono (Kd.R_far (p := ⟨gb107, 3, none⟩) (Kd.R_far (p := ⟨gb107, 2, none⟩) (Kd.R_far (p := ⟨gb107, 1, none⟩) (Kd.R_far (p := ⟨gb107, 0, none⟩) (Kd.R_mono HO_3.out (fun k_ hk => (⟨hk, hk.2⟩ : _ ∧ k_ ≠ gb107))) (fun _ hk => hk.2) (.int .i64 ((rd_T60 l0 x8_1).f0))) (fun _ hk => hk.2) (.int .i64 ((rd_T60 l0 x8_1).f1))) (fun _ hk => hk.2) (.string ((rd_T60 l0 x8_1).f2))) (fun _ hk => hk.2) (.string ((rd_T60 l0 x8_1).f3))) (fun _ h_ => h_.1))) hb); have n1_ := Aside0.mk (blk_below (g := gb107) (o := .cells #[.int .i64 ((rd_T60 l0 x8_1).f0), .int .i64 ((rd_T60 l0 x8_1).f1), .string ((rd_T60 l0 x8_1).f2), .string ((rd_T60 l0 x8_1).f3)] 60 (0, 0)) (by (with_reducible repeat (first | refine blk_drewN ?_ _ | refine blk_drew ?_ | refine blk_alloc ?_ _)); refine blk_put (cs := #[.int .i64 ((rd_T60 l0 x8_1).f0), .int .i64 ((rd_T60 l0 x8_1).f1), .string ((rd_T60 l0 x8_1).f2), .string (⟨#[]⟩ : ByteArray)]) ?_ 3 _ rfl; (with_reducible repeat (first | refine blk_drewN ?_ _ | refine blk_drew ?_ | refine blk_alloc ?_ _)); refine blk_put (cs := #[.int .i64 ((rd_T60 l0 x8_1).f0), .int .i64 ((rd_T60 l0 x8_1).f1), .string (⟨#[]⟩ : ByteArray), .string (⟨#[]⟩ : ByteArray)]) ?_ 2 _ rfl; (with_reducible repeat (first | refine blk_drewN ?_ _ | refine blk_drew ?_ | refine blk_alloc ?_ _)); refine blk_put (cs := #[.int .i64 ((rd_T60 l0 x8_1).f0), .int .i64 0, .string (⟨#[]⟩ : ByteArray), .string (⟨#[]⟩ : ByteArray)]) ?_ 1 _ rfl; (with_reducible repeat (first | refine blk_drewN ?_ _ | refine blk_drew ?_ | refine blk_alloc ?_ _)); refine blk_put (cs := #[.int .i64 0, .int .i64 0, .string (⟨#[]⟩ : ByteArray), .string (⟨#[]⟩ : ByteArray)]) ?_ 0 _ rfl; (with_reducible repeat (first | refine blk_drewN ?_ _ | refine blk_drew ?_ | refine blk_alloc ?_ _)); exact BK107.out) hb); have n2_ := Aside0.mk (below_step (by repeat (first | (with_reducible first | exact HB.out | apply below_alloc | apply pw_below_drewN | apply below_drew1 | refine below_set ?_ GE107.out) | exact HB.out)) hb); clear HO_3; clear BK107; clear HB; have HO_3 := n0_; have BK107 := n1_; have HB := n2_; clear n0_ n1_ n2_; (try clear hb); (try clear hb2); (try clear hk); (try clear hi); obtain ⟨Ao30, co30, eo30⟩ := Kd.R_slice HO_3.out; subst eo30; have hcz31_0 : w29.cell? ⟨gb107, 0, none⟩ = some (.int .i64 ((rd_T60 l0 x8_1).f0)) := (blk_cell BK107.out 0).trans rfl; have hcz31_1 : w29.cell? ⟨gb107, 1, none⟩ = some (.int .i64 ((rd_T60 l0 x8_1).f1)) := (blk_cell BK107.out 1).trans rfl; have hcz31_2 : w29.cell? ⟨gb107, 2, none⟩ = some (.string ((rd_T60 l0 x8_1).f2)) := (blk_cell BK107.out 2).trans rfl; have hcz31_3 : w29.cell? ⟨gb107, 3, none⟩ = some (.string ((rd_T60 l0 x8_1).f3)) := (blk_cell BK107.out 3).trans rfl; have hfz31_0 := blk_frozen BK107.out 0; have hfz31_1 := blk_frozen BK107.out 1; have hfz31_2 := blk_frozen BK107.out 2; have hfz31_3 := blk_frozen BK107.out 3)); try go_wp2_with (first | (go_at_call 45; (with_reducible refine (xml_right.calls k1 ((rd_T60 l0 x8_1).f0) ((rd_T60 l0 x8_1).f1) ((rd_T60 l0 x8_1).f2) ((rd_T60 l0 x8_1).f3) true _ ?side1 A8.out).mono ?_); (case side1 => exact LaidM.below HT.out (by repeat (first | (with_reducible first | exact HB.out | apply below_alloc | apply pw_below_drewN | apply below_drew1 | refine below_set ?_ GE107.out) | exact HB.out))); rintro e w29 ⟨rfl, hb⟩; have n0_ := Aside0.mk (Kd.R_below (by (with_reducible repeat (first | apply Kd.R_alloc | apply Kd.R_drewN | apply Kd.R_drew)); exact (Kd.R_mono (Kd.R_far (p := ⟨gb107, 3, none⟩) (Kd.R_far (p := ⟨gb107, 2, none⟩) (Kd.R_far (p := ⟨gb107, 1, none⟩) (Kd.R_far (p := ⟨gb107, 0, none⟩) (Kd.R_mono HO_3.out (fun k_ hk => (⟨hk, hk.2⟩ : _ ∧ k_ ≠ gb107))) (fun _ hk => hk.2) (.int .i64 ((rd_T60 l0 x8_1).f0))) (fun _ hk => hk.2) (.int .i64 ((rd_T60 l0 x8_1).f1))) (fun _ hk => hk.2) (.string ((rd_T60 l0 x8_1).f2))) (fun _ hk => hk.2) (.string ((rd_T60 l0 x8_1).f3))) (fun _ h_ => h_.1))) hb); have n1_ := Aside0.mk (blk_below (g := gb107) (o := .cells #[.int .i64 ((rd_T60 l0 x8_1).f0), .int .i64 ((rd_T60 l0 x8_1).f1), .string ((rd_T60 l0 x8_1).f2), .string ((rd_T60 l0 x8_1).f3)] 60 (0, 0)) (by (with_reducible repeat (first | refine blk_drewN ?_ _ | refine blk_drew ?_ | refine blk_alloc ?_ _)); refine blk_put (cs := #[.int .i64 ((rd_T60 l0 x8_1).f0), .int .i64 ((rd_T60 l0 x8_1).f1), .string ((rd_T60 l0 x8_1).f2), .string (⟨#[]⟩ : ByteArray)]) ?_ 3 _ rfl; (with_reducible repeat (first | refine blk_drewN ?_ _ | refine blk_drew ?_ | refine blk_alloc ?_ _)); refine blk_put (cs := #[.int .i64 ((rd_T60 l0 x8_1).f0), .int .i64 ((rd_T60 l0 x8_1).f1), .string (⟨#[]⟩ : ByteArray), .string (⟨#[]⟩ : ByteArray)]) ?_ 2 _ rfl; (with_reducible repeat (first | refine blk_drewN ?_ _ | refine blk_drew ?_ | refine blk_alloc ?_ _)); refine blk_put (cs := #[.int .i64 ((rd_T60 l0 x8_1).f0), .int .i64 0, .string (⟨#[]⟩ : ByteArray), .string (⟨#[]⟩ : ByteArray)]) ?_ 1 _ rfl; (with_reducible repeat (first | refine blk_drewN ?_ _ | refine blk_drew ?_ | refine blk_alloc ?_ _)); refine blk_put (cs := #[.int .i64 0, .int .i64 0, .string (⟨#[]⟩ : ByteArray), .string (⟨#[]⟩ : ByteArray)]) ?_ 0 _ rfl; (with_reducible repeat (first | refine blk_drewN ?_ _ | refine blk_drew ?_ | refine blk_alloc ?_ _)); exact BK107.out) hb); have n2_ := Aside0.mk (below_step (by repeat (first | (with_reducible first | exact HB.out | apply below_alloc | apply pw_below_drewN | apply below_drew1 | refine below_set ?_ GE107.out) | exact HB.out)) hb); clear HO_3; clear BK107; clear HB; have HO_3 := n0_; have BK107 := n1_; have HB := n2_; clear n0_ n1_ n2_; (try clear hb); (try clear hb2); (try clear hk); (try clear hi); obtain ⟨Ao30, co30, eo30⟩ := Kd.R_slice HO_3.out; subst eo30; have hcz31_0 : w29.cell? ⟨gb107, 0, none⟩ = some (.int .i64 ((rd_T60 l0 x8_1).f0)) := (blk_cell BK107.out 0).trans rfl; have hcz31_1 : w29.cell? ⟨gb107, 1, none⟩ = some (.int .i64 ((rd_T60 l0 x8_1).f1)) := (blk_cell BK107.out 1).trans rfl; have hcz31_2 : w29.cell? ⟨gb107, 2, none⟩ = some (.string ((rd_T60 l0 x8_1).f2)) := (blk_cell BK107.out 2).trans rfl; have hcz31_3 : w29.cell? ⟨gb107, 3, none⟩ = some (.string ((rd_T60 l0 x8_1).f3)) := (blk_cell BK107.out 3).trans rfl; have hfz31_0 := blk_frozen BK107.out 0; have hfz31_1 := blk_frozen BK107.out 1; have hfz31_2 := blk_frozen BK107.out 2; have hfz31_3 := blk_frozen BK107.out 3)))
                      go_meet
                      case rel => exact ⟨_, (false), (by first | rfl | (simp; done) | (simp [*]; done)), H', ⟨by have := HK1.out; first | omega | exact Nat.le_refl _⟩, ⟨by (with_reducible repeat (first | apply Kd.R_alloc | apply Kd.R_drewN | apply Kd.R_drew)); exact Kd.R_mono HO_3.out (fun _ hk => hk.2)⟩, ⟨by (with_reducible repeat (first | refine blk_drewN ?_ _ | refine blk_drew ?_ | refine blk_alloc ?_ _)); exact BK107.out⟩, ⟨by repeat (first | (with_reducible first | exact HB.out | apply below_alloc | apply pw_below_drewN | apply below_drew1 | refine below_set ?_ GE107.out) | exact HB.out)⟩⟩
                · rw [if_neg c10] at H
                  have c10b0 : decide (0 < x8_1) = false := decide_eq_false c10
                  clear c10
                  (first | rw [c10b0] | (simp only [i64_w, i32_w]; rw [c10b0]) | skip)
                  by_cases c32 : ((rd_T60 l0 x8_1).f0) = 3
                  · rw [if_pos c32] at H
                    have c32b0 : (((rd_T60 l0 x8_1).f0) == 3) = true := beq_iff_eq.mpr c32
                    have c32b1 : (((rd_T60 l0 x8_1).f0) != 3) = false := bne_eq_false_iff_eq.mpr c32
                    clear c32
                    by_cases c33 : x8_1 = 0
                    · rw [if_pos c33] at H
                      have c33b0 : (x8_1 == 0) = true := beq_iff_eq.mpr c33
                      have c33b1 : (x8_1 != 0) = false := bne_eq_false_iff_eq.mpr c33
                      clear c33
                      have H' := Aside0.mk H
                      clear H
                      have hcz34_0 : w6.cell? ⟨gb107, 0, none⟩ = some (.int .i64 0) := (blk_cell BK107.out 0).trans rfl
                      have hcz34_1 : w6.cell? ⟨gb107, 1, none⟩ = some (.int .i64 0) := (blk_cell BK107.out 1).trans rfl
                      have hcz34_2 : w6.cell? ⟨gb107, 2, none⟩ = some (.string (⟨#[]⟩ : ByteArray)) := (blk_cell BK107.out 2).trans rfl
                      have hcz34_3 : w6.cell? ⟨gb107, 3, none⟩ = some (.string (⟨#[]⟩ : ByteArray)) := (blk_cell BK107.out 3).trans rfl
                      have hfz34_0 := blk_frozen BK107.out 0
                      have hfz34_1 := blk_frozen BK107.out 1
                      have hfz34_2 := blk_frozen BK107.out 2
                      have hfz34_3 := blk_frozen BK107.out 3
                      go_wp2_with (first | (go_at_call 45; (with_reducible refine (xml_right.calls k1 ((rd_T60 l0 x8_1).f0) ((rd_T60 l0 x8_1).f1) ((rd_T60 l0 x8_1).f2) ((rd_T60 l0 x8_1).f3) true _ ?side1 A8.out).mono ?_); (case side1 => exact LaidM.below HT.out (by repeat (first | (with_reducible first | exact HB.out | apply below_alloc | apply pw_below_drewN | apply below_drew1 | refine below_set ?_ GE107.out) | exact HB.out))); rintro e w35 ⟨rfl, hb⟩; have n0_ := Aside0.mk (Kd.R_below (by (with_reducible repeat (first | apply Kd.R_alloc | apply Kd.R_drewN | apply Kd.R_drew)); exact (Kd.R_mono (Kd.R_far (p := ⟨gb107, 3, none⟩) (Kd.R_far (p := ⟨gb107, 2, none⟩) (Kd.R_far (p := ⟨gb107, 1, none⟩) (Kd.R_far (p := ⟨gb107, 0, none⟩) (Kd.R_mono HO_3.out (fun k_ hk => (⟨hk, hk.2⟩ : _ ∧ k_ ≠ gb107))) (fun _ hk => hk.2) (.int .i64 ((rd_T60 l0 x8_1).f0))) (fun _ hk => hk.2) (.int .i64 ((rd_T60 l0 x8_1).f1))) (fun _ hk => hk.2) (.string ((rd_T60 l0 x8_1).f2))) (fun _ hk => hk.2) (.string ((rd_T60 l0 x8_1).f3))) (fun _ h_ => h_.1))) hb); have n1_ := Aside0.mk (blk_below (g := gb107) (o := .cells #[.int .i64 ((rd_T60 l0 x8_1).f0), .int .i64 ((rd_T60 l0 x8_1).f1), .string ((rd_T60 l0 x8_1).f2), .string ((rd_T60 l0 x8_1).f3)] 60 (0, 0)) (by (with_reducible repeat (first | refine blk_drewN ?_ _ | refine blk_drew ?_ | refine blk_alloc ?_ _)); refine blk_put (cs := #[.int .i64 ((rd_T60 l0 x8_1).f0), .int .i64 ((rd_T60 l0 x8_1).f1), .string ((rd_T60 l0 x8_1).f2), .string (⟨#[]⟩ : ByteArray)]) ?_ 3 _ rfl; (with_reducible repeat (first | refine blk_drewN ?_ _ | refine blk_drew ?_ | refine blk_alloc ?_ _)); refine blk_put (cs := #[.int .i64 ((rd_T60 l0 x8_1).f0), .int .i64 ((rd_T60 l0 x8_1).f1), .string (⟨#[]⟩ : ByteArray), .string (⟨#[]⟩ : ByteArray)]) ?_ 2 _ rfl; (with_reducible repeat (first | refine blk_drewN ?_ _ | refine blk_drew ?_ | refine blk_alloc ?_ _)); refine blk_put (cs := #[.int .i64 ((rd_T60 l0 x8_1).f0), .int .i64 0, .string (⟨#[]⟩ : ByteArray), .string (⟨#[]⟩ : ByteArray)]) ?_ 1 _ rfl; (with_reducible repeat (first | refine blk_drewN ?_ _ | refine blk_drew ?_ | refine blk_alloc ?_ _)); refine blk_put (cs := #[.int .i64 0, .int .i64 0, .string (⟨#[]⟩ : ByteArray), .string (⟨#[]⟩ : ByteArray)]) ?_ 0 _ rfl; (with_reducible repeat (first | refine blk_drewN ?_ _ | refine blk_drew ?_ | refine blk_alloc ?_ _)); exact BK107.out) hb); have n2_ := Aside0.mk (below_step (by repeat (first | (with_reducible first | exact HB.out | apply below_alloc | apply pw_below_drewN | apply below_drew1 | refine below_set ?_ GE107.out) | exact HB.out)) hb); clear HO_3; clear BK107; clear HB; have HO_3 := n0_; have BK107 := n1_; have HB := n2_; clear n0_ n1_ n2_; (try clear hb); (try clear hb2); (try clear hk); (try clear hi); have hcz36_0 : w35.cell? ⟨gb107, 0, none⟩ = some (.int .i64 ((rd_T60 l0 x8_1).f0)) := (blk_cell BK107.out 0).trans rfl; have hcz36_1 : w35.cell? ⟨gb107, 1, none⟩ = some (.int .i64 ((rd_T60 l0 x8_1).f1)) := (blk_cell BK107.out 1).trans rfl; have hcz36_2 : w35.cell? ⟨gb107, 2, none⟩ = some (.string ((rd_T60 l0 x8_1).f2)) := (blk_cell BK107.out 2).trans rfl; have hcz36_3 : w35.cell? ⟨gb107, 3, none⟩ = some (.string ((rd_T60 l0 x8_1).f3)) := (blk_cell BK107.out 3).trans rfl; have hfz36_0 := blk_frozen BK107.out 0; have hfz36_1 := blk_frozen BK107.out 1; have hfz36_2 := blk_frozen BK107.out 2; have hfz36_3 := blk_frozen BK107.out 3))
                      repeat (go_quiet (first | (go_at_call 45; (with_reducible refine (xml_right.calls k1 ((rd_T60 l0 x8_1).f0) ((rd_T60 l0 x8_1).f1) ((rd_T60 l0 x8_1).f2) ((rd_T60 l0 x8_1).f3) true _ ?side1 A8.out).mono ?_); (case side1 => exact LaidM.below HT.out (by repeat (first | (with_reducible first | exact HB.out | apply below_alloc | apply pw_below_drewN | apply below_drew1 | refine below_set ?_ GE107.out) | exact HB.out))); rintro e w35 ⟨rfl, hb⟩; have n0_ := Aside0.mk (Kd.R_below (by (with_reducible repeat (first | apply Kd.R_alloc | apply Kd.R_drewN | apply Kd.R_drew)); exact (Kd.R_mono (Kd.R_far (p := ⟨gb107, 3, none⟩) (Kd.R_far (p := ⟨gb107, 2, none⟩) (Kd.R_far (p := ⟨gb107, 1, none⟩) (Kd.R_far (p := ⟨gb107, 0, none⟩) (Kd.R_mono HO_3.out (fun k_ hk => (⟨hk, hk.2⟩ : _ ∧ k_ ≠ gb107))) (fun _ hk => hk.2) (.int .i64 ((rd_T60 l0 x8_1).f0))) (fun _ hk => hk.2) (.int .i64 ((rd_T60 l0 x8_1).f1))) (fun _ hk => hk.2) (.string ((rd_T60 l0 x8_1).f2))) (fun _ hk => hk.2) (.string ((rd_T60 l0 x8_1).f3))) (fun _ h_ => h_.1))) hb); have n1_ := Aside0.mk (blk_below (g := gb107) (o := .cells #[.int .i64 ((rd_T60 l0 x8_1).f0), .int .i64 ((rd_T60 l0 x8_1).f1), .string ((rd_T60 l0 x8_1).f2), .string ((rd_T60 l0 x8_1).f3)] 60 (0, 0)) (by (with_reducible repeat (first | refine blk_drewN ?_ _ | refine blk_drew ?_ | refine blk_alloc ?_ _)); refine blk_put (cs := #[.int .i64 ((rd_T60 l0 x8_1).f0), .int .i64 ((rd_T60 l0 x8_1).f1), .string ((rd_T60 l0 x8_1).f2), .string (⟨#[]⟩ : ByteArray)]) ?_ 3 _ rfl; (with_reducible repeat (first | refine blk_drewN ?_ _ | refine blk_drew ?_ | refine blk_alloc ?_ _)); refine blk_put (cs := #[.int .i64 ((rd_T60 l0 x8_1).f0), .int .i64 ((rd_T60 l0 x8_1).f1), .string (⟨#[]⟩ : ByteArray), .string (⟨#[]⟩ : ByteArray)]) ?_ 2 _ rfl; (with_reducible repeat (first | refine blk_drewN ?_ _ | refine blk_drew ?_ | refine blk_alloc ?_ _)); refine blk_put (cs := #[.int .i64 ((rd_T60 l0 x8_1).f0), .int .i64 0, .string (⟨#[]⟩ : ByteArray), .string (⟨#[]⟩ : ByteArray)]) ?_ 1 _ rfl; (with_reducible repeat (first | refine blk_drewN ?_ _ | refine blk_drew ?_ | refine blk_alloc ?_ _)); refine blk_put (cs := #[.int .i64 0, .int .i64 0, .string (⟨#[]⟩ : ByteArray), .string (⟨#[]⟩ : ByteArray)]) ?_ 0 _ rfl; (with_reducible repeat (first | refine blk_drewN ?_ _ | refine blk_drew ?_ | refine blk_alloc ?_ _)); exact BK107.out) hb); have n2_ := Aside0.mk (below_step (by repeat (first | (with_reducible first | exact HB.out | apply below_alloc | apply pw_below_drewN | apply below_drew1 | refine below_set ?_ GE107.out) | exact HB.out)) hb); clear HO_3; clear BK107; clear HB; have HO_3 := n0_; have BK107 := n1_; have HB := n2_; clear n0_ n1_ n2_; (try clear hb); (try clear hb2); (try clear hk); (try clear hi); have hcz36_0 : w35.cell? ⟨gb107, 0, none⟩ = some (.int .i64 ((rd_T60 l0 x8_1).f0)) := (blk_cell BK107.out 0).trans rfl; have hcz36_1 : w35.cell? ⟨gb107, 1, none⟩ = some (.int .i64 ((rd_T60 l0 x8_1).f1)) := (blk_cell BK107.out 1).trans rfl; have hcz36_2 : w35.cell? ⟨gb107, 2, none⟩ = some (.string ((rd_T60 l0 x8_1).f2)) := (blk_cell BK107.out 2).trans rfl; have hcz36_3 : w35.cell? ⟨gb107, 3, none⟩ = some (.string ((rd_T60 l0 x8_1).f3)) := (blk_cell BK107.out 3).trans rfl; have hfz36_0 := blk_frozen BK107.out 0; have hfz36_1 := blk_frozen BK107.out 1; have hfz36_2 := blk_frozen BK107.out 2; have hfz36_3 := blk_frozen BK107.out 3)); try go_wp2_with (first | (go_at_call 45; (with_reducible refine (xml_right.calls k1 ((rd_T60 l0 x8_1).f0) ((rd_T60 l0 x8_1).f1) ((rd_T60 l0 x8_1).f2) ((rd_T60 l0 x8_1).f3) true _ ?side1 A8.out).mono ?_); (case side1 => exact LaidM.below HT.out (by repeat (first | (with_reducible first | exact HB.out | apply below_alloc | apply pw_below_drewN | apply below_drew1 | refine below_set ?_ GE107.out) | exact HB.out))); rintro e w35 ⟨rfl, hb⟩; have n0_ := Aside0.mk (Kd.R_below (by (with_reducible repeat (first | apply Kd.R_alloc | apply Kd.R_drewN | apply Kd.R_drew)); exact (Kd.R_mono (Kd.R_far (p := ⟨gb107, 3, none⟩) (Kd.R_far (p := ⟨gb107, 2, none⟩) (Kd.R_far (p := ⟨gb107, 1, none⟩) (Kd.R_far (p := ⟨gb107, 0, none⟩) (Kd.R_mono HO_3.out (fun k_ hk => (⟨hk, hk.2⟩ : _ ∧ k_ ≠ gb107))) (fun _ hk => hk.2) (.int .i64 ((rd_T60 l0 x8_1).f0))) (fun _ hk => hk.2) (.int .i64 ((rd_T60 l0 x8_1).f1))) (fun _ hk => hk.2) (.string ((rd_T60 l0 x8_1).f2))) (fun _ hk => hk.2) (.string ((rd_T60 l0 x8_1).f3))) (fun _ h_ => h_.1))) hb); have n1_ := Aside0.mk (blk_below (g := gb107) (o := .cells #[.int .i64 ((rd_T60 l0 x8_1).f0), .int .i64 ((rd_T60 l0 x8_1).f1), .string ((rd_T60 l0 x8_1).f2), .string ((rd_T60 l0 x8_1).f3)] 60 (0, 0)) (by (with_reducible repeat (first | refine blk_drewN ?_ _ | refine blk_drew ?_ | refine blk_alloc ?_ _)); refine blk_put (cs := #[.int .i64 ((rd_T60 l0 x8_1).f0), .int .i64 ((rd_T60 l0 x8_1).f1), .string ((rd_T60 l0 x8_1).f2), .string (⟨#[]⟩ : ByteArray)]) ?_ 3 _ rfl; (with_reducible repeat (first | refine blk_drewN ?_ _ | refine blk_drew ?_ | refine blk_alloc ?_ _)); refine blk_put (cs := #[.int .i64 ((rd_T60 l0 x8_1).f0), .int .i64 ((rd_T60 l0 x8_1).f1), .string (⟨#[]⟩ : ByteArray), .string (⟨#[]⟩ : ByteArray)]) ?_ 2 _ rfl; (with_reducible repeat (first | refine blk_drewN ?_ _ | refine blk_drew ?_ | refine blk_alloc ?_ _)); refine blk_put (cs := #[.int .i64 ((rd_T60 l0 x8_1).f0), .int .i64 0, .string (⟨#[]⟩ : ByteArray), .string (⟨#[]⟩ : ByteArray)]) ?_ 1 _ rfl; (with_reducible repeat (first | refine blk_drewN ?_ _ | refine blk_drew ?_ | refine blk_alloc ?_ _)); refine blk_put (cs := #[.int .i64 0, .int .i64 0, .string (⟨#[]⟩ : ByteArray), .string (⟨#[]⟩ : ByteArray)]) ?_ 0 _ rfl; (with_reducible repeat (first | refine blk_drewN ?_ _ | refine blk_drew ?_ | refine blk_alloc ?_ _)); exact BK107.out) hb); have n2_ := Aside0.mk (below_step (by repeat (first | (with_reducible first | exact HB.out | apply below_alloc | apply pw_below_drewN | apply below_drew1 | refine below_set ?_ GE107.out) | exact HB.out)) hb); clear HO_3; clear BK107; clear HB; have HO_3 := n0_; have BK107 := n1_; have HB := n2_; clear n0_ n1_ n2_; (try clear hb); (try clear hb2); (try clear hk); (try clear hi); have hcz36_0 : w35.cell? ⟨gb107, 0, none⟩ = some (.int .i64 ((rd_T60 l0 x8_1).f0)) := (blk_cell BK107.out 0).trans rfl; have hcz36_1 : w35.cell? ⟨gb107, 1, none⟩ = some (.int .i64 ((rd_T60 l0 x8_1).f1)) := (blk_cell BK107.out 1).trans rfl; have hcz36_2 : w35.cell? ⟨gb107, 2, none⟩ = some (.string ((rd_T60 l0 x8_1).f2)) := (blk_cell BK107.out 2).trans rfl; have hcz36_3 : w35.cell? ⟨gb107, 3, none⟩ = some (.string ((rd_T60 l0 x8_1).f3)) := (blk_cell BK107.out 3).trans rfl; have hfz36_0 := blk_frozen BK107.out 0; have hfz36_1 := blk_frozen BK107.out 1; have hfz36_2 := blk_frozen BK107.out 2; have hfz36_3 := blk_frozen BK107.out 3)))
                      go_meet
                      case rel => exact ⟨_, (true), (by first | rfl | (simp; done) | (simp [*]; done)), H', ⟨by have := HK1.out; first | omega | exact Nat.le_refl _⟩, ⟨by (with_reducible repeat (first | apply Kd.R_alloc | apply Kd.R_drewN | apply Kd.R_drew)); exact Kd.R_mono HO_3.out (fun _ hk => hk.2)⟩, ⟨by (with_reducible repeat (first | refine blk_drewN ?_ _ | refine blk_drew ?_ | refine blk_alloc ?_ _)); exact BK107.out⟩, ⟨by repeat (first | (with_reducible first | exact HB.out | apply below_alloc | apply pw_below_drewN | apply below_drew1 | refine below_set ?_ GE107.out) | exact HB.out)⟩⟩
                    · rw [if_neg c33] at H
                      have c33b0 : (x8_1 == 0) = false := beq_eq_false_iff_ne.mpr c33
                      have c33b1 : (x8_1 != 0) = true := bne_iff_ne.mpr c33
                      obtain ⟨ji37, hji37⟩ : ∃ j_ : Int, (wrap64 (x8_1 - 1)) = j_ := ⟨_, rfl⟩
                      replace H : (if 0 ≤ (ji37) then (if (ji37) < (l0.length : Int) then (xml_Check.j1 k1 l0 x3_1 l0 (l0.length : Int) x8_1 (((rd_T60 l0 (ji37)).f0) == 3) ((rd_T60 l0 x8_1).f0) ((rd_T60 l0 x8_1).f1) ((rd_T60 l0 x8_1).f2) ((rd_T60 l0 x8_1).f3)) else (none)) else (none)) = some r := by first | (rw [hji37] at H; exact H) | (simp only [hji37] at H ⊢; exact H)
                      (try rw [hji37] at A8)
                      have hji37w : (IntKind.i64.wrap (x8_1 - 1)) = ji37 := (i64_w _).trans hji37
                      by_cases c38 : 0 ≤ (ji37)
                      · rw [if_pos c38] at H
                        have c38b0 : decide (0 ≤ (ji37)) = true := decide_eq_true c38
                        clear c38
                        by_cases c39 : (ji37) < (l0.length : Int)
                        · rw [if_pos c39] at H
                          have c39b0 : decide ((ji37) < (l0.length : Int)) = true := decide_eq_true c39
                          clear c39
                          have H' := Aside0.mk H
                          clear H
                          have hcz40_0 : w6.cell? ⟨gb107, 0, none⟩ = some (.int .i64 0) := (blk_cell BK107.out 0).trans rfl
                          have hcz40_1 : w6.cell? ⟨gb107, 1, none⟩ = some (.int .i64 0) := (blk_cell BK107.out 1).trans rfl
                          have hcz40_2 : w6.cell? ⟨gb107, 2, none⟩ = some (.string (⟨#[]⟩ : ByteArray)) := (blk_cell BK107.out 2).trans rfl
                          have hcz40_3 : w6.cell? ⟨gb107, 3, none⟩ = some (.string (⟨#[]⟩ : ByteArray)) := (blk_cell BK107.out 3).trans rfl
                          have hfz40_0 := blk_frozen BK107.out 0
                          have hfz40_1 := blk_frozen BK107.out 1
                          have hfz40_2 := blk_frozen BK107.out 2
                          have hfz40_3 := blk_frozen BK107.out 3
                          go_wp2_with (first | (go_at_call 45; (with_reducible refine (xml_right.calls k1 ((rd_T60 l0 x8_1).f0) ((rd_T60 l0 x8_1).f1) ((rd_T60 l0 x8_1).f2) ((rd_T60 l0 x8_1).f3) true _ ?side1 A8.out).mono ?_); (case side1 => exact LaidM.below HT.out (by repeat (first | (with_reducible first | exact HB.out | apply below_alloc | apply pw_below_drewN | apply below_drew1 | refine below_set ?_ GE107.out) | exact HB.out))); rintro e w41 ⟨rfl, hb⟩; have n0_ := Aside0.mk (Kd.R_below (by (with_reducible repeat (first | apply Kd.R_alloc | apply Kd.R_drewN | apply Kd.R_drew)); exact (Kd.R_mono (Kd.R_far (p := ⟨gb107, 3, none⟩) (Kd.R_far (p := ⟨gb107, 2, none⟩) (Kd.R_far (p := ⟨gb107, 1, none⟩) (Kd.R_far (p := ⟨gb107, 0, none⟩) (Kd.R_mono HO_3.out (fun k_ hk => (⟨hk, hk.2⟩ : _ ∧ k_ ≠ gb107))) (fun _ hk => hk.2) (.int .i64 ((rd_T60 l0 x8_1).f0))) (fun _ hk => hk.2) (.int .i64 ((rd_T60 l0 x8_1).f1))) (fun _ hk => hk.2) (.string ((rd_T60 l0 x8_1).f2))) (fun _ hk => hk.2) (.string ((rd_T60 l0 x8_1).f3))) (fun _ h_ => h_.1))) hb); have n1_ := Aside0.mk (blk_below (g := gb107) (o := .cells #[.int .i64 ((rd_T60 l0 x8_1).f0), .int .i64 ((rd_T60 l0 x8_1).f1), .string ((rd_T60 l0 x8_1).f2), .string ((rd_T60 l0 x8_1).f3)] 60 (0, 0)) (by (with_reducible repeat (first | refine blk_drewN ?_ _ | refine blk_drew ?_ | refine blk_alloc ?_ _)); refine blk_put (cs := #[.int .i64 ((rd_T60 l0 x8_1).f0), .int .i64 ((rd_T60 l0 x8_1).f1), .string ((rd_T60 l0 x8_1).f2), .string (⟨#[]⟩ : ByteArray)]) ?_ 3 _ rfl; (with_reducible repeat (first | refine blk_drewN ?_ _ | refine blk_drew ?_ | refine blk_alloc ?_ _)); refine blk_put (cs := #[.int .i64 ((rd_T60 l0 x8_1).f0), .int .i64 ((rd_T60 l0 x8_1).f1), .string (⟨#[]⟩ : ByteArray), .string (⟨#[]⟩ : ByteArray)]) ?_ 2 _ rfl; (with_reducible repeat (first | refine blk_drewN ?_ _ | refine blk_drew ?_ | refine blk_alloc ?_ _)); refine blk_put (cs := #[.int .i64 ((rd_T60 l0 x8_1).f0), .int .i64 0, .string (⟨#[]⟩ : ByteArray), .string (⟨#[]⟩ : ByteArray)]) ?_ 1 _ rfl; (with_reducible repeat (first | refine blk_drewN ?_ _ | refine blk_drew ?_ | refine blk_alloc ?_ _)); refine blk_put (cs := #[.int .i64 0, .int .i64 0, .string (⟨#[]⟩ : ByteArray), .string (⟨#[]⟩ : ByteArray)]) ?_ 0 _ rfl; (with_reducible repeat (first | refine blk_drewN ?_ _ | refine blk_drew ?_ | refine blk_alloc ?_ _)); exact BK107.out) hb); have n2_ := Aside0.mk (below_step (by repeat (first | (with_reducible first | exact HB.out | apply below_alloc | apply pw_below_drewN | apply below_drew1 | refine below_set ?_ GE107.out) | exact HB.out)) hb); clear HO_3; clear BK107; clear HB; have HO_3 := n0_; have BK107 := n1_; have HB := n2_; clear n0_ n1_ n2_; (try clear hb); (try clear hb2); (try clear hk); (try clear hi); have hcz42_0 : w41.cell? ⟨gb107, 0, none⟩ = some (.int .i64 ((rd_T60 l0 x8_1).f0)) := (blk_cell BK107.out 0).trans rfl; have hcz42_1 : w41.cell? ⟨gb107, 1, none⟩ = some (.int .i64 ((rd_T60 l0 x8_1).f1)) := (blk_cell BK107.out 1).trans rfl; have hcz42_2 : w41.cell? ⟨gb107, 2, none⟩ = some (.string ((rd_T60 l0 x8_1).f2)) := (blk_cell BK107.out 2).trans rfl; have hcz42_3 : w41.cell? ⟨gb107, 3, none⟩ = some (.string ((rd_T60 l0 x8_1).f3)) := (blk_cell BK107.out 3).trans rfl; have hfz42_0 := blk_frozen BK107.out 0; have hfz42_1 := blk_frozen BK107.out 1; have hfz42_2 := blk_frozen BK107.out 2; have hfz42_3 := blk_frozen BK107.out 3; have p110 : 0 ≤ ((ji37) : Int) := of_decide_eq_true (by first | (with_reducible assumption) | assumption); have q110 : (ji37) < (l0.length : Int) := of_decide_eq_true (by first | (with_reducible assumption) | assumption); obtain ⟨ad110, e110, hx110_0, hx110_1, hx110_2, hx110_3⟩ := at_T60 HR0.out (ji37) p110 q110; obtain rfl : ad106 = ad110 := (by injection e110); replace hx110_0 := (HB.out.cell (World.block_lt_of_cell? w _ hx110_0)).trans hx110_0; replace hx110_1 := (HB.out.cell (World.block_lt_of_cell? w _ hx110_1)).trans hx110_1; replace hx110_2 := (HB.out.cell (World.block_lt_of_cell? w _ hx110_2)).trans hx110_2; replace hx110_3 := (HB.out.cell (World.block_lt_of_cell? w _ hx110_3)).trans hx110_3; replace p110 := eq_true p110; replace q110 := eq_true q110))
                          repeat (go_quiet (first | (go_at_call 45; (with_reducible refine (xml_right.calls k1 ((rd_T60 l0 x8_1).f0) ((rd_T60 l0 x8_1).f1) ((rd_T60 l0 x8_1).f2) ((rd_T60 l0 x8_1).f3) true _ ?side1 A8.out).mono ?_); (case side1 => exact LaidM.below HT.out (by repeat (first | (with_reducible first | exact HB.out | apply below_alloc | apply pw_below_drewN | apply below_drew1 | refine below_set ?_ GE107.out) | exact HB.out))); rintro e w41 ⟨rfl, hb⟩; have n0_ := Aside0.mk (Kd.R_below (by (with_reducible repeat (first | apply Kd.R_alloc | apply Kd.R_drewN | apply Kd.R_drew)); exact (Kd.R_mono (Kd.R_far (p := ⟨gb107, 3, none⟩) (Kd.R_far (p := ⟨gb107, 2, none⟩) (Kd.R_far (p := ⟨gb107, 1, none⟩) (Kd.R_far (p := ⟨gb107, 0, none⟩) (Kd.R_mono HO_3.out (fun k_ hk => (⟨hk, hk.2⟩ : _ ∧ k_ ≠ gb107))) (fun _ hk => hk.2) (.int .i64 ((rd_T60 l0 x8_1).f0))) (fun _ hk => hk.2) (.int .i64 ((rd_T60 l0 x8_1).f1))) (fun _ hk => hk.2) (.string ((rd_T60 l0 x8_1).f2))) (fun _ hk => hk.2) (.string ((rd_T60 l0 x8_1).f3))) (fun _ h_ => h_.1))) hb); have n1_ := Aside0.mk (blk_below (g := gb107) (o := .cells #[.int .i64 ((rd_T60 l0 x8_1).f0), .int .i64 ((rd_T60 l0 x8_1).f1), .string ((rd_T60 l0 x8_1).f2), .string ((rd_T60 l0 x8_1).f3)] 60 (0, 0)) (by (with_reducible repeat (first | refine blk_drewN ?_ _ | refine blk_drew ?_ | refine blk_alloc ?_ _)); refine blk_put (cs := #[.int .i64 ((rd_T60 l0 x8_1).f0), .int .i64 ((rd_T60 l0 x8_1).f1), .string ((rd_T60 l0 x8_1).f2), .string (⟨#[]⟩ : ByteArray)]) ?_ 3 _ rfl; (with_reducible repeat (first | refine blk_drewN ?_ _ | refine blk_drew ?_ | refine blk_alloc ?_ _)); refine blk_put (cs := #[.int .i64 ((rd_T60 l0 x8_1).f0), .int .i64 ((rd_T60 l0 x8_1).f1), .string (⟨#[]⟩ : ByteArray), .string (⟨#[]⟩ : ByteArray)]) ?_ 2 _ rfl; (with_reducible repeat (first | refine blk_drewN ?_ _ | refine blk_drew ?_ | refine blk_alloc ?_ _)); refine blk_put (cs := #[.int .i64 ((rd_T60 l0 x8_1).f0), .int .i64 0, .string (⟨#[]⟩ : ByteArray), .string (⟨#[]⟩ : ByteArray)]) ?_ 1 _ rfl; (with_reducible repeat (first | refine blk_drewN ?_ _ | refine blk_drew ?_ | refine blk_alloc ?_ _)); refine blk_put (cs := #[.int .i64 0, .int .i64 0, .string (⟨#[]⟩ : ByteArray), .string (⟨#[]⟩ : ByteArray)]) ?_ 0 _ rfl; (with_reducible repeat (first | refine blk_drewN ?_ _ | refine blk_drew ?_ | refine blk_alloc ?_ _)); exact BK107.out) hb); have n2_ := Aside0.mk (below_step (by repeat (first | (with_reducible first | exact HB.out | apply below_alloc | apply pw_below_drewN | apply below_drew1 | refine below_set ?_ GE107.out) | exact HB.out)) hb); clear HO_3; clear BK107; clear HB; have HO_3 := n0_; have BK107 := n1_; have HB := n2_; clear n0_ n1_ n2_; (try clear hb); (try clear hb2); (try clear hk); (try clear hi); have hcz42_0 : w41.cell? ⟨gb107, 0, none⟩ = some (.int .i64 ((rd_T60 l0 x8_1).f0)) := (blk_cell BK107.out 0).trans rfl; have hcz42_1 : w41.cell? ⟨gb107, 1, none⟩ = some (.int .i64 ((rd_T60 l0 x8_1).f1)) := (blk_cell BK107.out 1).trans rfl; have hcz42_2 : w41.cell? ⟨gb107, 2, none⟩ = some (.string ((rd_T60 l0 x8_1).f2)) := (blk_cell BK107.out 2).trans rfl; have hcz42_3 : w41.cell? ⟨gb107, 3, none⟩ = some (.string ((rd_T60 l0 x8_1).f3)) := (blk_cell BK107.out 3).trans rfl; have hfz42_0 := blk_frozen BK107.out 0; have hfz42_1 := blk_frozen BK107.out 1; have hfz42_2 := blk_frozen BK107.out 2; have hfz42_3 := blk_frozen BK107.out 3; have p110 : 0 ≤ ((ji37) : Int) := of_decide_eq_true (by first | (with_reducible assumption) | assumption); have q110 : (ji37) < (l0.length : Int) := of_decide_eq_true (by first | (with_reducible assumption) | assumption); obtain ⟨ad110, e110, hx110_0, hx110_1, hx110_2, hx110_3⟩ := at_T60 HR0.out (ji37) p110 q110; obtain rfl : ad106 = ad110 := (by injection e110); replace hx110_0 := (HB.out.cell (World.block_lt_of_cell? w _ hx110_0)).trans hx110_0; replace hx110_1 := (HB.out.cell (World.block_lt_of_cell? w _ hx110_1)).trans hx110_1; replace hx110_2 := (HB.out.cell (World.block_lt_of_cell? w _ hx110_2)).trans hx110_2; replace hx110_3 := (HB.out.cell (World.block_lt_of_cell? w _ hx110_3)).trans hx110_3; replace p110 := eq_true p110; replace q110 := eq_true q110)); try go_wp2_with (first | (go_at_call 45; (with_reducible refine (xml_right.calls k1 ((rd_T60 l0 x8_1).f0) ((rd_T60 l0 x8_1).f1) ((rd_T60 l0 x8_1).f2) ((rd_T60 l0 x8_1).f3) true _ ?side1 A8.out).mono ?_); (case side1 => exact LaidM.below HT.out (by repeat (first | (with_reducible first | exact HB.out | apply below_alloc | apply pw_below_drewN | apply below_drew1 | refine below_set ?_ GE107.out) | exact HB.out))); rintro e w41 ⟨rfl, hb⟩; have n0_ := Aside0.mk (Kd.R_below (by (with_reducible repeat (first | apply Kd.R_alloc | apply Kd.R_drewN | apply Kd.R_drew)); exact (Kd.R_mono (Kd.R_far (p := ⟨gb107, 3, none⟩) (Kd.R_far (p := ⟨gb107, 2, none⟩) (Kd.R_far (p := ⟨gb107, 1, none⟩) (Kd.R_far (p := ⟨gb107, 0, none⟩) (Kd.R_mono HO_3.out (fun k_ hk => (⟨hk, hk.2⟩ : _ ∧ k_ ≠ gb107))) (fun _ hk => hk.2) (.int .i64 ((rd_T60 l0 x8_1).f0))) (fun _ hk => hk.2) (.int .i64 ((rd_T60 l0 x8_1).f1))) (fun _ hk => hk.2) (.string ((rd_T60 l0 x8_1).f2))) (fun _ hk => hk.2) (.string ((rd_T60 l0 x8_1).f3))) (fun _ h_ => h_.1))) hb); have n1_ := Aside0.mk (blk_below (g := gb107) (o := .cells #[.int .i64 ((rd_T60 l0 x8_1).f0), .int .i64 ((rd_T60 l0 x8_1).f1), .string ((rd_T60 l0 x8_1).f2), .string ((rd_T60 l0 x8_1).f3)] 60 (0, 0)) (by (with_reducible repeat (first | refine blk_drewN ?_ _ | refine blk_drew ?_ | refine blk_alloc ?_ _)); refine blk_put (cs := #[.int .i64 ((rd_T60 l0 x8_1).f0), .int .i64 ((rd_T60 l0 x8_1).f1), .string ((rd_T60 l0 x8_1).f2), .string (⟨#[]⟩ : ByteArray)]) ?_ 3 _ rfl; (with_reducible repeat (first | refine blk_drewN ?_ _ | refine blk_drew ?_ | refine blk_alloc ?_ _)); refine blk_put (cs := #[.int .i64 ((rd_T60 l0 x8_1).f0), .int .i64 ((rd_T60 l0 x8_1).f1), .string (⟨#[]⟩ : ByteArray), .string (⟨#[]⟩ : ByteArray)]) ?_ 2 _ rfl; (with_reducible repeat (first | refine blk_drewN ?_ _ | refine blk_drew ?_ | refine blk_alloc ?_ _)); refine blk_put (cs := #[.int .i64 ((rd_T60 l0 x8_1).f0), .int .i64 0, .string (⟨#[]⟩ : ByteArray), .string (⟨#[]⟩ : ByteArray)]) ?_ 1 _ rfl; (with_reducible repeat (first | refine blk_drewN ?_ _ | refine blk_drew ?_ | refine blk_alloc ?_ _)); refine blk_put (cs := #[.int .i64 0, .int .i64 0, .string (⟨#[]⟩ : ByteArray), .string (⟨#[]⟩ : ByteArray)]) ?_ 0 _ rfl; (with_reducible repeat (first | refine blk_drewN ?_ _ | refine blk_drew ?_ | refine blk_alloc ?_ _)); exact BK107.out) hb); have n2_ := Aside0.mk (below_step (by repeat (first | (with_reducible first | exact HB.out | apply below_alloc | apply pw_below_drewN | apply below_drew1 | refine below_set ?_ GE107.out) | exact HB.out)) hb); clear HO_3; clear BK107; clear HB; have HO_3 := n0_; have BK107 := n1_; have HB := n2_; clear n0_ n1_ n2_; (try clear hb); (try clear hb2); (try clear hk); (try clear hi); have hcz42_0 : w41.cell? ⟨gb107, 0, none⟩ = some (.int .i64 ((rd_T60 l0 x8_1).f0)) := (blk_cell BK107.out 0).trans rfl; have hcz42_1 : w41.cell? ⟨gb107, 1, none⟩ = some (.int .i64 ((rd_T60 l0 x8_1).f1)) := (blk_cell BK107.out 1).trans rfl; have hcz42_2 : w41.cell? ⟨gb107, 2, none⟩ = some (.string ((rd_T60 l0 x8_1).f2)) := (blk_cell BK107.out 2).trans rfl; have hcz42_3 : w41.cell? ⟨gb107, 3, none⟩ = some (.string ((rd_T60 l0 x8_1).f3)) := (blk_cell BK107.out 3).trans rfl; have hfz42_0 := blk_frozen BK107.out 0; have hfz42_1 := blk_frozen BK107.out 1; have hfz42_2 := blk_frozen BK107.out 2; have hfz42_3 := blk_frozen BK107.out 3; have p110 : 0 ≤ ((ji37) : Int) := of_decide_eq_true (by first | (with_reducible assumption) | assumption); have q110 : (ji37) < (l0.length : Int) := of_decide_eq_true (by first | (with_reducible assumption) | assumption); obtain ⟨ad110, e110, hx110_0, hx110_1, hx110_2, hx110_3⟩ := at_T60 HR0.out (ji37) p110 q110; obtain rfl : ad106 = ad110 := (by injection e110); replace hx110_0 := (HB.out.cell (World.block_lt_of_cell? w _ hx110_0)).trans hx110_0; replace hx110_1 := (HB.out.cell (World.block_lt_of_cell? w _ hx110_1)).trans hx110_1; replace hx110_2 := (HB.out.cell (World.block_lt_of_cell? w _ hx110_2)).trans hx110_2; replace hx110_3 := (HB.out.cell (World.block_lt_of_cell? w _ hx110_3)).trans hx110_3; replace p110 := eq_true p110; replace q110 := eq_true q110)))
                          go_meet
                          case rel => exact ⟨_, ((((rd_T60 l0 (ji37)).f0) == 3)), (by first | rfl | (simp; done) | (simp only [← hji37] <;> (first | rfl | simp)) | (simp [*]; done)), H', ⟨by have := HK1.out; first | omega | exact Nat.le_refl _⟩, ⟨by (with_reducible repeat (first | apply Kd.R_alloc | apply Kd.R_drewN | apply Kd.R_drew)); exact Kd.R_mono HO_3.out (fun _ hk => hk.2)⟩, ⟨by (with_reducible repeat (first | refine blk_drewN ?_ _ | refine blk_drew ?_ | refine blk_alloc ?_ _)); exact BK107.out⟩, ⟨by repeat (first | (with_reducible first | exact HB.out | apply below_alloc | apply pw_below_drewN | apply below_drew1 | refine below_set ?_ GE107.out) | exact HB.out)⟩⟩
                        · rw [if_neg c39] at H
                          exact absurd H (by simp)
                      · rw [if_neg c38] at H
                        exact absurd H (by simp)
                  · rw [if_neg c32] at H
                    have c32b0 : (((rd_T60 l0 x8_1).f0) == 3) = false := beq_eq_false_iff_ne.mpr c32
                    have c32b1 : (((rd_T60 l0 x8_1).f0) != 3) = true := bne_iff_ne.mpr c32
                    have H' := Aside0.mk H
                    clear H
                    have hcz43_0 : w6.cell? ⟨gb107, 0, none⟩ = some (.int .i64 0) := (blk_cell BK107.out 0).trans rfl
                    have hcz43_1 : w6.cell? ⟨gb107, 1, none⟩ = some (.int .i64 0) := (blk_cell BK107.out 1).trans rfl
                    have hcz43_2 : w6.cell? ⟨gb107, 2, none⟩ = some (.string (⟨#[]⟩ : ByteArray)) := (blk_cell BK107.out 2).trans rfl
                    have hcz43_3 : w6.cell? ⟨gb107, 3, none⟩ = some (.string (⟨#[]⟩ : ByteArray)) := (blk_cell BK107.out 3).trans rfl
                    have hfz43_0 := blk_frozen BK107.out 0
                    have hfz43_1 := blk_frozen BK107.out 1
                    have hfz43_2 := blk_frozen BK107.out 2
                    have hfz43_3 := blk_frozen BK107.out 3
                    go_wp2_with (first | (go_at_call 45; (with_reducible refine (xml_right.calls k1 ((rd_T60 l0 x8_1).f0) ((rd_T60 l0 x8_1).f1) ((rd_T60 l0 x8_1).f2) ((rd_T60 l0 x8_1).f3) true _ ?side1 A8.out).mono ?_); (case side1 => exact LaidM.below HT.out (by repeat (first | (with_reducible first | exact HB.out | apply below_alloc | apply pw_below_drewN | apply below_drew1 | refine below_set ?_ GE107.out) | exact HB.out))); rintro e w44 ⟨rfl, hb⟩; have n0_ := Aside0.mk (Kd.R_below (by (with_reducible repeat (first | apply Kd.R_alloc | apply Kd.R_drewN | apply Kd.R_drew)); exact (Kd.R_mono (Kd.R_far (p := ⟨gb107, 3, none⟩) (Kd.R_far (p := ⟨gb107, 2, none⟩) (Kd.R_far (p := ⟨gb107, 1, none⟩) (Kd.R_far (p := ⟨gb107, 0, none⟩) (Kd.R_mono HO_3.out (fun k_ hk => (⟨hk, hk.2⟩ : _ ∧ k_ ≠ gb107))) (fun _ hk => hk.2) (.int .i64 ((rd_T60 l0 x8_1).f0))) (fun _ hk => hk.2) (.int .i64 ((rd_T60 l0 x8_1).f1))) (fun _ hk => hk.2) (.string ((rd_T60 l0 x8_1).f2))) (fun _ hk => hk.2) (.string ((rd_T60 l0 x8_1).f3))) (fun _ h_ => h_.1))) hb); have n1_ := Aside0.mk (blk_below (g := gb107) (o := .cells #[.int .i64 ((rd_T60 l0 x8_1).f0), .int .i64 ((rd_T60 l0 x8_1).f1), .string ((rd_T60 l0 x8_1).f2), .string ((rd_T60 l0 x8_1).f3)] 60 (0, 0)) (by (with_reducible repeat (first | refine blk_drewN ?_ _ | refine blk_drew ?_ | refine blk_alloc ?_ _)); refine blk_put (cs := #[.int .i64 ((rd_T60 l0 x8_1).f0), .int .i64 ((rd_T60 l0 x8_1).f1), .string ((rd_T60 l0 x8_1).f2), .string (⟨#[]⟩ : ByteArray)]) ?_ 3 _ rfl; (with_reducible repeat (first | refine blk_drewN ?_ _ | refine blk_drew ?_ | refine blk_alloc ?_ _)); refine blk_put (cs := #[.int .i64 ((rd_T60 l0 x8_1).f0), .int .i64 ((rd_T60 l0 x8_1).f1), .string (⟨#[]⟩ : ByteArray), .string (⟨#[]⟩ : ByteArray)]) ?_ 2 _ rfl; (with_reducible repeat (first | refine blk_drewN ?_ _ | refine blk_drew ?_ | refine blk_alloc ?_ _)); refine blk_put (cs := #[.int .i64 ((rd_T60 l0 x8_1).f0), .int .i64 0, .string (⟨#[]⟩ : ByteArray), .string (⟨#[]⟩ : ByteArray)]) ?_ 1 _ rfl; (with_reducible repeat (first | refine blk_drewN ?_ _ | refine blk_drew ?_ | refine blk_alloc ?_ _)); refine blk_put (cs := #[.int .i64 0, .int .i64 0, .string (⟨#[]⟩ : ByteArray), .string (⟨#[]⟩ : ByteArray)]) ?_ 0 _ rfl; (with_reducible repeat (first | refine blk_drewN ?_ _ | refine blk_drew ?_ | refine blk_alloc ?_ _)); exact BK107.out) hb); have n2_ := Aside0.mk (below_step (by repeat (first | (with_reducible first | exact HB.out | apply below_alloc | apply pw_below_drewN | apply below_drew1 | refine below_set ?_ GE107.out) | exact HB.out)) hb); clear HO_3; clear BK107; clear HB; have HO_3 := n0_; have BK107 := n1_; have HB := n2_; clear n0_ n1_ n2_; (try clear hb); (try clear hb2); (try clear hk); (try clear hi); have hcz45_0 : w44.cell? ⟨gb107, 0, none⟩ = some (.int .i64 ((rd_T60 l0 x8_1).f0)) := (blk_cell BK107.out 0).trans rfl; have hcz45_1 : w44.cell? ⟨gb107, 1, none⟩ = some (.int .i64 ((rd_T60 l0 x8_1).f1)) := (blk_cell BK107.out 1).trans rfl; have hcz45_2 : w44.cell? ⟨gb107, 2, none⟩ = some (.string ((rd_T60 l0 x8_1).f2)) := (blk_cell BK107.out 2).trans rfl; have hcz45_3 : w44.cell? ⟨gb107, 3, none⟩ = some (.string ((rd_T60 l0 x8_1).f3)) := (blk_cell BK107.out 3).trans rfl; have hfz45_0 := blk_frozen BK107.out 0; have hfz45_1 := blk_frozen BK107.out 1; have hfz45_2 := blk_frozen BK107.out 2; have hfz45_3 := blk_frozen BK107.out 3))
                    repeat (go_quiet (first | (go_at_call 45; (with_reducible refine (xml_right.calls k1 ((rd_T60 l0 x8_1).f0) ((rd_T60 l0 x8_1).f1) ((rd_T60 l0 x8_1).f2) ((rd_T60 l0 x8_1).f3) true _ ?side1 A8.out).mono ?_); (case side1 => exact LaidM.below HT.out (by repeat (first | (with_reducible first | exact HB.out | apply below_alloc | apply pw_below_drewN | apply below_drew1 | refine below_set ?_ GE107.out) | exact HB.out))); rintro e w44 ⟨rfl, hb⟩; have n0_ := Aside0.mk (Kd.R_below (by (with_reducible repeat (first | apply Kd.R_alloc | apply Kd.R_drewN | apply Kd.R_drew)); exact (Kd.R_mono (Kd.R_far (p := ⟨gb107, 3, none⟩) (Kd.R_far (p := ⟨gb107, 2, none⟩) (Kd.R_far (p := ⟨gb107, 1, none⟩) (Kd.R_far (p := ⟨gb107, 0, none⟩) (Kd.R_mono HO_3.out (fun k_ hk => (⟨hk, hk.2⟩ : _ ∧ k_ ≠ gb107))) (fun _ hk => hk.2) (.int .i64 ((rd_T60 l0 x8_1).f0))) (fun _ hk => hk.2) (.int .i64 ((rd_T60 l0 x8_1).f1))) (fun _ hk => hk.2) (.string ((rd_T60 l0 x8_1).f2))) (fun _ hk => hk.2) (.string ((rd_T60 l0 x8_1).f3))) (fun _ h_ => h_.1))) hb); have n1_ := Aside0.mk (blk_below (g := gb107) (o := .cells #[.int .i64 ((rd_T60 l0 x8_1).f0), .int .i64 ((rd_T60 l0 x8_1).f1), .string ((rd_T60 l0 x8_1).f2), .string ((rd_T60 l0 x8_1).f3)] 60 (0, 0)) (by (with_reducible repeat (first | refine blk_drewN ?_ _ | refine blk_drew ?_ | refine blk_alloc ?_ _)); refine blk_put (cs := #[.int .i64 ((rd_T60 l0 x8_1).f0), .int .i64 ((rd_T60 l0 x8_1).f1), .string ((rd_T60 l0 x8_1).f2), .string (⟨#[]⟩ : ByteArray)]) ?_ 3 _ rfl; (with_reducible repeat (first | refine blk_drewN ?_ _ | refine blk_drew ?_ | refine blk_alloc ?_ _)); refine blk_put (cs := #[.int .i64 ((rd_T60 l0 x8_1).f0), .int .i64 ((rd_T60 l0 x8_1).f1), .string (⟨#[]⟩ : ByteArray), .string (⟨#[]⟩ : ByteArray)]) ?_ 2 _ rfl; (with_reducible repeat (first | refine blk_drewN ?_ _ | refine blk_drew ?_ | refine blk_alloc ?_ _)); refine blk_put (cs := #[.int .i64 ((rd_T60 l0 x8_1).f0), .int .i64 0, .string (⟨#[]⟩ : ByteArray), .string (⟨#[]⟩ : ByteArray)]) ?_ 1 _ rfl; (with_reducible repeat (first | refine blk_drewN ?_ _ | refine blk_drew ?_ | refine blk_alloc ?_ _)); refine blk_put (cs := #[.int .i64 0, .int .i64 0, .string (⟨#[]⟩ : ByteArray), .string (⟨#[]⟩ : ByteArray)]) ?_ 0 _ rfl; (with_reducible repeat (first | refine blk_drewN ?_ _ | refine blk_drew ?_ | refine blk_alloc ?_ _)); exact BK107.out) hb); have n2_ := Aside0.mk (below_step (by repeat (first | (with_reducible first | exact HB.out | apply below_alloc | apply pw_below_drewN | apply below_drew1 | refine below_set ?_ GE107.out) | exact HB.out)) hb); clear HO_3; clear BK107; clear HB; have HO_3 := n0_; have BK107 := n1_; have HB := n2_; clear n0_ n1_ n2_; (try clear hb); (try clear hb2); (try clear hk); (try clear hi); have hcz45_0 : w44.cell? ⟨gb107, 0, none⟩ = some (.int .i64 ((rd_T60 l0 x8_1).f0)) := (blk_cell BK107.out 0).trans rfl; have hcz45_1 : w44.cell? ⟨gb107, 1, none⟩ = some (.int .i64 ((rd_T60 l0 x8_1).f1)) := (blk_cell BK107.out 1).trans rfl; have hcz45_2 : w44.cell? ⟨gb107, 2, none⟩ = some (.string ((rd_T60 l0 x8_1).f2)) := (blk_cell BK107.out 2).trans rfl; have hcz45_3 : w44.cell? ⟨gb107, 3, none⟩ = some (.string ((rd_T60 l0 x8_1).f3)) := (blk_cell BK107.out 3).trans rfl; have hfz45_0 := blk_frozen BK107.out 0; have hfz45_1 := blk_frozen BK107.out 1; have hfz45_2 := blk_frozen BK107.out 2; have hfz45_3 := blk_frozen BK107.out 3)); try go_wp2_with (first | (go_at_call 45; (with_reducible refine (xml_right.calls k1 ((rd_T60 l0 x8_1).f0) ((rd_T60 l0 x8_1).f1) ((rd_T60 l0 x8_1).f2) ((rd_T60 l0 x8_1).f3) true _ ?side1 A8.out).mono ?_); (case side1 => exact LaidM.below HT.out (by repeat (first | (with_reducible first | exact HB.out | apply below_alloc | apply pw_below_drewN | apply below_drew1 | refine below_set ?_ GE107.out) | exact HB.out))); rintro e w44 ⟨rfl, hb⟩; have n0_ := Aside0.mk (Kd.R_below (by (with_reducible repeat (first | apply Kd.R_alloc | apply Kd.R_drewN | apply Kd.R_drew)); exact (Kd.R_mono (Kd.R_far (p := ⟨gb107, 3, none⟩) (Kd.R_far (p := ⟨gb107, 2, none⟩) (Kd.R_far (p := ⟨gb107, 1, none⟩) (Kd.R_far (p := ⟨gb107, 0, none⟩) (Kd.R_mono HO_3.out (fun k_ hk => (⟨hk, hk.2⟩ : _ ∧ k_ ≠ gb107))) (fun _ hk => hk.2) (.int .i64 ((rd_T60 l0 x8_1).f0))) (fun _ hk => hk.2) (.int .i64 ((rd_T60 l0 x8_1).f1))) (fun _ hk => hk.2) (.string ((rd_T60 l0 x8_1).f2))) (fun _ hk => hk.2) (.string ((rd_T60 l0 x8_1).f3))) (fun _ h_ => h_.1))) hb); have n1_ := Aside0.mk (blk_below (g := gb107) (o := .cells #[.int .i64 ((rd_T60 l0 x8_1).f0), .int .i64 ((rd_T60 l0 x8_1).f1), .string ((rd_T60 l0 x8_1).f2), .string ((rd_T60 l0 x8_1).f3)] 60 (0, 0)) (by (with_reducible repeat (first | refine blk_drewN ?_ _ | refine blk_drew ?_ | refine blk_alloc ?_ _)); refine blk_put (cs := #[.int .i64 ((rd_T60 l0 x8_1).f0), .int .i64 ((rd_T60 l0 x8_1).f1), .string ((rd_T60 l0 x8_1).f2), .string (⟨#[]⟩ : ByteArray)]) ?_ 3 _ rfl; (with_reducible repeat (first | refine blk_drewN ?_ _ | refine blk_drew ?_ | refine blk_alloc ?_ _)); refine blk_put (cs := #[.int .i64 ((rd_T60 l0 x8_1).f0), .int .i64 ((rd_T60 l0 x8_1).f1), .string (⟨#[]⟩ : ByteArray), .string (⟨#[]⟩ : ByteArray)]) ?_ 2 _ rfl; (with_reducible repeat (first | refine blk_drewN ?_ _ | refine blk_drew ?_ | refine blk_alloc ?_ _)); refine blk_put (cs := #[.int .i64 ((rd_T60 l0 x8_1).f0), .int .i64 0, .string (⟨#[]⟩ : ByteArray), .string (⟨#[]⟩ : ByteArray)]) ?_ 1 _ rfl; (with_reducible repeat (first | refine blk_drewN ?_ _ | refine blk_drew ?_ | refine blk_alloc ?_ _)); refine blk_put (cs := #[.int .i64 0, .int .i64 0, .string (⟨#[]⟩ : ByteArray), .string (⟨#[]⟩ : ByteArray)]) ?_ 0 _ rfl; (with_reducible repeat (first | refine blk_drewN ?_ _ | refine blk_drew ?_ | refine blk_alloc ?_ _)); exact BK107.out) hb); have n2_ := Aside0.mk (below_step (by repeat (first | (with_reducible first | exact HB.out | apply below_alloc | apply pw_below_drewN | apply below_drew1 | refine below_set ?_ GE107.out) | exact HB.out)) hb); clear HO_3; clear BK107; clear HB; have HO_3 := n0_; have BK107 := n1_; have HB := n2_; clear n0_ n1_ n2_; (try clear hb); (try clear hb2); (try clear hk); (try clear hi); have hcz45_0 : w44.cell? ⟨gb107, 0, none⟩ = some (.int .i64 ((rd_T60 l0 x8_1).f0)) := (blk_cell BK107.out 0).trans rfl; have hcz45_1 : w44.cell? ⟨gb107, 1, none⟩ = some (.int .i64 ((rd_T60 l0 x8_1).f1)) := (blk_cell BK107.out 1).trans rfl; have hcz45_2 : w44.cell? ⟨gb107, 2, none⟩ = some (.string ((rd_T60 l0 x8_1).f2)) := (blk_cell BK107.out 2).trans rfl; have hcz45_3 : w44.cell? ⟨gb107, 3, none⟩ = some (.string ((rd_T60 l0 x8_1).f3)) := (blk_cell BK107.out 3).trans rfl; have hfz45_0 := blk_frozen BK107.out 0; have hfz45_1 := blk_frozen BK107.out 1; have hfz45_2 := blk_frozen BK107.out 2; have hfz45_3 := blk_frozen BK107.out 3)))
                    go_meet
                    case rel => exact ⟨_, (false), (by first | rfl | (simp; done) | (simp [*]; done)), H', ⟨by have := HK1.out; first | omega | exact Nat.le_refl _⟩, ⟨by (with_reducible repeat (first | apply Kd.R_alloc | apply Kd.R_drewN | apply Kd.R_drew)); exact Kd.R_mono HO_3.out (fun _ hk => hk.2)⟩, ⟨by (with_reducible repeat (first | refine blk_drewN ?_ _ | refine blk_drew ?_ | refine blk_alloc ?_ _)); exact BK107.out⟩, ⟨by repeat (first | (with_reducible first | exact HB.out | apply below_alloc | apply pw_below_drewN | apply below_drew1 | refine below_set ?_ GE107.out) | exact HB.out)⟩⟩
              · replace c9 := Bool.eq_false_iff.mpr c9
                subst c9
                have H1 : (xml_Check.j1 k1 l0 x3_1 l0 (l0.length : Int) x8_1 true ((rd_T60 l0 x8_1).f0) ((rd_T60 l0 x8_1).f1) ((rd_T60 l0 x8_1).f2) ((rd_T60 l0 x8_1).f3)) = some r := by rw [if_neg (show ¬ (false = true) by decide)] at H; exact H
                clear H
                have H := H1
                clear H1
                have H' := Aside0.mk H
                clear H
                have hcz46_0 : w6.cell? ⟨gb107, 0, none⟩ = some (.int .i64 0) := (blk_cell BK107.out 0).trans rfl
                have hcz46_1 : w6.cell? ⟨gb107, 1, none⟩ = some (.int .i64 0) := (blk_cell BK107.out 1).trans rfl
                have hcz46_2 : w6.cell? ⟨gb107, 2, none⟩ = some (.string (⟨#[]⟩ : ByteArray)) := (blk_cell BK107.out 2).trans rfl
                have hcz46_3 : w6.cell? ⟨gb107, 3, none⟩ = some (.string (⟨#[]⟩ : ByteArray)) := (blk_cell BK107.out 3).trans rfl
                have hfz46_0 := blk_frozen BK107.out 0
                have hfz46_1 := blk_frozen BK107.out 1
                have hfz46_2 := blk_frozen BK107.out 2
                have hfz46_3 := blk_frozen BK107.out 3
                go_wp2_with (first | (go_at_call 45; (with_reducible refine (xml_right.calls k1 ((rd_T60 l0 x8_1).f0) ((rd_T60 l0 x8_1).f1) ((rd_T60 l0 x8_1).f2) ((rd_T60 l0 x8_1).f3) false _ ?side1 A8.out).mono ?_); (case side1 => exact LaidM.below HT.out (by repeat (first | (with_reducible first | exact HB.out | apply below_alloc | apply pw_below_drewN | apply below_drew1 | refine below_set ?_ GE107.out) | exact HB.out))); rintro e w47 ⟨rfl, hb⟩; have n0_ := Aside0.mk (Kd.R_below (by (with_reducible repeat (first | apply Kd.R_alloc | apply Kd.R_drewN | apply Kd.R_drew)); exact (Kd.R_mono (Kd.R_far (p := ⟨gb107, 3, none⟩) (Kd.R_far (p := ⟨gb107, 2, none⟩) (Kd.R_far (p := ⟨gb107, 1, none⟩) (Kd.R_far (p := ⟨gb107, 0, none⟩) (Kd.R_mono HO_3.out (fun k_ hk => (⟨hk, hk.2⟩ : _ ∧ k_ ≠ gb107))) (fun _ hk => hk.2) (.int .i64 ((rd_T60 l0 x8_1).f0))) (fun _ hk => hk.2) (.int .i64 ((rd_T60 l0 x8_1).f1))) (fun _ hk => hk.2) (.string ((rd_T60 l0 x8_1).f2))) (fun _ hk => hk.2) (.string ((rd_T60 l0 x8_1).f3))) (fun _ h_ => h_.1))) hb); have n1_ := Aside0.mk (blk_below (g := gb107) (o := .cells #[.int .i64 ((rd_T60 l0 x8_1).f0), .int .i64 ((rd_T60 l0 x8_1).f1), .string ((rd_T60 l0 x8_1).f2), .string ((rd_T60 l0 x8_1).f3)] 60 (0, 0)) (by (with_reducible repeat (first | refine blk_drewN ?_ _ | refine blk_drew ?_ | refine blk_alloc ?_ _)); refine blk_put (cs := #[.int .i64 ((rd_T60 l0 x8_1).f0), .int .i64 ((rd_T60 l0 x8_1).f1), .string ((rd_T60 l0 x8_1).f2), .string (⟨#[]⟩ : ByteArray)]) ?_ 3 _ rfl; (with_reducible repeat (first | refine blk_drewN ?_ _ | refine blk_drew ?_ | refine blk_alloc ?_ _)); refine blk_put (cs := #[.int .i64 ((rd_T60 l0 x8_1).f0), .int .i64 ((rd_T60 l0 x8_1).f1), .string (⟨#[]⟩ : ByteArray), .string (⟨#[]⟩ : ByteArray)]) ?_ 2 _ rfl; (with_reducible repeat (first | refine blk_drewN ?_ _ | refine blk_drew ?_ | refine blk_alloc ?_ _)); refine blk_put (cs := #[.int .i64 ((rd_T60 l0 x8_1).f0), .int .i64 0, .string (⟨#[]⟩ : ByteArray), .string (⟨#[]⟩ : ByteArray)]) ?_ 1 _ rfl; (with_reducible repeat (first | refine blk_drewN ?_ _ | refine blk_drew ?_ | refine blk_alloc ?_ _)); refine blk_put (cs := #[.int .i64 0, .int .i64 0, .string (⟨#[]⟩ : ByteArray), .string (⟨#[]⟩ : ByteArray)]) ?_ 0 _ rfl; (with_reducible repeat (first | refine blk_drewN ?_ _ | refine blk_drew ?_ | refine blk_alloc ?_ _)); exact BK107.out) hb); have n2_ := Aside0.mk (below_step (by repeat (first | (with_reducible first | exact HB.out | apply below_alloc | apply pw_below_drewN | apply below_drew1 | refine below_set ?_ GE107.out) | exact HB.out)) hb); clear HO_3; clear BK107; clear HB; have HO_3 := n0_; have BK107 := n1_; have HB := n2_; clear n0_ n1_ n2_; (try clear hb); (try clear hb2); (try clear hk); (try clear hi)))
                repeat (go_quiet (first | (go_at_call 45; (with_reducible refine (xml_right.calls k1 ((rd_T60 l0 x8_1).f0) ((rd_T60 l0 x8_1).f1) ((rd_T60 l0 x8_1).f2) ((rd_T60 l0 x8_1).f3) false _ ?side1 A8.out).mono ?_); (case side1 => exact LaidM.below HT.out (by repeat (first | (with_reducible first | exact HB.out | apply below_alloc | apply pw_below_drewN | apply below_drew1 | refine below_set ?_ GE107.out) | exact HB.out))); rintro e w47 ⟨rfl, hb⟩; have n0_ := Aside0.mk (Kd.R_below (by (with_reducible repeat (first | apply Kd.R_alloc | apply Kd.R_drewN | apply Kd.R_drew)); exact (Kd.R_mono (Kd.R_far (p := ⟨gb107, 3, none⟩) (Kd.R_far (p := ⟨gb107, 2, none⟩) (Kd.R_far (p := ⟨gb107, 1, none⟩) (Kd.R_far (p := ⟨gb107, 0, none⟩) (Kd.R_mono HO_3.out (fun k_ hk => (⟨hk, hk.2⟩ : _ ∧ k_ ≠ gb107))) (fun _ hk => hk.2) (.int .i64 ((rd_T60 l0 x8_1).f0))) (fun _ hk => hk.2) (.int .i64 ((rd_T60 l0 x8_1).f1))) (fun _ hk => hk.2) (.string ((rd_T60 l0 x8_1).f2))) (fun _ hk => hk.2) (.string ((rd_T60 l0 x8_1).f3))) (fun _ h_ => h_.1))) hb); have n1_ := Aside0.mk (blk_below (g := gb107) (o := .cells #[.int .i64 ((rd_T60 l0 x8_1).f0), .int .i64 ((rd_T60 l0 x8_1).f1), .string ((rd_T60 l0 x8_1).f2), .string ((rd_T60 l0 x8_1).f3)] 60 (0, 0)) (by (with_reducible repeat (first | refine blk_drewN ?_ _ | refine blk_drew ?_ | refine blk_alloc ?_ _)); refine blk_put (cs := #[.int .i64 ((rd_T60 l0 x8_1).f0), .int .i64 ((rd_T60 l0 x8_1).f1), .string ((rd_T60 l0 x8_1).f2), .string (⟨#[]⟩ : ByteArray)]) ?_ 3 _ rfl; (with_reducible repeat (first | refine blk_drewN ?_ _ | refine blk_drew ?_ | refine blk_alloc ?_ _)); refine blk_put (cs := #[.int .i64 ((rd_T60 l0 x8_1).f0), .int .i64 ((rd_T60 l0 x8_1).f1), .string (⟨#[]⟩ : ByteArray), .string (⟨#[]⟩ : ByteArray)]) ?_ 2 _ rfl; (with_reducible repeat (first | refine blk_drewN ?_ _ | refine blk_drew ?_ | refine blk_alloc ?_ _)); refine blk_put (cs := #[.int .i64 ((rd_T60 l0 x8_1).f0), .int .i64 0, .string (⟨#[]⟩ : ByteArray), .string (⟨#[]⟩ : ByteArray)]) ?_ 1 _ rfl; (with_reducible repeat (first | refine blk_drewN ?_ _ | refine blk_drew ?_ | refine blk_alloc ?_ _)); refine blk_put (cs := #[.int .i64 0, .int .i64 0, .string (⟨#[]⟩ : ByteArray), .string (⟨#[]⟩ : ByteArray)]) ?_ 0 _ rfl; (with_reducible repeat (first | refine blk_drewN ?_ _ | refine blk_drew ?_ | refine blk_alloc ?_ _)); exact BK107.out) hb); have n2_ := Aside0.mk (below_step (by repeat (first | (with_reducible first | exact HB.out | apply below_alloc | apply pw_below_drewN | apply below_drew1 | refine below_set ?_ GE107.out) | exact HB.out)) hb); clear HO_3; clear BK107; clear HB; have HO_3 := n0_; have BK107 := n1_; have HB := n2_; clear n0_ n1_ n2_; (try clear hb); (try clear hb2); (try clear hk); (try clear hi))); try go_wp2_with (first | (go_at_call 45; (with_reducible refine (xml_right.calls k1 ((rd_T60 l0 x8_1).f0) ((rd_T60 l0 x8_1).f1) ((rd_T60 l0 x8_1).f2) ((rd_T60 l0 x8_1).f3) false _ ?side1 A8.out).mono ?_); (case side1 => exact LaidM.below HT.out (by repeat (first | (with_reducible first | exact HB.out | apply below_alloc | apply pw_below_drewN | apply below_drew1 | refine below_set ?_ GE107.out) | exact HB.out))); rintro e w47 ⟨rfl, hb⟩; have n0_ := Aside0.mk (Kd.R_below (by (with_reducible repeat (first | apply Kd.R_alloc | apply Kd.R_drewN | apply Kd.R_drew)); exact (Kd.R_mono (Kd.R_far (p := ⟨gb107, 3, none⟩) (Kd.R_far (p := ⟨gb107, 2, none⟩) (Kd.R_far (p := ⟨gb107, 1, none⟩) (Kd.R_far (p := ⟨gb107, 0, none⟩) (Kd.R_mono HO_3.out (fun k_ hk => (⟨hk, hk.2⟩ : _ ∧ k_ ≠ gb107))) (fun _ hk => hk.2) (.int .i64 ((rd_T60 l0 x8_1).f0))) (fun _ hk => hk.2) (.int .i64 ((rd_T60 l0 x8_1).f1))) (fun _ hk => hk.2) (.string ((rd_T60 l0 x8_1).f2))) (fun _ hk => hk.2) (.string ((rd_T60 l0 x8_1).f3))) (fun _ h_ => h_.1))) hb); have n1_ := Aside0.mk (blk_below (g := gb107) (o := .cells #[.int .i64 ((rd_T60 l0 x8_1).f0), .int .i64 ((rd_T60 l0 x8_1).f1), .string ((rd_T60 l0 x8_1).f2), .string ((rd_T60 l0 x8_1).f3)] 60 (0, 0)) (by (with_reducible repeat (first | refine blk_drewN ?_ _ | refine blk_drew ?_ | refine blk_alloc ?_ _)); refine blk_put (cs := #[.int .i64 ((rd_T60 l0 x8_1).f0), .int .i64 ((rd_T60 l0 x8_1).f1), .string ((rd_T60 l0 x8_1).f2), .string (⟨#[]⟩ : ByteArray)]) ?_ 3 _ rfl; (with_reducible repeat (first | refine blk_drewN ?_ _ | refine blk_drew ?_ | refine blk_alloc ?_ _)); refine blk_put (cs := #[.int .i64 ((rd_T60 l0 x8_1).f0), .int .i64 ((rd_T60 l0 x8_1).f1), .string (⟨#[]⟩ : ByteArray), .string (⟨#[]⟩ : ByteArray)]) ?_ 2 _ rfl; (with_reducible repeat (first | refine blk_drewN ?_ _ | refine blk_drew ?_ | refine blk_alloc ?_ _)); refine blk_put (cs := #[.int .i64 ((rd_T60 l0 x8_1).f0), .int .i64 0, .string (⟨#[]⟩ : ByteArray), .string (⟨#[]⟩ : ByteArray)]) ?_ 1 _ rfl; (with_reducible repeat (first | refine blk_drewN ?_ _ | refine blk_drew ?_ | refine blk_alloc ?_ _)); refine blk_put (cs := #[.int .i64 0, .int .i64 0, .string (⟨#[]⟩ : ByteArray), .string (⟨#[]⟩ : ByteArray)]) ?_ 0 _ rfl; (with_reducible repeat (first | refine blk_drewN ?_ _ | refine blk_drew ?_ | refine blk_alloc ?_ _)); exact BK107.out) hb); have n2_ := Aside0.mk (below_step (by repeat (first | (with_reducible first | exact HB.out | apply below_alloc | apply pw_below_drewN | apply below_drew1 | refine below_set ?_ GE107.out) | exact HB.out)) hb); clear HO_3; clear BK107; clear HB; have HO_3 := n0_; have BK107 := n1_; have HB := n2_; clear n0_ n1_ n2_; (try clear hb); (try clear hb2); (try clear hk); (try clear hi))))
                go_meet
                case rel => exact ⟨_, (true), (by first | rfl | (simp; done) | (simp [*]; done)), H', ⟨by have := HK1.out; first | omega | exact Nat.le_refl _⟩, ⟨by (with_reducible repeat (first | apply Kd.R_alloc | apply Kd.R_drewN | apply Kd.R_drew)); exact Kd.R_mono HO_3.out (fun _ hk => hk.2)⟩, ⟨by (with_reducible repeat (first | refine blk_drewN ?_ _ | refine blk_drew ?_ | refine blk_alloc ?_ _)); exact BK107.out⟩, ⟨by repeat (first | (with_reducible first | exact HB.out | apply below_alloc | apply pw_below_drewN | apply below_drew1 | refine below_set ?_ GE107.out) | exact HB.out)⟩⟩
            case rest =>
              clear HC5
              try clear c1
              try clear p1
              try clear q1
              try clear hx1
              try clear c2
              try clear c2b0
              try clear p2
              try clear c3
              try clear c3b0
              try clear c4
              try clear c4b0
              try clear p6
              try clear c9
              try clear c10
              try clear c10b0
              try clear p10
              try clear q10
              try clear hx10
              try clear c11
              try clear c11b0
              try clear c11b1
              try clear c11b2
              try clear p11
              try clear q11
              try clear hx11
              try clear c15
              try clear c15b0
              try clear c15b1
              try clear c16
              try clear c16b0
              try clear c16b1
              try clear c20
              try clear c22
              try clear c22b0
              try clear c23
              try clear c23b0
              try clear c32
              try clear c32b0
              try clear c32b1
              try clear c33
              try clear c33b0
              try clear c33b1
              try clear c38
              try clear c38b0
              try clear c39
              try clear c39b0
              try clear hcz12_0
              try clear hcz12_1
              try clear hcz12_2
              try clear hcz12_3
              try clear hcz17_0
              try clear hcz17_1
              try clear hcz17_2
              try clear hcz17_3
              try clear hcz20_0
              try clear hcz20_1
              try clear hcz20_2
              try clear hcz20_3
              try clear hcz24_0
              try clear hcz24_1
              try clear hcz24_2
              try clear hcz24_3
              try clear hcz27_0
              try clear hcz27_1
              try clear hcz27_2
              try clear hcz27_3
              try clear hcz28_0
              try clear hcz28_1
              try clear hcz28_2
              try clear hcz28_3
              try clear hcz31_0
              try clear hcz31_1
              try clear hcz31_2
              try clear hcz31_3
              try clear hcz34_0
              try clear hcz34_1
              try clear hcz34_2
              try clear hcz34_3
              try clear hcz36_0
              try clear hcz36_1
              try clear hcz36_2
              try clear hcz36_3
              try clear hcz40_0
              try clear hcz40_1
              try clear hcz40_2
              try clear hcz40_3
              try clear hcz42_0
              try clear hcz42_1
              try clear hcz42_2
              try clear hcz42_3
              try clear hcz43_0
              try clear hcz43_1
              try clear hcz43_2
              try clear hcz43_3
              try clear hcz45_0
              try clear hcz45_1
              try clear hcz45_2
              try clear hcz45_3
              try clear hcz46_0
              try clear hcz46_1
              try clear hcz46_2
              try clear hcz46_3
              try clear hcz7_0
              try clear hcz7_1
              try clear hcz7_2
              try clear hcz7_3
              try clear hfz12_0
              try clear hfz12_1
              try clear hfz12_2
              try clear hfz12_3
              try clear hfz17_0
              try clear hfz17_1
              try clear hfz17_2
              try clear hfz17_3
              try clear hfz20_0
              try clear hfz20_1
              try clear hfz20_2
              try clear hfz20_3
              try clear hfz24_0
              try clear hfz24_1
              try clear hfz24_2
              try clear hfz24_3
              try clear hfz27_0
              try clear hfz27_1
              try clear hfz27_2
              try clear hfz27_3
              try clear hfz28_0
              try clear hfz28_1
              try clear hfz28_2
              try clear hfz28_3
              try clear hfz31_0
              try clear hfz31_1
              try clear hfz31_2
              try clear hfz31_3
              try clear hfz34_0
              try clear hfz34_1
              try clear hfz34_2
              try clear hfz34_3
              try clear hfz36_0
              try clear hfz36_1
              try clear hfz36_2
              try clear hfz36_3
              try clear hfz40_0
              try clear hfz40_1
              try clear hfz40_2
              try clear hfz40_3
              try clear hfz42_0
              try clear hfz42_1
              try clear hfz42_2
              try clear hfz42_3
              try clear hfz43_0
              try clear hfz43_1
              try clear hfz43_2
              try clear hfz43_3
              try clear hfz45_0
              try clear hfz45_1
              try clear hfz45_2
              try clear hfz45_3
              try clear hfz46_0
              try clear hfz46_1
              try clear hfz46_2
              try clear hfz46_3
              try clear hfz7_0
              try clear hfz7_1
              try clear hfz7_2
              try clear hfz7_3
              try clear hx106_0
              try clear hx106_1
              try clear hx106_2
              try clear hx106_3
              try clear hx109_0
              try clear hx109_1
              try clear hx109_2
              try clear hx109_3
              try clear hx110_0
              try clear hx110_1
              try clear hx110_2
              try clear hx110_3
              try clear p106
              try clear p109
              try clear p110
              try clear q106
              try clear q109
              try clear q110
              obtain ⟨kq, x42_4, rfl, HA, HJ4, HO_3, BK107, HB⟩ := hcut
              cases kq with
              | zero => exact absurd HA.out (by simp [xml_Check.j1])
              | succ kj4 =>
                have H := HA.out
                clear HA
                simp only [xml_Check.j1] at H
                by_cases c48 : x42_4 = true
                · subst c48
                  have H1 : (some 70) = some r := by rw [if_pos rfl] at H; exact H
                  clear H
                  have H := H1
                  clear H1
                  obtain rfl := Option.some.inj H
                  go_wp2
                  repeat (go_quiet (fail); try go_wp2)
                  go_ret
                  exact ⟨by first | rfl | (simp [errW_none, errW_some] <;> rfl) | (simp [*, errW_none, errW_some] <;> rfl), by repeat (first | (with_reducible first | exact HB.out | apply below_alloc | apply pw_below_drewN | apply below_drew1 | refine below_set ?_ GE107.out) | exact HB.out)⟩
                · replace c48 := Bool.eq_false_iff.mpr c48
                  subst c48
                  have H1 : (if ((rd_T60 l0 x8_1).f0) = 1 then (if x3_1.length < 2932031007402 then ((some (x3_1 ++ [(⟨((rd_T60 l0 x8_1).f0), ((rd_T60 l0 x8_1).f1), ((rd_T60 l0 x8_1).f2), ((rd_T60 l0 x8_1).f3)⟩ : S60)] : List (S60))).bind fun y111 => (if (y111.length : Int) > 16 then (some 70) else (xml_Check.l0 kj4 l0 y111 l0 (l0.length : Int) (wrap64 (x8_1 + 1))))) else (none)) else (if ((rd_T60 l0 x8_1).f0) = 2 then (if (x3_1.length : Int) = 0 then (xml_Check.j2 kj4 l0 x3_1 l0 (l0.length : Int) x8_1 true) else (if 0 ≤ (wrap64 ((x3_1.length : Int) - 1)) then (if (wrap64 ((x3_1.length : Int) - 1)) < (x3_1.length : Int) then (if ((rd_T60 x3_1 (wrap64 ((x3_1.length : Int) - 1))).f2).toList = ((rd_T60 l0 x8_1).f2).toList then (xml_Check.j2 kj4 l0 x3_1 l0 (l0.length : Int) x8_1 (((rd_T60 x3_1 (wrap64 ((x3_1.length : Int) - 1))).f1) != ((rd_T60 l0 x8_1).f1))) else (xml_Check.j2 kj4 l0 x3_1 l0 (l0.length : Int) x8_1 true)) else (none)) else (none))) else (if (x3_1.length : Int) > 16 then (some 70) else (xml_Check.l0 kj4 l0 x3_1 l0 (l0.length : Int) (wrap64 (x8_1 + 1)))))) = some r := by rw [if_neg (show ¬ (false = true) by decide)] at H; exact H
                  clear H
                  have H := H1
                  clear H1
                  by_cases c49 : ((rd_T60 l0 x8_1).f0) = 1
                  · rw [if_pos c49] at H
                    have c49b0 : (((rd_T60 l0 x8_1).f0) == 1) = true := beq_iff_eq.mpr c49
                    have c49b1 : (((rd_T60 l0 x8_1).f0) != 1) = false := bne_eq_false_iff_eq.mpr c49
                    clear c49
                    by_cases c50 : x3_1.length < 2932031007402
                    · rw [if_pos c50] at H
                      have LMc50 := Aside0.mk c50
                      clear c50
                      obtain ⟨y111, hy111⟩ : ∃ y_ : List (S60), y_ = (x3_1 ++ [(⟨((rd_T60 l0 x8_1).f0), ((rd_T60 l0 x8_1).f1), ((rd_T60 l0 x8_1).f2), ((rd_T60 l0 x8_1).f3)⟩ : S60)]) := ⟨_, rfl⟩
                      replace H : (if (y111.length : Int) > 16 then (some 70) else (xml_Check.l0 kj4 l0 y111 l0 (l0.length : Int) (wrap64 (x8_1 + 1)))) = some r := by first | (rw [hy111]; with_reducible exact H) | (have H2_ := (Option.bind_some _ _).symm.trans H; rw [hy111]; with_reducible exact H2_) | (have H2_ := (Option.bind_some _ _).symm.trans H; with_reducible exact H2_) | with_reducible exact H | (rw [hy111]; exact H) | exact H
                      have Ny111 := Aside0.mk hy111
                      clear hy111
                      by_cases c51 : (y111.length : Int) > 16
                      · rw [if_pos c51] at H
                        have c51b0 : decide (16 < (y111.length : Int)) = true := decide_eq_true c51
                        have c51b1 : decide (16 < y111.length) = true := decide_eq_true (by omega)
                        clear c51
                        obtain rfl := Option.some.inj H
                        have hcz52_0 : wc.cell? ⟨gb107, 0, none⟩ = some (.int .i64 ((rd_T60 l0 x8_1).f0)) := (blk_cell BK107.out 0).trans rfl
                        have hcz52_1 : wc.cell? ⟨gb107, 1, none⟩ = some (.int .i64 ((rd_T60 l0 x8_1).f1)) := (blk_cell BK107.out 1).trans rfl
                        have hcz52_2 : wc.cell? ⟨gb107, 2, none⟩ = some (.string ((rd_T60 l0 x8_1).f2)) := (blk_cell BK107.out 2).trans rfl
                        have hcz52_3 : wc.cell? ⟨gb107, 3, none⟩ = some (.string ((rd_T60 l0 x8_1).f3)) := (blk_cell BK107.out 3).trans rfl
                        have hfz52_0 := blk_frozen BK107.out 0
                        have hfz52_1 := blk_frozen BK107.out 1
                        have hfz52_2 := blk_frozen BK107.out 2
                        have hfz52_3 := blk_frozen BK107.out 3
                        go_wp2_with (first | ((with_reducible refine gate_builtin (b := .append) (xs := #[.tmp 47, .tmp 49]) rfl ?_); (try (refine gate_guard (by rfl) ?_; dsimp only)); at_builtin; refine Kd.R_append k60 (w0 := w) w.heap.size rfl (.tmp 47) (.tmp 49) 48 60 (.agg #[(.int .i64 0), (.int .i64 0), (.string ⟨#[]⟩), (.string ⟨#[]⟩)]) 48 rfl Tryz.underlying48 info60 rfl (by decide) (by omega) u3 x3_1 (⟨((rd_T60 l0 x8_1).f0), ((rd_T60 l0 x8_1).f1), ((rd_T60 l0 x8_1).f2), ((rd_T60 l0 x8_1).f3)⟩ : S60) [.int .i64 ((rd_T60 l0 x8_1).f0), .int .i64 ((rd_T60 l0 x8_1).f1), .string ((rd_T60 l0 x8_1).f2), .string ((rd_T60 l0 x8_1).f3)] (fun k_ => k_ ≠ gb107) (fun _ => False) rfl rfl ?aP (fun _ hk => hk.elim) ?aF ?aO ?aB ?aS ?aL ?_; (case aP => exact k60_mkM _ _ _ (⟨((rd_T60 l0 x8_1).f0), ((rd_T60 l0 x8_1).f1), ((rd_T60 l0 x8_1).f2), ((rd_T60 l0 x8_1).f3)⟩ : S60)); (case aB => exact (by repeat (first | (with_reducible first | exact HB.out | apply below_alloc | apply pw_below_drewN | apply below_drew1 | refine below_set ?_ GE107.out) | exact HB.out))); (case aF => exact (fun k_ hk => Kd.freshB (g := gb107) (o := .cells #[.int .i64 ((rd_T60 l0 x8_1).f0), .int .i64 ((rd_T60 l0 x8_1).f1), .string ((rd_T60 l0 x8_1).f2), .string ((rd_T60 l0 x8_1).f3)] 60 (0, 0)) (by (with_reducible repeat (first | refine blk_drewN ?_ _ | refine blk_drew ?_ | refine blk_alloc ?_ _)); exact BK107.out) k_ hk)); (case aO => exact (by (with_reducible repeat (first | apply Kd.R_alloc | apply Kd.R_drewN | apply Kd.R_drew)); exact HO_3.out)); (case aS => exact (below_size (by repeat (first | (with_reducible first | exact HB.out | apply below_alloc | apply pw_below_drewN | apply below_drew1 | refine below_set ?_ GE107.out) | exact HB.out)))); (case aL => have := LMc50.out; omega); intro v112 w53 ho hb hg hat; rw [← Ny111.out] at ho; have n0_ := Aside0.mk (blk_grown (g := gb107) (o := .cells #[.int .i64 ((rd_T60 l0 x8_1).f0), .int .i64 ((rd_T60 l0 x8_1).f1), .string ((rd_T60 l0 x8_1).f2), .string ((rd_T60 l0 x8_1).f3)] 60 (0, 0)) (by (with_reducible repeat (first | refine blk_drewN ?_ _ | refine blk_drew ?_ | refine blk_alloc ?_ _)); exact BK107.out) hg (Kd.R_away HO_3.out (fun _ hk => hk))); have n1_ := Aside0.mk (hb); have n2_ := Aside0.mk (ho); clear BK107; clear HB; clear HO_3; have BK107 := n0_; have HB := n1_; have HO113 := n2_; clear n0_ n1_ n2_; clear ho hb hg hat; obtain ⟨Ao54, co54, eo54⟩ := Kd.R_slice HO113.out; subst eo54))
                        repeat (go_quiet (first | ((with_reducible refine gate_builtin (b := .append) (xs := #[.tmp 47, .tmp 49]) rfl ?_); (try (refine gate_guard (by rfl) ?_; dsimp only)); at_builtin; refine Kd.R_append k60 (w0 := w) w.heap.size rfl (.tmp 47) (.tmp 49) 48 60 (.agg #[(.int .i64 0), (.int .i64 0), (.string ⟨#[]⟩), (.string ⟨#[]⟩)]) 48 rfl Tryz.underlying48 info60 rfl (by decide) (by omega) u3 x3_1 (⟨((rd_T60 l0 x8_1).f0), ((rd_T60 l0 x8_1).f1), ((rd_T60 l0 x8_1).f2), ((rd_T60 l0 x8_1).f3)⟩ : S60) [.int .i64 ((rd_T60 l0 x8_1).f0), .int .i64 ((rd_T60 l0 x8_1).f1), .string ((rd_T60 l0 x8_1).f2), .string ((rd_T60 l0 x8_1).f3)] (fun k_ => k_ ≠ gb107) (fun _ => False) rfl rfl ?aP (fun _ hk => hk.elim) ?aF ?aO ?aB ?aS ?aL ?_; (case aP => exact k60_mkM _ _ _ (⟨((rd_T60 l0 x8_1).f0), ((rd_T60 l0 x8_1).f1), ((rd_T60 l0 x8_1).f2), ((rd_T60 l0 x8_1).f3)⟩ : S60)); (case aB => exact (by repeat (first | (with_reducible first | exact HB.out | apply below_alloc | apply pw_below_drewN | apply below_drew1 | refine below_set ?_ GE107.out) | exact HB.out))); (case aF => exact (fun k_ hk => Kd.freshB (g := gb107) (o := .cells #[.int .i64 ((rd_T60 l0 x8_1).f0), .int .i64 ((rd_T60 l0 x8_1).f1), .string ((rd_T60 l0 x8_1).f2), .string ((rd_T60 l0 x8_1).f3)] 60 (0, 0)) (by (with_reducible repeat (first | refine blk_drewN ?_ _ | refine blk_drew ?_ | refine blk_alloc ?_ _)); exact BK107.out) k_ hk)); (case aO => exact (by (with_reducible repeat (first | apply Kd.R_alloc | apply Kd.R_drewN | apply Kd.R_drew)); exact HO_3.out)); (case aS => exact (below_size (by repeat (first | (with_reducible first | exact HB.out | apply below_alloc | apply pw_below_drewN | apply below_drew1 | refine below_set ?_ GE107.out) | exact HB.out)))); (case aL => have := LMc50.out; omega); intro v112 w53 ho hb hg hat; rw [← Ny111.out] at ho; have n0_ := Aside0.mk (blk_grown (g := gb107) (o := .cells #[.int .i64 ((rd_T60 l0 x8_1).f0), .int .i64 ((rd_T60 l0 x8_1).f1), .string ((rd_T60 l0 x8_1).f2), .string ((rd_T60 l0 x8_1).f3)] 60 (0, 0)) (by (with_reducible repeat (first | refine blk_drewN ?_ _ | refine blk_drew ?_ | refine blk_alloc ?_ _)); exact BK107.out) hg (Kd.R_away HO_3.out (fun _ hk => hk))); have n1_ := Aside0.mk (hb); have n2_ := Aside0.mk (ho); clear BK107; clear HB; clear HO_3; have BK107 := n0_; have HB := n1_; have HO113 := n2_; clear n0_ n1_ n2_; clear ho hb hg hat; obtain ⟨Ao54, co54, eo54⟩ := Kd.R_slice HO113.out; subst eo54)); try go_wp2_with (first | ((with_reducible refine gate_builtin (b := .append) (xs := #[.tmp 47, .tmp 49]) rfl ?_); (try (refine gate_guard (by rfl) ?_; dsimp only)); at_builtin; refine Kd.R_append k60 (w0 := w) w.heap.size rfl (.tmp 47) (.tmp 49) 48 60 (.agg #[(.int .i64 0), (.int .i64 0), (.string ⟨#[]⟩), (.string ⟨#[]⟩)]) 48 rfl Tryz.underlying48 info60 rfl (by decide) (by omega) u3 x3_1 (⟨((rd_T60 l0 x8_1).f0), ((rd_T60 l0 x8_1).f1), ((rd_T60 l0 x8_1).f2), ((rd_T60 l0 x8_1).f3)⟩ : S60) [.int .i64 ((rd_T60 l0 x8_1).f0), .int .i64 ((rd_T60 l0 x8_1).f1), .string ((rd_T60 l0 x8_1).f2), .string ((rd_T60 l0 x8_1).f3)] (fun k_ => k_ ≠ gb107) (fun _ => False) rfl rfl ?aP (fun _ hk => hk.elim) ?aF ?aO ?aB ?aS ?aL ?_; (case aP => exact k60_mkM _ _ _ (⟨((rd_T60 l0 x8_1).f0), ((rd_T60 l0 x8_1).f1), ((rd_T60 l0 x8_1).f2), ((rd_T60 l0 x8_1).f3)⟩ : S60)); (case aB => exact (by repeat (first | (with_reducible first | exact HB.out | apply below_alloc | apply pw_below_drewN | apply below_drew1 | refine below_set ?_ GE107.out) | exact HB.out))); (case aF => exact (fun k_ hk => Kd.freshB (g := gb107) (o := .cells #[.int .i64 ((rd_T60 l0 x8_1).f0), .int .i64 ((rd_T60 l0 x8_1).f1), .string ((rd_T60 l0 x8_1).f2), .string ((rd_T60 l0 x8_1).f3)] 60 (0, 0)) (by (with_reducible repeat (first | refine blk_drewN ?_ _ | refine blk_drew ?_ | refine blk_alloc ?_ _)); exact BK107.out) k_ hk)); (case aO => exact (by (with_reducible repeat (first | apply Kd.R_alloc | apply Kd.R_drewN | apply Kd.R_drew)); exact HO_3.out)); (case aS => exact (below_size (by repeat (first | (with_reducible first | exact HB.out | apply below_alloc | apply pw_below_drewN | apply below_drew1 | refine below_set ?_ GE107.out) | exact HB.out)))); (case aL => have := LMc50.out; omega); intro v112 w53 ho hb hg hat; rw [← Ny111.out] at ho; have n0_ := Aside0.mk (blk_grown (g := gb107) (o := .cells #[.int .i64 ((rd_T60 l0 x8_1).f0), .int .i64 ((rd_T60 l0 x8_1).f1), .string ((rd_T60 l0 x8_1).f2), .string ((rd_T60 l0 x8_1).f3)] 60 (0, 0)) (by (with_reducible repeat (first | refine blk_drewN ?_ _ | refine blk_drew ?_ | refine blk_alloc ?_ _)); exact BK107.out) hg (Kd.R_away HO_3.out (fun _ hk => hk))); have n1_ := Aside0.mk (hb); have n2_ := Aside0.mk (ho); clear BK107; clear HB; clear HO_3; have BK107 := n0_; have HB := n1_; have HO113 := n2_; clear n0_ n1_ n2_; clear ho hb hg hat; obtain ⟨Ao54, co54, eo54⟩ := Kd.R_slice HO113.out; subst eo54)))
                        go_ret
                        exact ⟨by first | rfl | (simp [errW_none, errW_some] <;> rfl) | (simp [*, errW_none, errW_some] <;> rfl), by repeat (first | (with_reducible first | exact HB.out | apply below_alloc | apply pw_below_drewN | apply below_drew1 | refine below_set ?_ GE107.out) | exact HB.out)⟩
                      · rw [if_neg c51] at H
                        have c51b0 : decide (16 < (y111.length : Int)) = false := decide_eq_false c51
                        have c51b1 : decide (16 < y111.length) = false := decide_eq_false (by omega)
                        clear c51
                        have H' := Aside0.mk H
                        clear H
                        have hcz55_0 : wc.cell? ⟨gb107, 0, none⟩ = some (.int .i64 ((rd_T60 l0 x8_1).f0)) := (blk_cell BK107.out 0).trans rfl
                        have hcz55_1 : wc.cell? ⟨gb107, 1, none⟩ = some (.int .i64 ((rd_T60 l0 x8_1).f1)) := (blk_cell BK107.out 1).trans rfl
                        have hcz55_2 : wc.cell? ⟨gb107, 2, none⟩ = some (.string ((rd_T60 l0 x8_1).f2)) := (blk_cell BK107.out 2).trans rfl
                        have hcz55_3 : wc.cell? ⟨gb107, 3, none⟩ = some (.string ((rd_T60 l0 x8_1).f3)) := (blk_cell BK107.out 3).trans rfl
                        have hfz55_0 := blk_frozen BK107.out 0
                        have hfz55_1 := blk_frozen BK107.out 1
                        have hfz55_2 := blk_frozen BK107.out 2
                        have hfz55_3 := blk_frozen BK107.out 3
                        go_wp2_with (first | ((with_reducible refine gate_builtin (b := .append) (xs := #[.tmp 47, .tmp 49]) rfl ?_); (try (refine gate_guard (by rfl) ?_; dsimp only)); at_builtin; refine Kd.R_append k60 (w0 := w) w.heap.size rfl (.tmp 47) (.tmp 49) 48 60 (.agg #[(.int .i64 0), (.int .i64 0), (.string ⟨#[]⟩), (.string ⟨#[]⟩)]) 48 rfl Tryz.underlying48 info60 rfl (by decide) (by omega) u3 x3_1 (⟨((rd_T60 l0 x8_1).f0), ((rd_T60 l0 x8_1).f1), ((rd_T60 l0 x8_1).f2), ((rd_T60 l0 x8_1).f3)⟩ : S60) [.int .i64 ((rd_T60 l0 x8_1).f0), .int .i64 ((rd_T60 l0 x8_1).f1), .string ((rd_T60 l0 x8_1).f2), .string ((rd_T60 l0 x8_1).f3)] (fun k_ => k_ ≠ gb107) (fun _ => False) rfl rfl ?aP (fun _ hk => hk.elim) ?aF ?aO ?aB ?aS ?aL ?_; (case aP => exact k60_mkM _ _ _ (⟨((rd_T60 l0 x8_1).f0), ((rd_T60 l0 x8_1).f1), ((rd_T60 l0 x8_1).f2), ((rd_T60 l0 x8_1).f3)⟩ : S60)); (case aB => exact (by repeat (first | (with_reducible first | exact HB.out | apply below_alloc | apply pw_below_drewN | apply below_drew1 | refine below_set ?_ GE107.out) | exact HB.out))); (case aF => exact (fun k_ hk => Kd.freshB (g := gb107) (o := .cells #[.int .i64 ((rd_T60 l0 x8_1).f0), .int .i64 ((rd_T60 l0 x8_1).f1), .string ((rd_T60 l0 x8_1).f2), .string ((rd_T60 l0 x8_1).f3)] 60 (0, 0)) (by (with_reducible repeat (first | refine blk_drewN ?_ _ | refine blk_drew ?_ | refine blk_alloc ?_ _)); exact BK107.out) k_ hk)); (case aO => exact (by (with_reducible repeat (first | apply Kd.R_alloc | apply Kd.R_drewN | apply Kd.R_drew)); exact HO_3.out)); (case aS => exact (below_size (by repeat (first | (with_reducible first | exact HB.out | apply below_alloc | apply pw_below_drewN | apply below_drew1 | refine below_set ?_ GE107.out) | exact HB.out)))); (case aL => have := LMc50.out; omega); intro v112 w56 ho hb hg hat; rw [← Ny111.out] at ho; have n0_ := Aside0.mk (blk_grown (g := gb107) (o := .cells #[.int .i64 ((rd_T60 l0 x8_1).f0), .int .i64 ((rd_T60 l0 x8_1).f1), .string ((rd_T60 l0 x8_1).f2), .string ((rd_T60 l0 x8_1).f3)] 60 (0, 0)) (by (with_reducible repeat (first | refine blk_drewN ?_ _ | refine blk_drew ?_ | refine blk_alloc ?_ _)); exact BK107.out) hg (Kd.R_away HO_3.out (fun _ hk => hk))); have n1_ := Aside0.mk (hb); have n2_ := Aside0.mk (ho); clear BK107; clear HB; clear HO_3; have BK107 := n0_; have HB := n1_; have HO113 := n2_; clear n0_ n1_ n2_; clear ho hb hg hat; obtain ⟨Ao57, co57, eo57⟩ := Kd.R_slice HO113.out; subst eo57))
                        repeat (go_quiet (first | ((with_reducible refine gate_builtin (b := .append) (xs := #[.tmp 47, .tmp 49]) rfl ?_); (try (refine gate_guard (by rfl) ?_; dsimp only)); at_builtin; refine Kd.R_append k60 (w0 := w) w.heap.size rfl (.tmp 47) (.tmp 49) 48 60 (.agg #[(.int .i64 0), (.int .i64 0), (.string ⟨#[]⟩), (.string ⟨#[]⟩)]) 48 rfl Tryz.underlying48 info60 rfl (by decide) (by omega) u3 x3_1 (⟨((rd_T60 l0 x8_1).f0), ((rd_T60 l0 x8_1).f1), ((rd_T60 l0 x8_1).f2), ((rd_T60 l0 x8_1).f3)⟩ : S60) [.int .i64 ((rd_T60 l0 x8_1).f0), .int .i64 ((rd_T60 l0 x8_1).f1), .string ((rd_T60 l0 x8_1).f2), .string ((rd_T60 l0 x8_1).f3)] (fun k_ => k_ ≠ gb107) (fun _ => False) rfl rfl ?aP (fun _ hk => hk.elim) ?aF ?aO ?aB ?aS ?aL ?_; (case aP => exact k60_mkM _ _ _ (⟨((rd_T60 l0 x8_1).f0), ((rd_T60 l0 x8_1).f1), ((rd_T60 l0 x8_1).f2), ((rd_T60 l0 x8_1).f3)⟩ : S60)); (case aB => exact (by repeat (first | (with_reducible first | exact HB.out | apply below_alloc | apply pw_below_drewN | apply below_drew1 | refine below_set ?_ GE107.out) | exact HB.out))); (case aF => exact (fun k_ hk => Kd.freshB (g := gb107) (o := .cells #[.int .i64 ((rd_T60 l0 x8_1).f0), .int .i64 ((rd_T60 l0 x8_1).f1), .string ((rd_T60 l0 x8_1).f2), .string ((rd_T60 l0 x8_1).f3)] 60 (0, 0)) (by (with_reducible repeat (first | refine blk_drewN ?_ _ | refine blk_drew ?_ | refine blk_alloc ?_ _)); exact BK107.out) k_ hk)); (case aO => exact (by (with_reducible repeat (first | apply Kd.R_alloc | apply Kd.R_drewN | apply Kd.R_drew)); exact HO_3.out)); (case aS => exact (below_size (by repeat (first | (with_reducible first | exact HB.out | apply below_alloc | apply pw_below_drewN | apply below_drew1 | refine below_set ?_ GE107.out) | exact HB.out)))); (case aL => have := LMc50.out; omega); intro v112 w56 ho hb hg hat; rw [← Ny111.out] at ho; have n0_ := Aside0.mk (blk_grown (g := gb107) (o := .cells #[.int .i64 ((rd_T60 l0 x8_1).f0), .int .i64 ((rd_T60 l0 x8_1).f1), .string ((rd_T60 l0 x8_1).f2), .string ((rd_T60 l0 x8_1).f3)] 60 (0, 0)) (by (with_reducible repeat (first | refine blk_drewN ?_ _ | refine blk_drew ?_ | refine blk_alloc ?_ _)); exact BK107.out) hg (Kd.R_away HO_3.out (fun _ hk => hk))); have n1_ := Aside0.mk (hb); have n2_ := Aside0.mk (ho); clear BK107; clear HB; clear HO_3; have BK107 := n0_; have HB := n1_; have HO113 := n2_; clear n0_ n1_ n2_; clear ho hb hg hat; obtain ⟨Ao57, co57, eo57⟩ := Kd.R_slice HO113.out; subst eo57)); try go_wp2_with (first | ((with_reducible refine gate_builtin (b := .append) (xs := #[.tmp 47, .tmp 49]) rfl ?_); (try (refine gate_guard (by rfl) ?_; dsimp only)); at_builtin; refine Kd.R_append k60 (w0 := w) w.heap.size rfl (.tmp 47) (.tmp 49) 48 60 (.agg #[(.int .i64 0), (.int .i64 0), (.string ⟨#[]⟩), (.string ⟨#[]⟩)]) 48 rfl Tryz.underlying48 info60 rfl (by decide) (by omega) u3 x3_1 (⟨((rd_T60 l0 x8_1).f0), ((rd_T60 l0 x8_1).f1), ((rd_T60 l0 x8_1).f2), ((rd_T60 l0 x8_1).f3)⟩ : S60) [.int .i64 ((rd_T60 l0 x8_1).f0), .int .i64 ((rd_T60 l0 x8_1).f1), .string ((rd_T60 l0 x8_1).f2), .string ((rd_T60 l0 x8_1).f3)] (fun k_ => k_ ≠ gb107) (fun _ => False) rfl rfl ?aP (fun _ hk => hk.elim) ?aF ?aO ?aB ?aS ?aL ?_; (case aP => exact k60_mkM _ _ _ (⟨((rd_T60 l0 x8_1).f0), ((rd_T60 l0 x8_1).f1), ((rd_T60 l0 x8_1).f2), ((rd_T60 l0 x8_1).f3)⟩ : S60)); (case aB => exact (by repeat (first | (with_reducible first | exact HB.out | apply below_alloc | apply pw_below_drewN | apply below_drew1 | refine below_set ?_ GE107.out) | exact HB.out))); (case aF => exact (fun k_ hk => Kd.freshB (g := gb107) (o := .cells #[.int .i64 ((rd_T60 l0 x8_1).f0), .int .i64 ((rd_T60 l0 x8_1).f1), .string ((rd_T60 l0 x8_1).f2), .string ((rd_T60 l0 x8_1).f3)] 60 (0, 0)) (by (with_reducible repeat (first | refine blk_drewN ?_ _ | refine blk_drew ?_ | refine blk_alloc ?_ _)); exact BK107.out) k_ hk)); (case aO => exact (by (with_reducible repeat (first | apply Kd.R_alloc | apply Kd.R_drewN | apply Kd.R_drew)); exact HO_3.out)); (case aS => exact (below_size (by repeat (first | (with_reducible first | exact HB.out | apply below_alloc | apply pw_below_drewN | apply below_drew1 | refine below_set ?_ GE107.out) | exact HB.out)))); (case aL => have := LMc50.out; omega); intro v112 w56 ho hb hg hat; rw [← Ny111.out] at ho; have n0_ := Aside0.mk (blk_grown (g := gb107) (o := .cells #[.int .i64 ((rd_T60 l0 x8_1).f0), .int .i64 ((rd_T60 l0 x8_1).f1), .string ((rd_T60 l0 x8_1).f2), .string ((rd_T60 l0 x8_1).f3)] 60 (0, 0)) (by (with_reducible repeat (first | refine blk_drewN ?_ _ | refine blk_drew ?_ | refine blk_alloc ?_ _)); exact BK107.out) hg (Kd.R_away HO_3.out (fun _ hk => hk))); have n1_ := Aside0.mk (hb); have n2_ := Aside0.mk (ho); clear BK107; clear HB; clear HO_3; have BK107 := n0_; have HB := n1_; have HO113 := n2_; clear n0_ n1_ n2_; clear ho hb hg hat; obtain ⟨Ao57, co57, eo57⟩ := Kd.R_slice HO113.out; subst eo57)))
                        go_roundg kj4
                        case measure => have := HK1.out; have := HJ4.out; omega
                        case rel => exact ⟨(y111), (wrap64 (x8_1 + 1)), (by first | rfl | (simp; done) | (simp [*]; done)), H', ⟨by have := HK1.out; have := HJ4.out; omega⟩, ⟨by (with_reducible repeat (first | apply Kd.R_alloc | apply Kd.R_drewN | apply Kd.R_drew)); exact Kd.R_mono HO113.out (fun _ hk => trivial)⟩, ⟨by repeat (first | (with_reducible first | exact HB.out | apply below_alloc | apply pw_below_drewN | apply below_drew1 | refine below_set ?_ GE107.out) | exact HB.out)⟩⟩
                    · rw [if_neg c50] at H
                      exact absurd H (by simp)
                  · rw [if_neg c49] at H
                    have c49b0 : (((rd_T60 l0 x8_1).f0) == 1) = false := beq_eq_false_iff_ne.mpr c49
                    have c49b1 : (((rd_T60 l0 x8_1).f0) != 1) = true := bne_iff_ne.mpr c49
                    by_cases c58 : ((rd_T60 l0 x8_1).f0) = 2
                    · rw [if_pos c58] at H
                      have c58b0 : (((rd_T60 l0 x8_1).f0) == 2) = true := beq_iff_eq.mpr c58
                      have c58b1 : (((rd_T60 l0 x8_1).f0) != 2) = false := bne_eq_false_iff_eq.mpr c58
                      clear c58
                      have HC59 := Aside0.mk H
                      clear H
                      have hcz60_0 : wc.cell? ⟨gb107, 0, none⟩ = some (.int .i64 ((rd_T60 l0 x8_1).f0)) := (blk_cell BK107.out 0).trans rfl
                      have hcz60_1 : wc.cell? ⟨gb107, 1, none⟩ = some (.int .i64 ((rd_T60 l0 x8_1).f1)) := (blk_cell BK107.out 1).trans rfl
                      have hcz60_2 : wc.cell? ⟨gb107, 2, none⟩ = some (.string ((rd_T60 l0 x8_1).f2)) := (blk_cell BK107.out 2).trans rfl
                      have hcz60_3 : wc.cell? ⟨gb107, 3, none⟩ = some (.string ((rd_T60 l0 x8_1).f3)) := (blk_cell BK107.out 3).trans rfl
                      have hfz60_0 := blk_frozen BK107.out 0
                      have hfz60_1 := blk_frozen BK107.out 1
                      have hfz60_2 := blk_frozen BK107.out 2
                      have hfz60_3 := blk_frozen BK107.out 3
                      go_upto_region 11 with (fail)
                      repeat (go_quiet (fail); go_upto_region 11 with (fail))
                      go_cut [79] (fun v79 wc => ∃ (kq : Nat) (x79_58 : Bool), v79 = .bool x79_58 ∧ Aside0 (xml_Check.j2 kq l0 x3_1 l0 (l0.length : Int) x8_1 x79_58 = some r) ∧ Aside0 (kq ≤ kj4) ∧ Aside0 (Kd.R k60 60 wc w.heap.size (fun k_ => k_ ≠ gb107) u3 x3_1) ∧ Aside0 (wc.heap[gb107]? = some (.cells #[.int .i64 ((rd_T60 l0 x8_1).f0), .int .i64 ((rd_T60 l0 x8_1).f1), .string ((rd_T60 l0 x8_1).f2), .string ((rd_T60 l0 x8_1).f3)] 60 (0, 0))) ∧ Aside0 (Below w.heap.size w wc))
                      case first =>
                        have H := HC59.out
                        clear HC59
                        by_cases c61 : (x3_1.length : Int) = 0
                        · rw [if_pos c61] at H
                          have c61b0 : ((x3_1.length : Int) == 0) = true := beq_iff_eq.mpr c61
                          have c61b1 : ((x3_1.length : Int) != 0) = false := bne_eq_false_iff_eq.mpr c61
                          clear c61
                          (first | rw [c61b0] | rw [c61b1] | (simp only [i64_w, i32_w]; rw [c61b0]) | skip)
                          have H' := Aside0.mk H
                          clear H
                          obtain ⟨Ao62, co62, eo62⟩ := Kd.R_slice HO_3.out
                          subst eo62
                          go_wp2
                          repeat (go_quiet (fail); try go_wp2)
                          go_meet
                          case rel => exact ⟨_, (true), (by first | rfl | (simp; done) | (simp [*]; done)), H', ⟨by have := HK1.out; have := HJ4.out; first | omega | exact Nat.le_refl _⟩, ⟨by (with_reducible repeat (first | apply Kd.R_alloc | apply Kd.R_drewN | apply Kd.R_drew)); exact HO_3.out⟩, ⟨by (with_reducible repeat (first | refine blk_drewN ?_ _ | refine blk_drew ?_ | refine blk_alloc ?_ _)); exact BK107.out⟩, ⟨by repeat (first | (with_reducible first | exact HB.out | apply below_alloc | apply pw_below_drewN | apply below_drew1 | refine below_set ?_ GE107.out) | exact HB.out)⟩⟩
                        · rw [if_neg c61] at H
                          have c61b0 : ((x3_1.length : Int) == 0) = false := beq_eq_false_iff_ne.mpr c61
                          have c61b1 : ((x3_1.length : Int) != 0) = true := bne_iff_ne.mpr c61
                          have c61b2 : ¬ (x3_1 = []) := fun h_ => c61 (by rw [h_]; rfl)
                          (first | rw [c61b0] | rw [c61b1] | rw [c61b2] | (simp only [i64_w, i32_w]; rw [c61b0]) | skip)
                          obtain ⟨ji63, hji63⟩ : ∃ j_ : Int, (wrap64 ((x3_1.length : Int) - 1)) = j_ := ⟨_, rfl⟩
                          replace H : (if 0 ≤ (ji63) then (if (ji63) < (x3_1.length : Int) then (if ((rd_T60 x3_1 (ji63)).f2).toList = ((rd_T60 l0 x8_1).f2).toList then (xml_Check.j2 kj4 l0 x3_1 l0 (l0.length : Int) x8_1 (((rd_T60 x3_1 (ji63)).f1) != ((rd_T60 l0 x8_1).f1))) else (xml_Check.j2 kj4 l0 x3_1 l0 (l0.length : Int) x8_1 true)) else (none)) else (none)) = some r := by first | (rw [hji63] at H; exact H) | (simp only [hji63] at H ⊢; exact H)
                          have hji63w : (IntKind.i64.wrap ((x3_1.length : Int) - 1)) = ji63 := (i64_w _).trans hji63
                          by_cases c64 : 0 ≤ (ji63)
                          · rw [if_pos c64] at H
                            have c64b0 : decide (0 ≤ (ji63)) = true := decide_eq_true c64
                            clear c64
                            by_cases c65 : (ji63) < (x3_1.length : Int)
                            · rw [if_pos c65] at H
                              have c65b0 : decide ((ji63) < (x3_1.length : Int)) = true := decide_eq_true c65
                              clear c65
                              by_cases c66 : ((rd_T60 x3_1 (ji63)).f2).toList = ((rd_T60 l0 x8_1).f2).toList
                              · rw [if_pos c66] at H
                                have c66b0 : (((rd_T60 x3_1 (ji63)).f2).toList == ((rd_T60 l0 x8_1).f2).toList) = true := beq_iff_eq.mpr c66
                                have c66b1 : (((rd_T60 x3_1 (ji63)).f2).toList != ((rd_T60 l0 x8_1).f2).toList) = false := bne_eq_false_iff_eq.mpr c66
                                clear c66
                                have H' := Aside0.mk H
                                clear H
                                obtain ⟨Ao67, co67, eo67⟩ := Kd.R_slice HO_3.out
                                subst eo67
                                have p114 : 0 ≤ ((ji63) : Int) := of_decide_eq_true (by first | (with_reducible assumption) | assumption)
                                have q114 : (ji63) < (x3_1.length : Int) := of_decide_eq_true (by first | (with_reducible assumption) | assumption)
                                obtain ⟨ad114, e114, hx114_0, hx114_1, hx114_2, hx114_3⟩ := at_T60 (Kd.R_reads' HO_3.out).2.2 (ji63) p114 q114
                                cases e114
                                replace p114 := eq_true p114
                                replace q114 := eq_true q114
                                have hcz68_0 : wc.cell? ⟨gb107, 0, none⟩ = some (.int .i64 ((rd_T60 l0 x8_1).f0)) := (blk_cell BK107.out 0).trans rfl
                                have hcz68_1 : wc.cell? ⟨gb107, 1, none⟩ = some (.int .i64 ((rd_T60 l0 x8_1).f1)) := (blk_cell BK107.out 1).trans rfl
                                have hcz68_2 : wc.cell? ⟨gb107, 2, none⟩ = some (.string ((rd_T60 l0 x8_1).f2)) := (blk_cell BK107.out 2).trans rfl
                                have hcz68_3 : wc.cell? ⟨gb107, 3, none⟩ = some (.string ((rd_T60 l0 x8_1).f3)) := (blk_cell BK107.out 3).trans rfl
                                have hfz68_0 := blk_frozen BK107.out 0
                                have hfz68_1 := blk_frozen BK107.out 1
                                have hfz68_2 := blk_frozen BK107.out 2
                                have hfz68_3 := blk_frozen BK107.out 3
                                have p115 : 0 ≤ ((ji63) : Int) := of_decide_eq_true (by first | (with_reducible assumption) | assumption)
                                have q115 : (ji63) < (x3_1.length : Int) := of_decide_eq_true (by first | (with_reducible assumption) | assumption)
                                obtain ⟨ad115, e115, hx115_0, hx115_1, hx115_2, hx115_3⟩ := at_T60 (Kd.R_reads' HO_3.out).2.2 (ji63) p115 q115
                                obtain rfl : ad114 = ad115 := (by injection e115)
                                replace p115 := eq_true p115
                                replace q115 := eq_true q115
                                go_wp2
                                repeat (go_quiet (fail); try go_wp2)
                                go_meet
                                case rel => exact ⟨_, ((((rd_T60 x3_1 (ji63)).f1) != ((rd_T60 l0 x8_1).f1))), (by first | rfl | (simp; done) | (simp only [← hji63] <;> (first | rfl | simp)) | (simp [*]; done)), H', ⟨by have := HK1.out; have := HJ4.out; first | omega | exact Nat.le_refl _⟩, ⟨by (with_reducible repeat (first | apply Kd.R_alloc | apply Kd.R_drewN | apply Kd.R_drew)); exact HO_3.out⟩, ⟨by (with_reducible repeat (first | refine blk_drewN ?_ _ | refine blk_drew ?_ | refine blk_alloc ?_ _)); exact BK107.out⟩, ⟨by repeat (first | (with_reducible first | exact HB.out | apply below_alloc | apply pw_below_drewN | apply below_drew1 | refine below_set ?_ GE107.out) | exact HB.out)⟩⟩
                              · rw [if_neg c66] at H
                                have c66b0 : (((rd_T60 x3_1 (ji63)).f2).toList == ((rd_T60 l0 x8_1).f2).toList) = false := beq_eq_false_iff_ne.mpr c66
                                have c66b1 : (((rd_T60 x3_1 (ji63)).f2).toList != ((rd_T60 l0 x8_1).f2).toList) = true := bne_iff_ne.mpr c66
                                have H' := Aside0.mk H
                                clear H
                                obtain ⟨Ao69, co69, eo69⟩ := Kd.R_slice HO_3.out
                                subst eo69
                                have p114 : 0 ≤ ((ji63) : Int) := of_decide_eq_true (by first | (with_reducible assumption) | assumption)
                                have q114 : (ji63) < (x3_1.length : Int) := of_decide_eq_true (by first | (with_reducible assumption) | assumption)
                                obtain ⟨ad114, e114, hx114_0, hx114_1, hx114_2, hx114_3⟩ := at_T60 (Kd.R_reads' HO_3.out).2.2 (ji63) p114 q114
                                cases e114
                                replace p114 := eq_true p114
                                replace q114 := eq_true q114
                                have hcz70_0 : wc.cell? ⟨gb107, 0, none⟩ = some (.int .i64 ((rd_T60 l0 x8_1).f0)) := (blk_cell BK107.out 0).trans rfl
                                have hcz70_1 : wc.cell? ⟨gb107, 1, none⟩ = some (.int .i64 ((rd_T60 l0 x8_1).f1)) := (blk_cell BK107.out 1).trans rfl
                                have hcz70_2 : wc.cell? ⟨gb107, 2, none⟩ = some (.string ((rd_T60 l0 x8_1).f2)) := (blk_cell BK107.out 2).trans rfl
                                have hcz70_3 : wc.cell? ⟨gb107, 3, none⟩ = some (.string ((rd_T60 l0 x8_1).f3)) := (blk_cell BK107.out 3).trans rfl
                                have hfz70_0 := blk_frozen BK107.out 0
                                have hfz70_1 := blk_frozen BK107.out 1
                                have hfz70_2 := blk_frozen BK107.out 2
                                have hfz70_3 := blk_frozen BK107.out 3
                                go_wp2
                                repeat (go_quiet (fail); try go_wp2)
                                go_meet
                                case rel => exact ⟨_, (true), (by first | rfl | (simp; done) | (simp [*]; done)), H', ⟨by have := HK1.out; have := HJ4.out; first | omega | exact Nat.le_refl _⟩, ⟨by (with_reducible repeat (first | apply Kd.R_alloc | apply Kd.R_drewN | apply Kd.R_drew)); exact HO_3.out⟩, ⟨by (with_reducible repeat (first | refine blk_drewN ?_ _ | refine blk_drew ?_ | refine blk_alloc ?_ _)); exact BK107.out⟩, ⟨by repeat (first | (with_reducible first | exact HB.out | apply below_alloc | apply pw_below_drewN | apply below_drew1 | refine below_set ?_ GE107.out) | exact HB.out)⟩⟩
                            · rw [if_neg c65] at H
                              exact absurd H (by simp)
                          · rw [if_neg c64] at H
                            exact absurd H (by simp)
                      case rest =>
                        clear HC59
                        try clear c1
                        try clear p1
                        try clear q1
                        try clear hx1
                        try clear c2
                        try clear c2b0
                        try clear p2
                        try clear c3
                        try clear c3b0
                        try clear c4
                        try clear c4b0
                        try clear c5
                        try clear c6
                        try clear p6
                        try clear c9
                        try clear c10
                        try clear c10b0
                        try clear p10
                        try clear q10
                        try clear hx10
                        try clear c11
                        try clear c11b0
                        try clear c11b1
                        try clear c11b2
                        try clear p11
                        try clear q11
                        try clear hx11
                        try clear c15
                        try clear c15b0
                        try clear c15b1
                        try clear c16
                        try clear c16b0
                        try clear c16b1
                        try clear c20
                        try clear c22
                        try clear c22b0
                        try clear c23
                        try clear c23b0
                        try clear c32
                        try clear c32b0
                        try clear c32b1
                        try clear c33
                        try clear c33b0
                        try clear c33b1
                        try clear c38
                        try clear c38b0
                        try clear c39
                        try clear c39b0
                        try clear c48
                        try clear c49
                        try clear c49b0
                        try clear c49b1
                        try clear c50
                        try clear c51
                        try clear c51b0
                        try clear c51b1
                        try clear c58
                        try clear c58b0
                        try clear c58b1
                        try clear c61
                        try clear c61b0
                        try clear c61b1
                        try clear c61b2
                        try clear c64
                        try clear c64b0
                        try clear p64
                        try clear c65
                        try clear c65b0
                        try clear c66
                        try clear c66b0
                        try clear c66b1
                        try clear hcz12_0
                        try clear hcz12_1
                        try clear hcz12_2
                        try clear hcz12_3
                        try clear hcz17_0
                        try clear hcz17_1
                        try clear hcz17_2
                        try clear hcz17_3
                        try clear hcz20_0
                        try clear hcz20_1
                        try clear hcz20_2
                        try clear hcz20_3
                        try clear hcz24_0
                        try clear hcz24_1
                        try clear hcz24_2
                        try clear hcz24_3
                        try clear hcz27_0
                        try clear hcz27_1
                        try clear hcz27_2
                        try clear hcz27_3
                        try clear hcz28_0
                        try clear hcz28_1
                        try clear hcz28_2
                        try clear hcz28_3
                        try clear hcz31_0
                        try clear hcz31_1
                        try clear hcz31_2
                        try clear hcz31_3
                        try clear hcz34_0
                        try clear hcz34_1
                        try clear hcz34_2
                        try clear hcz34_3
                        try clear hcz36_0
                        try clear hcz36_1
                        try clear hcz36_2
                        try clear hcz36_3
                        try clear hcz40_0
                        try clear hcz40_1
                        try clear hcz40_2
                        try clear hcz40_3
                        try clear hcz42_0
                        try clear hcz42_1
                        try clear hcz42_2
                        try clear hcz42_3
                        try clear hcz43_0
                        try clear hcz43_1
                        try clear hcz43_2
                        try clear hcz43_3
                        try clear hcz45_0
                        try clear hcz45_1
                        try clear hcz45_2
                        try clear hcz45_3
                        try clear hcz46_0
                        try clear hcz46_1
                        try clear hcz46_2
                        try clear hcz46_3
                        try clear hcz52_0
                        try clear hcz52_1
                        try clear hcz52_2
                        try clear hcz52_3
                        try clear hcz55_0
                        try clear hcz55_1
                        try clear hcz55_2
                        try clear hcz55_3
                        try clear hcz60_0
                        try clear hcz60_1
                        try clear hcz60_2
                        try clear hcz60_3
                        try clear hcz68_0
                        try clear hcz68_1
                        try clear hcz68_2
                        try clear hcz68_3
                        try clear hcz70_0
                        try clear hcz70_1
                        try clear hcz70_2
                        try clear hcz70_3
                        try clear hcz7_0
                        try clear hcz7_1
                        try clear hcz7_2
                        try clear hcz7_3
                        try clear hfz12_0
                        try clear hfz12_1
                        try clear hfz12_2
                        try clear hfz12_3
                        try clear hfz17_0
                        try clear hfz17_1
                        try clear hfz17_2
                        try clear hfz17_3
                        try clear hfz20_0
                        try clear hfz20_1
                        try clear hfz20_2
                        try clear hfz20_3
                        try clear hfz24_0
                        try clear hfz24_1
                        try clear hfz24_2
                        try clear hfz24_3
                        try clear hfz27_0
                        try clear hfz27_1
                        try clear hfz27_2
                        try clear hfz27_3
                        try clear hfz28_0
                        try clear hfz28_1
                        try clear hfz28_2
                        try clear hfz28_3
                        try clear hfz31_0
                        try clear hfz31_1
                        try clear hfz31_2
                        try clear hfz31_3
                        try clear hfz34_0
                        try clear hfz34_1
                        try clear hfz34_2
                        try clear hfz34_3
                        try clear hfz36_0
                        try clear hfz36_1
                        try clear hfz36_2
                        try clear hfz36_3
                        try clear hfz40_0
                        try clear hfz40_1
                        try clear hfz40_2
                        try clear hfz40_3
                        try clear hfz42_0
                        try clear hfz42_1
                        try clear hfz42_2
                        try clear hfz42_3
                        try clear hfz43_0
                        try clear hfz43_1
                        try clear hfz43_2
                        try clear hfz43_3
                        try clear hfz45_0
                        try clear hfz45_1
                        try clear hfz45_2
                        try clear hfz45_3
                        try clear hfz46_0
                        try clear hfz46_1
                        try clear hfz46_2
                        try clear hfz46_3
                        try clear hfz52_0
                        try clear hfz52_1
                        try clear hfz52_2
                        try clear hfz52_3
                        try clear hfz55_0
                        try clear hfz55_1
                        try clear hfz55_2
                        try clear hfz55_3
                        try clear hfz60_0
                        try clear hfz60_1
                        try clear hfz60_2
                        try clear hfz60_3
                        try clear hfz68_0
                        try clear hfz68_1
                        try clear hfz68_2
                        try clear hfz68_3
                        try clear hfz70_0
                        try clear hfz70_1
                        try clear hfz70_2
                        try clear hfz70_3
                        try clear hfz7_0
                        try clear hfz7_1
                        try clear hfz7_2
                        try clear hfz7_3
                        try clear hx106_0
                        try clear hx106_1
                        try clear hx106_2
                        try clear hx106_3
                        try clear hx109_0
                        try clear hx109_1
                        try clear hx109_2
                        try clear hx109_3
                        try clear hx110_0
                        try clear hx110_1
                        try clear hx110_2
                        try clear hx110_3
                        try clear hx114_0
                        try clear hx114_1
                        try clear hx114_2
                        try clear hx114_3
                        try clear hx115_0
                        try clear hx115_1
                        try clear hx115_2
                        try clear hx115_3
                        try clear p1
                        try clear p10
                        try clear p106
                        try clear p109
                        try clear p11
                        try clear p110
                        try clear p114
                        try clear p115
                        try clear p2
                        try clear p6
                        try clear q1
                        try clear q10
                        try clear q106
                        try clear q109
                        try clear q11
                        try clear q110
                        try clear q114
                        try clear q115
                        obtain ⟨kq, x79_58, rfl, HA, HJ58, HO_3, BK107, HB⟩ := hcut
                        cases kq with
                        | zero => exact absurd HA.out (by simp [xml_Check.j2])
                        | succ kj58 =>
                          have H := HA.out
                          clear HA
                          simp only [xml_Check.j2] at H
                          by_cases c71 : x79_58 = true
                          · subst c71
                            have H1 : (some 70) = some r := by rw [if_pos rfl] at H; exact H
                            clear H
                            have H := H1
                            clear H1
                            obtain rfl := Option.some.inj H
                            go_wp2
                            repeat (go_quiet (fail); try go_wp2)
                            go_ret
                            exact ⟨by first | rfl | (simp [errW_none, errW_some] <;> rfl) | (simp [*, errW_none, errW_some] <;> rfl), by repeat (first | (with_reducible first | exact HB.out | apply below_alloc | apply pw_below_drewN | apply below_drew1 | refine below_set ?_ GE107.out) | exact HB.out)⟩
                          · replace c71 := Bool.eq_false_iff.mpr c71
                            subst c71
                            have H1 : (if 0 ≤ (wrap64 ((x3_1.length : Int) - 1)) then (if (wrap64 ((x3_1.length : Int) - 1)) ≤ (x3_1.length : Int) then ((some (x3_1.take ((wrap64 ((x3_1.length : Int) - 1)) : Int).toNat : List (S60))).bind fun y116 => (if (y116.length : Int) > 16 then (some 70) else (xml_Check.l0 kj58 l0 y116 l0 (l0.length : Int) (wrap64 (x8_1 + 1))))) else (none)) else (none)) = some r := by rw [if_neg (show ¬ (false = true) by decide)] at H; exact H
                            clear H
                            have H := H1
                            clear H1
                            obtain ⟨ji72, hji72⟩ : ∃ j_ : Int, (wrap64 ((x3_1.length : Int) - 1)) = j_ := ⟨_, rfl⟩
                            replace H : (if 0 ≤ (ji72) then (if (ji72) ≤ (x3_1.length : Int) then ((some (x3_1.take ((ji72) : Int).toNat : List (S60))).bind fun y116 => (if (y116.length : Int) > 16 then (some 70) else (xml_Check.l0 kj58 l0 y116 l0 (l0.length : Int) (wrap64 (x8_1 + 1))))) else (none)) else (none)) = some r := by first | (rw [hji72] at H; exact H) | (simp only [hji72] at H ⊢; exact H)
                            have hji72w : (IntKind.i64.wrap ((x3_1.length : Int) - 1)) = ji72 := (i64_w _).trans hji72
                            by_cases c73 : 0 ≤ (ji72)
                            · rw [if_pos c73] at H
                              have c73b0 := eq_true c73
                              have c73b1 : decide (0 ≤ (ji72)) = true := decide_eq_true c73
                              clear c73
                              by_cases c74 : (ji72) ≤ (x3_1.length : Int)
                              · rw [if_pos c74] at H
                                have c74b0 := eq_true c74
                                have c74b1 : decide ((ji72) ≤ (x3_1.length : Int)) = true := decide_eq_true c74
                                clear c74
                                obtain ⟨y116, hy116⟩ : ∃ y_ : List (S60), y_ = (x3_1.take ((ji72) : Int).toNat) := ⟨_, rfl⟩
                                replace H : (if (y116.length : Int) > 16 then (some 70) else (xml_Check.l0 kj58 l0 y116 l0 (l0.length : Int) (wrap64 (x8_1 + 1)))) = some r := by first | (rw [hy116]; with_reducible exact H) | (have H2_ := (Option.bind_some _ _).symm.trans H; rw [hy116]; with_reducible exact H2_) | (have H2_ := (Option.bind_some _ _).symm.trans H; with_reducible exact H2_) | with_reducible exact H | (rw [hy116]; exact H) | exact H
                                have Ny116 := Aside0.mk hy116
                                clear hy116
                                by_cases c75 : (y116.length : Int) > 16
                                · rw [if_pos c75] at H
                                  have c75b0 : decide (16 < (y116.length : Int)) = true := decide_eq_true c75
                                  have c75b1 : decide (16 < y116.length) = true := decide_eq_true (by omega)
                                  clear c75
                                  obtain rfl := Option.some.inj H
                                  obtain ⟨Ao76, co76, eo76⟩ := Kd.R_slice HO_3.out
                                  subst eo76
                                  have q77 : ((ji72) : Int) ≤ ((x3_1.length : Int) : Int) := of_decide_eq_true (by first | (with_reducible assumption) | assumption)
                                  obtain ⟨i077, hi077, _, hsz77, _⟩ := info_parts info60
                                  have hcut77 := cut_to (P := Tryz.prog) 48 60 .i64 Tryz.underlying48 hi077 Ao76 x3_1.length co76 (ji72) (of_decide_eq_true (by first | (with_reducible assumption) | assumption)) q77 (Kd.R_reads' HO_3.out).2.1
                                  have hr77 := Kd.R_take (m := ((ji72) : Int).toNat) HO_3.out (by omega)
                                  have hy77 : y116.length = ((ji72) : Int).toNat := (by rw [Ny116.out, List.length_take]; omega)
                                  rw [← Ny116.out] at hr77
                                  rw [← hy77] at hr77 hcut77
                                  clear hy77 hi077 hsz77 HO_3
                                  have HO118 := Aside0.mk hr77
                                  clear hr77
                                  replace q77 := eq_true q77
                                  go_wp2
                                  repeat (go_quiet (fail); try go_wp2)
                                  go_ret
                                  exact ⟨by first | rfl | (simp [errW_none, errW_some] <;> rfl) | (simp only [← hji72]; first | rfl | (simp [errW_none, errW_some] <;> rfl)) | (simp [*, errW_none, errW_some] <;> rfl), by repeat (first | (with_reducible first | exact HB.out | apply below_alloc | apply pw_below_drewN | apply below_drew1 | refine below_set ?_ GE107.out) | exact HB.out)⟩
                                · rw [if_neg c75] at H
                                  have c75b0 : decide (16 < (y116.length : Int)) = false := decide_eq_false c75
                                  have c75b1 : decide (16 < y116.length) = false := decide_eq_false (by omega)
                                  clear c75
                                  have H' := Aside0.mk H
                                  clear H
                                  obtain ⟨Ao78, co78, eo78⟩ := Kd.R_slice HO_3.out
                                  subst eo78
                                  have q79 : ((ji72) : Int) ≤ ((x3_1.length : Int) : Int) := of_decide_eq_true (by first | (with_reducible assumption) | assumption)
                                  obtain ⟨i079, hi079, _, hsz79, _⟩ := info_parts info60
                                  have hcut79 := cut_to (P := Tryz.prog) 48 60 .i64 Tryz.underlying48 hi079 Ao78 x3_1.length co78 (ji72) (of_decide_eq_true (by first | (with_reducible assumption) | assumption)) q79 (Kd.R_reads' HO_3.out).2.1
                                  have hr79 := Kd.R_take (m := ((ji72) : Int).toNat) HO_3.out (by omega)
                                  have hy79 : y116.length = ((ji72) : Int).toNat := (by rw [Ny116.out, List.length_take]; omega)
                                  rw [← Ny116.out] at hr79
                                  rw [← hy79] at hr79 hcut79
                                  clear hy79 hi079 hsz79 HO_3
                                  have HO118 := Aside0.mk hr79
                                  clear hr79
                                  replace q79 := eq_true q79
                                  go_wp2
                                  repeat (go_quiet (fail); try go_wp2)
                                  go_roundg kj58
                                  case measure => have := HK1.out; have := HJ4.out; have := HJ58.out; omega
                                  case rel => exact ⟨(y116), (wrap64 (x8_1 + 1)), (by first | rfl | (simp; done) | (simp [*]; done)), H', ⟨by have := HK1.out; have := HJ4.out; have := HJ58.out; omega⟩, ⟨by (with_reducible repeat (first | apply Kd.R_alloc | apply Kd.R_drewN | apply Kd.R_drew)); exact Kd.R_mono HO118.out (fun _ hk => trivial)⟩, ⟨by repeat (first | (with_reducible first | exact HB.out | apply below_alloc | apply pw_below_drewN | apply below_drew1 | refine below_set ?_ GE107.out) | exact HB.out)⟩⟩
                              · rw [if_neg c74] at H
                                exact absurd H (by simp)
                            · rw [if_neg c73] at H
                              exact absurd H (by simp)
                    · rw [if_neg c58] at H
                      have c58b0 : (((rd_T60 l0 x8_1).f0) == 2) = false := beq_eq_false_iff_ne.mpr c58
                      have c58b1 : (((rd_T60 l0 x8_1).f0) != 2) = true := bne_iff_ne.mpr c58
                      by_cases c80 : (x3_1.length : Int) > 16
                      · rw [if_pos c80] at H
                        have c80b0 : decide (16 < (x3_1.length : Int)) = true := decide_eq_true c80
                        have c80b1 : decide (16 < x3_1.length) = true := decide_eq_true (by omega)
                        clear c80
                        obtain rfl := Option.some.inj H
                        have hcz81_0 : wc.cell? ⟨gb107, 0, none⟩ = some (.int .i64 ((rd_T60 l0 x8_1).f0)) := (blk_cell BK107.out 0).trans rfl
                        have hcz81_1 : wc.cell? ⟨gb107, 1, none⟩ = some (.int .i64 ((rd_T60 l0 x8_1).f1)) := (blk_cell BK107.out 1).trans rfl
                        have hcz81_2 : wc.cell? ⟨gb107, 2, none⟩ = some (.string ((rd_T60 l0 x8_1).f2)) := (blk_cell BK107.out 2).trans rfl
                        have hcz81_3 : wc.cell? ⟨gb107, 3, none⟩ = some (.string ((rd_T60 l0 x8_1).f3)) := (blk_cell BK107.out 3).trans rfl
                        have hfz81_0 := blk_frozen BK107.out 0
                        have hfz81_1 := blk_frozen BK107.out 1
                        have hfz81_2 := blk_frozen BK107.out 2
                        have hfz81_3 := blk_frozen BK107.out 3
                        obtain ⟨Ao82, co82, eo82⟩ := Kd.R_slice HO_3.out
                        subst eo82
                        go_wp2
                        repeat (go_quiet (fail); try go_wp2)
                        go_ret
                        exact ⟨by first | rfl | (simp [errW_none, errW_some] <;> rfl) | (simp [*, errW_none, errW_some] <;> rfl), by repeat (first | (with_reducible first | exact HB.out | apply below_alloc | apply pw_below_drewN | apply below_drew1 | refine below_set ?_ GE107.out) | exact HB.out)⟩
                      · rw [if_neg c80] at H
                        have c80b0 : decide (16 < (x3_1.length : Int)) = false := decide_eq_false c80
                        have c80b1 : decide (16 < x3_1.length) = false := decide_eq_false (by omega)
                        clear c80
                        have H' := Aside0.mk H
                        clear H
                        have hcz83_0 : wc.cell? ⟨gb107, 0, none⟩ = some (.int .i64 ((rd_T60 l0 x8_1).f0)) := (blk_cell BK107.out 0).trans rfl
                        have hcz83_1 : wc.cell? ⟨gb107, 1, none⟩ = some (.int .i64 ((rd_T60 l0 x8_1).f1)) := (blk_cell BK107.out 1).trans rfl
                        have hcz83_2 : wc.cell? ⟨gb107, 2, none⟩ = some (.string ((rd_T60 l0 x8_1).f2)) := (blk_cell BK107.out 2).trans rfl
                        have hcz83_3 : wc.cell? ⟨gb107, 3, none⟩ = some (.string ((rd_T60 l0 x8_1).f3)) := (blk_cell BK107.out 3).trans rfl
                        have hfz83_0 := blk_frozen BK107.out 0
                        have hfz83_1 := blk_frozen BK107.out 1
                        have hfz83_2 := blk_frozen BK107.out 2
                        have hfz83_3 := blk_frozen BK107.out 3
                        obtain ⟨Ao84, co84, eo84⟩ := Kd.R_slice HO_3.out
                        subst eo84
                        go_wp2
                        repeat (go_quiet (fail); try go_wp2)
                        go_roundg kj4
                        case measure => have := HK1.out; have := HJ4.out; omega
                        case rel => exact ⟨(x3_1), (wrap64 (x8_1 + 1)), (by first | rfl | (simp; done) | (simp [*]; done)), H', ⟨by have := HK1.out; have := HJ4.out; omega⟩, ⟨by (with_reducible repeat (first | apply Kd.R_alloc | apply Kd.R_drewN | apply Kd.R_drew)); exact Kd.R_mono HO_3.out (fun _ hk => trivial)⟩, ⟨by repeat (first | (with_reducible first | exact HB.out | apply below_alloc | apply pw_below_drewN | apply below_drew1 | refine below_set ?_ GE107.out) | exact HB.out)⟩⟩
          · rw [if_neg c4] at H
            exact absurd H (by simp)
        · rw [if_neg c3] at H
          exact absurd H (by simp)
      · rw [if_neg c2] at H
        have c2b0 : decide (x8_1 < (l0.length : Int)) = false := decide_eq_false c2
        clear c2
        by_cases c85 : (l0.length : Int) = 0
        · rw [if_pos c85] at H
          have c85b0 : ((l0.length : Int) == 0) = true := beq_iff_eq.mpr c85
          have c85b1 : ((l0.length : Int) != 0) = false := bne_eq_false_iff_eq.mpr c85
          clear c85
          obtain rfl := Option.some.inj H
          go_wp2
          repeat (go_quiet (fail); try go_wp2)
          go_ret
          exact ⟨by first | rfl | (simp [errW_none, errW_some] <;> rfl) | (simp [*, errW_none, errW_some] <;> rfl), by repeat (first | (with_reducible first | exact HB.out | apply below_alloc | apply pw_below_drewN | apply below_drew1) | exact HB.out)⟩
        · rw [if_neg c85] at H
          have c85b0 : ((l0.length : Int) == 0) = false := beq_eq_false_iff_ne.mpr c85
          have c85b1 : ((l0.length : Int) != 0) = true := bne_iff_ne.mpr c85
          have c85b2 : ¬ (l0 = []) := fun h_ => c85 (by rw [h_]; rfl)
          by_cases c86 : (x3_1.length : Int) > 0
          · rw [if_pos c86] at H
            have c86b0 : decide (0 < (x3_1.length : Int)) = true := decide_eq_true c86
            have c86b1 : decide (0 < x3_1.length) = true := decide_eq_true (by omega)
            clear c86
            obtain rfl := Option.some.inj H
            obtain ⟨Ao87, co87, eo87⟩ := Kd.R_slice HO_3.out
            subst eo87
            go_wp2
            repeat (go_quiet (fail); try go_wp2)
            go_ret
            exact ⟨by first | rfl | (simp [errW_none, errW_some] <;> rfl) | (simp [*, errW_none, errW_some] <;> rfl), by repeat (first | (with_reducible first | exact HB.out | apply below_alloc | apply pw_below_drewN | apply below_drew1) | exact HB.out)⟩
          · rw [if_neg c86] at H
            have c86b0 : decide (0 < (x3_1.length : Int)) = false := decide_eq_false c86
            have c86b1 : decide (0 < x3_1.length) = false := decide_eq_false (by omega)
            clear c86
            obtain rfl := Option.some.inj H
            obtain ⟨Ao88, co88, eo88⟩ := Kd.R_slice HO_3.out
            subst eo88
            go_wp2
            repeat (go_quiet (fail); try go_wp2)
            go_ret
            exact ⟨by first | rfl | (simp [errW_none, errW_some] <;> rfl) | (simp [*, errW_none, errW_some] <;> rfl), by repeat (first | (with_reducible first | exact HB.out | apply below_alloc | apply pw_below_drewN | apply below_drew1) | exact HB.out)⟩

end Go.Proofs.YtpaopeiegaijiaaGreatDoor.XXmlChars
