-- written by wip/xprint.py: the kit's print with functions walked by hand
import Derived.Test.YtipfekjmcddelaaGreatDoorPk
import Derived.Test.YtipfekjmcddelaaGreatDoorXHttpReadsx0
import Derived.Test.YtipfekjmcddelaaGreatDoorXHttpReadsx2
import Derived.Test.YtipfekjmcddelaaGreatDoorXHttpReadsx9
namespace Go.Proofs.YtipfekjmcddelaaGreatDoor.XHttpReads
open Go.RowKit Go.Proofs.YtipfekjmcddelaaGreatDoorW.PrintWords Go.Proofs.YtipfekjmcddelaaGreatDoorW.PrintLast Go.Proofs.YtipfekjmcddelaaGreatDoorW.PrintMore
attribute [local go_sem] max2_int min2_int max_two min_two max_three min_three max_four min_four   -- for this text's walks alone
set_option linter.unusedVariables false
set_option linter.unusedSimpArgs false

mutual
def http_parseb.j0 : Nat → ByteArray → Int → Bool → Option (ByteArray × (List (S62)) × ByteArray × Int × Int)
 | 0, _, _, _ => none
 | k + 1, x0, x7, x25 => if x25 = true then (some ((⟨#[]⟩ : ByteArray), ([] : List (S62)), (⟨#[]⟩ : ByteArray), 0, 91)) else (if x7 < 0 then (some ((⟨#[]⟩ : ByteArray), ([] : List (S62)), (⟨#[]⟩ : ByteArray), 0, 80)) else (if 0 ≤ x7 then (if x7 ≤ (x0.size : Int) then ((strings_Split.f (x0.extract 0 (x7 : Int).toNat) (⟨#[13, 10]⟩ : ByteArray)).bind fun t259 => (if 1 ≤ (t259.length : Int) then ((http_fields.f k (t259.drop 1)).bind fun bt266 => (if bt266.2.2 = true then (if 0 < (t259.length : Int) then ((http_ParseResponse_1.f k (rdOf ByteArray.empty t259 0)).bind fun t272 => (http_parseb.j1 k x0 x7 t259 bt266.1 bt266.2.1 (!t272))) else (none)) else (http_parseb.j1 k x0 x7 t259 bt266.1 bt266.2.1 true))) else (none))) else (none)) else (none)))
def http_parseb.j1 : Nat → ByteArray → Int → List ByteArray → List (S62) → Int → Bool → Option (ByteArray × (List (S62)) × ByteArray × Int × Int)
 | 0, _, _, _, _, _, _ => none
 | k + 1, x0, x7, x8, x9, x10, x50 => if x50 = true then (some ((⟨#[]⟩ : ByteArray), ([] : List (S62)), (⟨#[]⟩ : ByteArray), 0, 80)) else (if (wrap64 ((x0.size : Int) - (wrap64 (x7 + 4)))) < x10 then (some ((⟨#[]⟩ : ByteArray), ([] : List (S62)), (⟨#[]⟩ : ByteArray), 0, 91)) else (if 0 < (x8.length : Int) then (if 0 ≤ (wrap64 (x7 + 4)) then (if (wrap64 (x7 + 4)) ≤ (wrap64 ((wrap64 (x7 + 4)) + x10)) then (if (wrap64 ((wrap64 (x7 + 4)) + x10)) ≤ (x0.size : Int) then (some (rdOf ByteArray.empty x8 0, x9, x0.extract ((wrap64 (x7 + 4)) : Int).toNat ((wrap64 ((wrap64 (x7 + 4)) + x10)) : Int).toNat, wrap64 ((wrap64 (x7 + 4)) + x10), 0)) else (none)) else (none)) else (none)) else (none)))
end
def http_parseb.f (k : Nat) (a0 : ByteArray) : Option (ByteArray × (List (S62)) × ByteArray × Int × Int) := if 0 ≤ (mn (a0.size : Int) 8192) then (if (mn (a0.size : Int) 8192) ≤ (a0.size : Int) then ((strings_Index.f (a0.extract 0 ((mn (a0.size : Int) 8192) : Int).toNat) (⟨#[13, 10, 13, 10]⟩ : ByteArray)).bind fun t258 => (if t258 < 0 then (http_parseb.j0 k a0 t258 (decide ((a0.size : Int) < 8192))) else (http_parseb.j0 k a0 t258 false))) else (none)) else (none)
def http_parseb.T13 : Bool × List (List Nat × List Nat) := (true, [([], []), ([0], [0]), ([1], [1]), ([], []), ([], []), ([], []), ([], []), ([], []), ([6, 7], [6, 7]), ([4, 5, 8], [4, 5, 8]), ([2, 3, 9], [2, 3, 9]), ([], []), ([], []), ([11, 12], [11, 12]), ([10, 0, 1, 2, 3, 4, 5, 6, 7, 8, 9, 10], [10]), ([13, 14, 0, 1, 2, 3, 4, 5, 6, 7, 8, 9, 10, 11, 12, 13, 14], [13]), ([15, 0, 1, 2, 3, 4, 5, 6, 7, 8, 9, 10, 11, 12, 13, 14, 15], [])])
def http_parseb.B13 : List Nat := [0, 1, 3, 0, 0, 0, 0, 0, 192, 496, 1023, 0, 0, 6144, 2047, 32767, 65535]
theorem http_parseb.tab13 : rtab .any (opsOf Tryz.f18 13) = http_parseb.T13 := by kernel_rfl
theorem http_parseb.bits13 : waitsOk http_parseb.T13.2 http_parseb.B13 = true := by kernel_rfl
set_option maxHeartbeats 8000000 in
set_option maxRecDepth 100000 in
theorem http_parseb.calls (k : Nat) (a0 : ByteArray) (r1 : ByteArray) (r2 : List (S62)) (r3 : ByteArray) (r4 : Int) (r5 : Int) (w : World) (hT : LaidM w) (h : http_parseb.f k a0 = some (r1, r2, r3, r4, r5)) :
  Calls Tryz.prog 18 #[.string a0, .func (.func 25) #[] #[]] w fun e w' => ∃ v1_ : Value, e = .returned (.tuple #[.agg #[.string r1, v1_, .string r3], .int .i64 r4, .int .i64 r5]) ∧ Kd.R k62 62 w' w.heap.size (fun _ => True) v1_ r2 ∧ Below w.heap.size w w' := by
 have hu50 := Tryz.underlying50
 have HB := Aside0.mk (Below.refl w.heap.size w)
 have HT := Aside0.mk hT
 clear hT
 have H : (if 0 ≤ (mn (a0.size : Int) 8192) then (if (mn (a0.size : Int) 8192) ≤ (a0.size : Int) then ((strings_Index.f (a0.extract 0 ((mn (a0.size : Int) 8192) : Int).toNat) (⟨#[13, 10, 13, 10]⟩ : ByteArray)).bind fun t258 => (if t258 < 0 then (http_parseb.j0 k a0 t258 (decide ((a0.size : Int) < 8192))) else (http_parseb.j0 k a0 t258 false))) else (none)) else (none)) = some (r1, r2, r3, r4, r5) := h
 clear h
 obtain ⟨ji2, hji2⟩ : ∃ j_ : Int, (mn (a0.size : Int) 8192) = j_ := ⟨_, rfl⟩
 replace H : (if 0 ≤ (ji2) then (if (ji2) ≤ (a0.size : Int) then ((strings_Index.f (a0.extract 0 ((ji2) : Int).toNat) (⟨#[13, 10, 13, 10]⟩ : ByteArray)).bind fun t258 => (if t258 < 0 then (http_parseb.j0 k a0 t258 (decide ((a0.size : Int) < 8192))) else (http_parseb.j0 k a0 t258 false))) else (none)) else (none)) = some (r1, r2, r3, r4, r5) := by first | (rw [hji2] at H; exact H) | (simp only [hji2] at H ⊢; exact H)
 (try (have hji2h : ji2 ≤ 8192 := by (rw [← hji2]; unfold mn; (repeat' split) <;> omega)))
 (try (have hji2g : ji2 ≤ 64 := by omega))
 (try (have hji2l : 0 ≤ ji2 := by (rw [← hji2]; unfold mn; (repeat' split) <;> omega)))
 (try (have hji2m : 0 ≤ ji2 := by omega))
 have hji2_ : (if 8192 < (a0.size : Int) then 8192 else (a0.size : Int)) = ji2 := hji2
 by_cases c3 : 0 ≤ (ji2)
 ·rw [if_pos c3] at H
  have c3b0 := eq_true c3
  have c3b1 : decide (0 ≤ (ji2)) = true := decide_eq_true c3
  clear c3
  by_cases c4 : (ji2) ≤ (a0.size : Int)
  ·rw [if_pos c4] at H
   have c4b0 := eq_true c4
   have c4b1 : decide ((ji2) ≤ (a0.size : Int)) = true := decide_eq_true c4
   clear c4
   replace H := Option.bind_eq_some_iff.mp H
   obtain ⟨t258, A50, H⟩ := H
   replace H : (if t258 < 0 then (http_parseb.j0 k a0 t258 (decide ((a0.size : Int) < 8192))) else (http_parseb.j0 k a0 t258 false)) = some (r1, r2, r3, r4, r5) := H
   have A5 := Aside0.mk A50
   clear A50
   have HC6 := Aside0.mk H
   clear H
   go_enter Tryz.func18, Tryz.ntmps18
   go_upto_region 2 with (first | ((with_reducible refine gate_dst (N := 4) rfl ?_); (try (refine gate_guard (by rfl) ?_; dsimp only)); refine box_event ?hg (N := 4) ?hd (cs := #[.string (⟨#[]⟩ : ByteArray), .slice none 0 0, .string (⟨#[]⟩ : ByteArray)]) (t := 50) ?hr ?_; (case hd => rfl); (case hg => rfl); (case hr => first | (go_simp; done) | (go_simp; rfl)); intro gb257 hg w7 hbox hb; have n0_ := Aside0.mk (below_step (by repeat (first | (with_reducible first | exact HB.out | apply below_alloc | apply pw_below_drewN | apply below_drew1) | exact HB.out)) hb); have n1_ := Aside0.mk (hbox); have n2_ := Aside0.mk ((by rw [hg]; exact (below_size (by repeat (first | (with_reducible first | exact HB.out | apply below_alloc | apply pw_below_drewN | apply below_drew1) | exact HB.out))) : w.heap.size ≤ gb257)); have n3_ := Aside0.mk ((by rw [hg]; exact (below_size (by repeat (first | (with_reducible first | exact HB.out | apply below_alloc | apply pw_below_drewN | apply below_drew1) | exact HB.out))) : w.heap.size ≤ gb257)); clear HB; have HB := n0_; have BK257 := n1_; have GW257 := n2_; have GE257 := n3_; clear n0_ n1_ n2_ n3_; clear hb hbox hg) | ((with_reducible refine gate_callee (f := 35) rfl ?_); refine goesL_ (some 18) rfl rfl Tryz.func35 (by kernel_rfl) rfl #[.string (a0.extract 0 ((ji2) : Int).toNat), .string (⟨#[13, 10, 13, 10]⟩ : ByteArray)] rfl (by (try simp only [List.map_toArray, List.map_cons, List.map_nil]); first | done | (simp only [hji2]; rfl) | rfl | (simp only [List.length_drop, List.length_take]; rfl)) ?_; (with_reducible refine (strings_Index.calls (a0.extract 0 ((ji2) : Int).toNat) (⟨#[13, 10, 13, 10]⟩ : ByteArray) t258 _ ?side1 A5.out).mono ?_); (case side1 => exact LaidM.below HT.out (by repeat (first | (with_reducible first | exact HB.out | apply below_alloc | apply pw_below_drewN | apply below_drew1 | refine below_set ?_ GE257.out) | exact HB.out))); rintro e w8 ⟨rfl, hb⟩; refine ⟨_, rfl, ?_⟩; have n0_ := Aside0.mk (blk_below (g := gb257) (o := .cells #[.string (⟨#[]⟩ : ByteArray), .slice none 0 0, .string (⟨#[]⟩ : ByteArray)] 50 (0, 0)) (by (with_reducible repeat (first | refine blk_drewN ?_ _ | refine blk_drew ?_ | refine blk_alloc ?_ _)); exact BK257.out) hb); have n1_ := Aside0.mk (below_step (by repeat (first | (with_reducible first | exact HB.out | apply below_alloc | apply pw_below_drewN | apply below_drew1 | refine below_set ?_ GE257.out) | exact HB.out)) hb); clear BK257; clear HB; have BK257 := n0_; have HB := n1_; clear n0_ n1_; (try clear hb); (try clear hb2); (try clear hk); (try clear hi)))
   (try simp only [Act.put, List.setIfInBounds_toArray, List.set_cons_zero, List.set_cons_succ])
   go_cut [25] (fun v25 wc => ∃ (kq : Nat) (x25_5 : Bool), v25 = .bool x25_5 ∧ Aside0 (http_parseb.j0 kq a0 t258 x25_5 = some (r1, r2, r3, r4, r5)) ∧ Aside0 (kq ≤ k) ∧ Aside0 (wc.heap[gb257]? = some (.cells #[.string (⟨#[]⟩ : ByteArray), (.slice none 0 0), .string (⟨#[]⟩ : ByteArray)] 50 (0, 0))) ∧ Aside0 (Below w.heap.size w wc))
   case first =>
    have H := HC6.out
    clear HC6
    by_cases c9 : t258 < 0
    ·rw [if_pos c9] at H
     have c9b0 : decide (t258 < 0) = true := decide_eq_true c9
     clear c9
     (first | rw [c9b0] | (simp only [i64_w, i32_w]; rw [c9b0]) | skip)
     have H' := Aside0.mk H
     clear H
     go_wp2
     go_meet
     case rel => exact ⟨_, (decide ((a0.size : Int) < 8192)), (by first | rfl | (simp; done) | (simp [*]; done)), H', ⟨by first | omega | exact Nat.le_refl _⟩, ⟨by (with_reducible repeat (first | refine blk_drewN ?_ _ | refine blk_drew ?_ | refine blk_alloc ?_ _)); exact BK257.out⟩, ⟨by repeat (first | (with_reducible first | exact HB.out | apply below_alloc | apply pw_below_drewN | apply below_drew1 | refine below_set ?_ GE257.out) | exact HB.out)⟩⟩
    ·rw [if_neg c9] at H
     have c9b0 : decide (t258 < 0) = false := decide_eq_false c9
     clear c9
     (first | rw [c9b0] | (simp only [i64_w, i32_w]; rw [c9b0]) | skip)
     have H' := Aside0.mk H
     clear H
     go_wp2
     go_meet
     case rel => exact ⟨_, (false), (by first | rfl | (simp; done) | (simp [*]; done)), H', ⟨by first | omega | exact Nat.le_refl _⟩, ⟨by (with_reducible repeat (first | refine blk_drewN ?_ _ | refine blk_drew ?_ | refine blk_alloc ?_ _)); exact BK257.out⟩, ⟨by repeat (first | (with_reducible first | exact HB.out | apply below_alloc | apply pw_below_drewN | apply below_drew1 | refine below_set ?_ GE257.out) | exact HB.out)⟩⟩
   case rest =>
    clear HC6
    try clear c1
    try clear p2
    try clear c3
    try clear c3b0
    try clear c3b1
    try clear c4
    try clear c4b0
    try clear c4b1
    try clear c9
    try clear c9b0
    obtain ⟨kq, x25_5, rfl, HA, HJ5, BK257, HB⟩ := hcut
    cases kq with
    | zero => exact absurd HA.out (by simp [http_parseb.j0])
    | succ kj5 =>
     have H := HA.out
     clear HA
     simp only [http_parseb.j0] at H
     by_cases c10 : x25_5 = true
     ·subst c10
      have H1 : (some ((⟨#[]⟩ : ByteArray), ([] : List (S62)), (⟨#[]⟩ : ByteArray), 0, 91)) = some (r1, r2, r3, r4, r5) := by rw [if_pos rfl] at H; exact H
      clear H
      have H := H1
      clear H1
      simp only [Option.some.injEq, Prod.mk.injEq] at H
      obtain ⟨rfl, rfl, rfl, rfl, rfl⟩ := H
      have hcz11_0 : wc.cell? ⟨gb257, 0, none⟩ = some (.string (⟨#[]⟩ : ByteArray)) := (blk_cell BK257.out 0).trans rfl
      have hcz11_1 : wc.cell? ⟨gb257, 1, none⟩ = some (.slice none 0 0) := (blk_cell BK257.out 1).trans rfl
      have hcz11_2 : wc.cell? ⟨gb257, 2, none⟩ = some (.string (⟨#[]⟩ : ByteArray)) := (blk_cell BK257.out 2).trans rfl
      have hfz11_0 := blk_frozen BK257.out 0
      have hfz11_1 := blk_frozen BK257.out 1
      have hfz11_2 := blk_frozen BK257.out 2
      go_wp2
      refine bodyPost_ret (results_ctt rfl _ _ gb257 50 #[.string (⟨#[]⟩ : ByteArray), .slice none 0 0, .string (⟨#[]⟩ : ByteArray)] (0, 0) _ rfl (by (with_reducible repeat (first | refine blk_drewN ?_ _ | refine blk_drew ?_ | refine blk_alloc ?_ _)); refine blk_put (cs := #[.string (⟨#[]⟩ : ByteArray), .slice none 0 0, .string (⟨#[]⟩ : ByteArray)]) ?_ 2 _ rfl; (with_reducible repeat (first | refine blk_drewN ?_ _ | refine blk_drew ?_ | refine blk_alloc ?_ _)); refine blk_put (cs := #[.string (⟨#[]⟩ : ByteArray), .slice none 0 0, .string (⟨#[]⟩ : ByteArray)]) ?_ 1 _ rfl; (with_reducible repeat (first | refine blk_drewN ?_ _ | refine blk_drew ?_ | refine blk_alloc ?_ _)); refine blk_put (cs := #[.string (⟨#[]⟩ : ByteArray), .slice none 0 0, .string (⟨#[]⟩ : ByteArray)]) ?_ 0 _ rfl; (with_reducible repeat (first | refine blk_drewN ?_ _ | refine blk_drew ?_ | refine blk_alloc ?_ _)); exact BK257.out) Tryz.underlying50 rfl (by kernel_rfl)) rfl ?_
      exact ⟨_, by first | rfl | (simp [errW_none, errW_some] <;> rfl) | (simp only [← hji2]; first | rfl | (simp [errW_none, errW_some] <;> rfl)) | (simp [*, errW_none, errW_some] <;> rfl), by first | exact Kd.R_nil _ _ _ _ _ | exact Kd.N_nil _ _ _ _ _ | exact Kd.V_nil _ _ _ _ _ | exact Kd.Q_nil _ _ _ _ _ | exact Kd.S_nil _ _ _ _ _, by repeat (first | (with_reducible first | exact HB.out | apply below_alloc | apply pw_below_drewN | apply below_drew1 | refine below_set ?_ GE257.out) | exact HB.out)⟩
     ·replace c10 := Bool.eq_false_iff.mpr c10
      subst c10
      have H1 : (if t258 < 0 then (some ((⟨#[]⟩ : ByteArray), ([] : List (S62)), (⟨#[]⟩ : ByteArray), 0, 80)) else (if 0 ≤ t258 then (if t258 ≤ (a0.size : Int) then ((strings_Split.f (a0.extract 0 (t258 : Int).toNat) (⟨#[13, 10]⟩ : ByteArray)).bind fun t259 => (if 1 ≤ (t259.length : Int) then ((http_fields.f kj5 (t259.drop 1)).bind fun bt266 => (if bt266.2.2 = true then (if 0 < (t259.length : Int) then ((http_ParseResponse_1.f kj5 (rdOf ByteArray.empty t259 0)).bind fun t272 => (http_parseb.j1 kj5 a0 t258 t259 bt266.1 bt266.2.1 (!t272))) else (none)) else (http_parseb.j1 kj5 a0 t258 t259 bt266.1 bt266.2.1 true))) else (none))) else (none)) else (none))) = some (r1, r2, r3, r4, r5) := by rw [if_neg (show ¬ (false = true) by decide)] at H; exact H
      clear H
      have H := H1
      clear H1
      by_cases c12 : t258 < 0
      ·rw [if_pos c12] at H
       have c12b0 : decide (t258 < 0) = true := decide_eq_true c12
       clear c12
       simp only [Option.some.injEq, Prod.mk.injEq] at H
       obtain ⟨rfl, rfl, rfl, rfl, rfl⟩ := H
       have hcz13_0 : wc.cell? ⟨gb257, 0, none⟩ = some (.string (⟨#[]⟩ : ByteArray)) := (blk_cell BK257.out 0).trans rfl
       have hcz13_1 : wc.cell? ⟨gb257, 1, none⟩ = some (.slice none 0 0) := (blk_cell BK257.out 1).trans rfl
       have hcz13_2 : wc.cell? ⟨gb257, 2, none⟩ = some (.string (⟨#[]⟩ : ByteArray)) := (blk_cell BK257.out 2).trans rfl
       have hfz13_0 := blk_frozen BK257.out 0
       have hfz13_1 := blk_frozen BK257.out 1
       have hfz13_2 := blk_frozen BK257.out 2
       go_wp2
       refine bodyPost_ret (results_ctt rfl _ _ gb257 50 #[.string (⟨#[]⟩ : ByteArray), .slice none 0 0, .string (⟨#[]⟩ : ByteArray)] (0, 0) _ rfl (by (with_reducible repeat (first | refine blk_drewN ?_ _ | refine blk_drew ?_ | refine blk_alloc ?_ _)); refine blk_put (cs := #[.string (⟨#[]⟩ : ByteArray), .slice none 0 0, .string (⟨#[]⟩ : ByteArray)]) ?_ 2 _ rfl; (with_reducible repeat (first | refine blk_drewN ?_ _ | refine blk_drew ?_ | refine blk_alloc ?_ _)); refine blk_put (cs := #[.string (⟨#[]⟩ : ByteArray), .slice none 0 0, .string (⟨#[]⟩ : ByteArray)]) ?_ 1 _ rfl; (with_reducible repeat (first | refine blk_drewN ?_ _ | refine blk_drew ?_ | refine blk_alloc ?_ _)); refine blk_put (cs := #[.string (⟨#[]⟩ : ByteArray), .slice none 0 0, .string (⟨#[]⟩ : ByteArray)]) ?_ 0 _ rfl; (with_reducible repeat (first | refine blk_drewN ?_ _ | refine blk_drew ?_ | refine blk_alloc ?_ _)); exact BK257.out) Tryz.underlying50 rfl (by kernel_rfl)) rfl ?_
       exact ⟨_, by first | rfl | (simp [errW_none, errW_some] <;> rfl) | (simp only [← hji2]; first | rfl | (simp [errW_none, errW_some] <;> rfl)) | (simp [*, errW_none, errW_some] <;> rfl), by first | exact Kd.R_nil _ _ _ _ _ | exact Kd.N_nil _ _ _ _ _ | exact Kd.V_nil _ _ _ _ _ | exact Kd.Q_nil _ _ _ _ _ | exact Kd.S_nil _ _ _ _ _, by repeat (first | (with_reducible first | exact HB.out | apply below_alloc | apply pw_below_drewN | apply below_drew1 | refine below_set ?_ GE257.out) | exact HB.out)⟩
      ·rw [if_neg c12] at H
       have c12b0 : decide (t258 < 0) = false := decide_eq_false c12
       clear c12
       by_cases c14 : 0 ≤ t258
       ·rw [if_pos c14] at H
        have c14b0 := eq_true c14
        have c14b1 : decide (0 ≤ t258) = true := decide_eq_true c14
        clear c14
        by_cases c15 : t258 ≤ (a0.size : Int)
        ·rw [if_pos c15] at H
         have c15b0 := eq_true c15
         have c15b1 : decide (t258 ≤ (a0.size : Int)) = true := decide_eq_true c15
         clear c15
         replace H := Option.bind_eq_some_iff.mp H
         obtain ⟨t259, A160, H⟩ := H
         replace H : (if 1 ≤ (t259.length : Int) then ((http_fields.f kj5 (t259.drop 1)).bind fun bt266 => (if bt266.2.2 = true then (if 0 < (t259.length : Int) then ((http_ParseResponse_1.f kj5 (rdOf ByteArray.empty t259 0)).bind fun t272 => (http_parseb.j1 kj5 a0 t258 t259 bt266.1 bt266.2.1 (!t272))) else (none)) else (http_parseb.j1 kj5 a0 t258 t259 bt266.1 bt266.2.1 true))) else (none)) = some (r1, r2, r3, r4, r5) := H
         have A16 := Aside0.mk A160
         clear A160
         by_cases c17 : 1 ≤ (t259.length : Int)
         ·rw [if_pos c17] at H
          have c17b0 := eq_true c17
          have c17b1 : decide (1 ≤ (t259.length : Int)) = true := decide_eq_true c17
          clear c17
          obtain ⟨y262, hy262⟩ : ∃ y_ : List ByteArray, y_ = (t259.drop 1) := ⟨_, rfl⟩
          replace H : ((http_fields.f kj5 y262).bind fun bt266 => (if bt266.2.2 = true then (if 0 < (t259.length : Int) then ((http_ParseResponse_1.f kj5 (rdOf ByteArray.empty t259 0)).bind fun t272 => (http_parseb.j1 kj5 a0 t258 t259 bt266.1 bt266.2.1 (!t272))) else (none)) else (http_parseb.j1 kj5 a0 t258 t259 bt266.1 bt266.2.1 true))) = some (r1, r2, r3, r4, r5) := by first | (rw [hy262]; with_reducible exact H) | (have H2_ := (Option.bind_some _ _).symm.trans H; rw [hy262]; with_reducible exact H2_) | (have H2_ := (Option.bind_some _ _).symm.trans H; with_reducible exact H2_) | with_reducible exact H | (rw [hy262]; exact H) | exact H
          have Ny262 := Aside0.mk hy262
          clear hy262
          replace H := Option.bind_eq_some_iff.mp H
          obtain ⟨⟨t266, t267, t268⟩, A180, H⟩ := H
          replace H : (if t268 = true then (if 0 < (t259.length : Int) then ((http_ParseResponse_1.f kj5 (rdOf ByteArray.empty t259 0)).bind fun t272 => (http_parseb.j1 kj5 a0 t258 t259 t266 t267 (!t272))) else (none)) else (http_parseb.j1 kj5 a0 t258 t259 t266 t267 true)) = some (r1, r2, r3, r4, r5) := H
          have A18 := Aside0.mk A180
          clear A180
          have HC19 := Aside0.mk H
          clear H
          go_upto_region 8 with (first | ((with_reducible refine gate_callee (f := 20) rfl ?_); refine goesL_ (some 33) rfl rfl Tryz.func20 (by kernel_rfl) rfl #[.string (a0.extract 0 (t258 : Int).toNat), .string (⟨#[13, 10]⟩ : ByteArray)] rfl (by (try simp only [List.map_toArray, List.map_cons, List.map_nil]); first | done | rfl | (simp only [List.length_drop, List.length_take]; rfl)) ?_; (with_reducible refine (strings_Split.calls (a0.extract 0 (t258 : Int).toNat) (⟨#[13, 10]⟩ : ByteArray) t259 _ ?side1 A16.out).mono ?_); (case side1 => exact LaidM.below HT.out (by repeat (first | (with_reducible first | exact HB.out | apply below_alloc | apply pw_below_drewN | apply below_drew1 | refine below_set ?_ GE257.out) | exact HB.out))); rintro e w20 ⟨v260, rfl, ho0, hb⟩; refine ⟨_, rfl, ?_⟩; have n0_ := Aside0.mk (Kd.R_lower ho0 (below_size (by repeat (first | (with_reducible first | exact HB.out | apply below_alloc | apply pw_below_drewN | apply below_drew1 | refine below_set ?_ GE257.out) | exact HB.out)))); have n1_ := Aside0.mk (blk_below (g := gb257) (o := .cells #[.string (⟨#[]⟩ : ByteArray), .slice none 0 0, .string (⟨#[]⟩ : ByteArray)] 50 (0, 0)) (by (with_reducible repeat (first | refine blk_drewN ?_ _ | refine blk_drew ?_ | refine blk_alloc ?_ _)); exact BK257.out) hb); have n2_ := Aside0.mk (below_step (by repeat (first | (with_reducible first | exact HB.out | apply below_alloc | apply pw_below_drewN | apply below_drew1 | refine below_set ?_ GE257.out) | exact HB.out)) hb); clear BK257; clear HB; have HO261 := n0_; have BK257 := n1_; have HB := n2_; clear n0_ n1_ n2_; (try clear hb); (try clear hb2); (try clear hk); (try clear hi); (try clear ho0); obtain ⟨Ao22, co22, eo22⟩ := Kd.R_slice HO261.out; subst eo22; have q21 : (1 : Int) ≤ ((t259.length : Int) : Int) := of_decide_eq_true (by first | (with_reducible assumption) | assumption); obtain ⟨i021, hi021, _, hsz21, _⟩ := info_parts info9; have hroom21 : t259.length ≤ co22 := (Kd.R_reads' HO261.out).2.1; have hC21 : Kd.C Kd.string _ Ao22 t259.length t259 := (Kd.R_reads' HO261.out).2.2; have hcut21 := cut_from (P := Tryz.prog) 53 9 .i64 Tryz.underlying53 hi021 1 hsz21 Ao22 t259.length co22 1 (by omega) q21; have hr21 := Kd.C_drop (m := (1 : Int).toNat) (c := co22) hC21 (by omega) hroom21; obtain ⟨A21, hA21⟩ : ∃ A1, A1 = (if co22 = (1 : Int).toNat then Ao22 else (Ao22 : Option Addr).map (·.add ((1 : Int).toNat * 1))) := ⟨_, rfl⟩; obtain ⟨c21, hc21⟩ : ∃ c1, c1 = co22 - (1 : Int).toNat := ⟨_, rfl⟩; have hy21 : y262.length = t259.length - (1 : Int).toNat := (by rw [Ny262.out, List.length_drop] <;> omega); rw [show (t259).drop (1 : Int).toNat = y262 from Ny262.out.symm] at hr21; replace hr21 : Kd.C Kd.string _ A21 y262.length y262 := (by rw [hA21]; exact hr21); rw [← hy21, ← hA21, ← hc21] at hcut21; have HR265 := Aside0.mk hr21; have HC265 := Aside0.mk (show y262.length ≤ c21 from by rw [hy21, hc21]; exact Nat.sub_le_sub_right hroom21 _); clear hr21 hC21 hroom21 hi021 hsz21 hc21; have KY21 := Aside0.mk hy21; have KA21 := Aside0.mk hA21; clear hy21 hA21; have KL21 := Aside0.mk (show 1 ≤ t259.length from by omega); replace q21 := eq_true q21) | ((with_reducible refine gate_callee (f := 36) rfl ?_); refine goesL_ (some 37) rfl rfl Tryz.func36 (by kernel_rfl) rfl #[.slice A21 y262.length c21] rfl (by (try simp only [List.map_toArray, List.map_cons, List.map_nil]); first | done | rfl | (simp only [List.length_drop, List.length_take]; rfl)) ?_; (with_reducible refine (http_fields.calls kj5 _ _ y262 t266 t267 t268 _ ?side1 ?side2 ?side3 A18.out).mono ?_); (case side1 => repeat (first | exact (by repeat (first | (with_reducible exact HR265.out) | (with_reducible refine Kd.C_alloc ?_ _) | (with_reducible refine Kd.C_drewN ?_ _) | (with_reducible refine Kd.C_drew ?_) | exact HR265.out)) | (with_reducible refine Kd.C_alloc ?_ _) | (with_reducible refine Kd.C_drewN ?_ _) | (with_reducible refine Kd.C_drew ?_))); (case side2 => exact HC265.out); (case side3 => exact LaidM.below HT.out (by repeat (first | (with_reducible first | exact HB.out | apply below_alloc | apply pw_below_drewN | apply below_drew1 | refine below_set ?_ GE257.out) | exact HB.out))); rintro e w23 ⟨v269, rfl, ho0, hb⟩; refine ⟨_, rfl, ?_⟩; have n0_ := Aside0.mk (Kd.R_below (by (with_reducible repeat (first | apply Kd.R_alloc | apply Kd.R_drewN | apply Kd.R_drew)); exact HO261.out) hb); have n1_ := Aside0.mk (Kd.R_lower ho0 (below_size (by repeat (first | (with_reducible first | exact HB.out | apply below_alloc | apply pw_below_drewN | apply below_drew1 | refine below_set ?_ GE257.out) | exact HB.out)))); have n2_ := Aside0.mk (blk_below (g := gb257) (o := .cells #[.string (⟨#[]⟩ : ByteArray), .slice none 0 0, .string (⟨#[]⟩ : ByteArray)] 50 (0, 0)) (by (with_reducible repeat (first | refine blk_drewN ?_ _ | refine blk_drew ?_ | refine blk_alloc ?_ _)); exact BK257.out) hb); have n3_ := Aside0.mk (Kd.C_below (by repeat (first | (with_reducible exact HR265.out) | (with_reducible refine Kd.C_alloc ?_ _) | (with_reducible refine Kd.C_drewN ?_ _) | (with_reducible refine Kd.C_drew ?_) | exact HR265.out)) hb); have n4_ := Aside0.mk (below_step (by repeat (first | (with_reducible first | exact HB.out | apply below_alloc | apply pw_below_drewN | apply below_drew1 | refine below_set ?_ GE257.out) | exact HB.out)) hb); clear HO261; clear BK257; clear HR265; clear HB; have HO261 := n0_; have HO270 := n1_; have BK257 := n2_; have HR265 := n3_; have HB := n4_; clear n0_ n1_ n2_ n3_ n4_; (try clear hb); (try clear hb2); (try clear hk); (try clear hi); (try clear ho0)))
          (try simp only [Act.put, List.setIfInBounds_toArray, List.set_cons_zero, List.set_cons_succ])
          go_cut [50] (fun v50 wc => ∃ (kq : Nat) (x50_18 : Bool), v50 = .bool x50_18 ∧ Aside0 (http_parseb.j1 kq a0 t258 t259 t266 t267 x50_18 = some (r1, r2, r3, r4, r5)) ∧ Aside0 (kq ≤ kj5) ∧ Aside0 (Kd.R Kd.string 9 wc w.heap.size (fun _ => True) (.slice Ao22 t259.length co22) t259) ∧ Aside0 (Kd.R k62 62 wc w.heap.size (fun _ => True) v269 t266) ∧ Aside0 (wc.heap[gb257]? = some (.cells #[.string (⟨#[]⟩ : ByteArray), (.slice none 0 0), .string (⟨#[]⟩ : ByteArray)] 50 (0, 0))) ∧ Aside0 (Kd.C Kd.string wc A21 y262.length y262) ∧ Aside0 (Below w.heap.size w wc))
          case first =>
           have H := HC19.out
           clear HC19
           by_cases c24 : t268 = true
           ·subst c24
            have H1 : (if 0 < (t259.length : Int) then ((http_ParseResponse_1.f kj5 (rdOf ByteArray.empty t259 0)).bind fun t272 => (http_parseb.j1 kj5 a0 t258 t259 t266 t267 (!t272))) else (none)) = some (r1, r2, r3, r4, r5) := by rw [if_pos rfl] at H; exact H
            clear H
            have H := H1
            clear H1
            by_cases c25 : 0 < (t259.length : Int)
            ·rw [if_pos c25] at H
             have c25b0 : decide (0 < (t259.length : Int)) = true := decide_eq_true c25
             have c25b1 : decide (0 < t259.length) = true := decide_eq_true (by omega)
             clear c25
             (first | rw [c25b0] | rw [c25b1] | (simp only [i64_w, i32_w]; rw [c25b0]) | skip)
             replace H := Option.bind_eq_some_iff.mp H
             obtain ⟨t272, A260, H⟩ := H
             replace H : (http_parseb.j1 kj5 a0 t258 t259 t266 t267 (!t272)) = some (r1, r2, r3, r4, r5) := H
             have A26 := Aside0.mk A260
             clear A260
             have H' := Aside0.mk H
             clear H
             have p271 : 0 ≤ (0 : Int) := (by omega)
             have q271 : 0 < (t259.length : Int) := of_decide_eq_true (by first | (with_reducible assumption) | assumption)
             obtain ⟨ad271, e271, hx271_0⟩ := Kd.at_string (Kd.R_reads' HO261.out).2.2 0 p271 q271
             cases e271
             have qi271 : (0 < t259.length) = True := eq_true (by omega)
             (try rw [show ((0 : Int)).toNat = 0 from rfl] at hx271_0)
             (try rw [Addr.add_zero'] at hx271_0)
             replace p271 := eq_true p271
             replace q271 := eq_true q271
             go_wp2_with (first | (go_at_call 25; (with_reducible refine (http_ParseResponse_1.calls kj5 (rdOf ByteArray.empty t259 0) t272 _ ?side1 A26.out).mono ?_); (case side1 => exact LaidM.below HT.out (by repeat (first | (with_reducible first | exact HB.out | apply below_alloc | apply pw_below_drewN | apply below_drew1 | refine below_set ?_ GE257.out) | exact HB.out))); rintro e w27 ⟨rfl, hb⟩; have n0_ := Aside0.mk (Kd.R_below (by (with_reducible repeat (first | apply Kd.R_alloc | apply Kd.R_drewN | apply Kd.R_drew)); exact HO261.out) hb); have n1_ := Aside0.mk (Kd.R_below (by (with_reducible repeat (first | apply Kd.R_alloc | apply Kd.R_drewN | apply Kd.R_drew)); exact HO270.out) hb); have n2_ := Aside0.mk (blk_below (g := gb257) (o := .cells #[.string (⟨#[]⟩ : ByteArray), .slice none 0 0, .string (⟨#[]⟩ : ByteArray)] 50 (0, 0)) (by (with_reducible repeat (first | refine blk_drewN ?_ _ | refine blk_drew ?_ | refine blk_alloc ?_ _)); exact BK257.out) hb); have n3_ := Aside0.mk (Kd.C_below (by repeat (first | (with_reducible exact HR265.out) | (with_reducible refine Kd.C_alloc ?_ _) | (with_reducible refine Kd.C_drewN ?_ _) | (with_reducible refine Kd.C_drew ?_) | exact HR265.out)) hb); have n4_ := Aside0.mk (below_step (by repeat (first | (with_reducible first | exact HB.out | apply below_alloc | apply pw_below_drewN | apply below_drew1 | refine below_set ?_ GE257.out) | exact HB.out)) hb); clear HO261; clear HO270; clear BK257; clear HR265; clear HB; have HO261 := n0_; have HO270 := n1_; have BK257 := n2_; have HR265 := n3_; have HB := n4_; clear n0_ n1_ n2_ n3_ n4_; (try clear hb); (try clear hb2); (try clear hk); (try clear hi)))
             go_meet
             case rel => exact ⟨_, (!t272), (by first | rfl | (simp; done) | (simp [*]; done)), H', ⟨by have := HJ5.out; first | omega | exact Nat.le_refl _⟩, ⟨by (with_reducible repeat (first | apply Kd.R_alloc | apply Kd.R_drewN | apply Kd.R_drew)); exact HO261.out⟩, ⟨by (with_reducible repeat (first | apply Kd.R_alloc | apply Kd.R_drewN | apply Kd.R_drew)); exact HO270.out⟩, ⟨by (with_reducible repeat (first | refine blk_drewN ?_ _ | refine blk_drew ?_ | refine blk_alloc ?_ _)); exact BK257.out⟩, ⟨by repeat (first | (with_reducible exact HR265.out) | (with_reducible refine Kd.C_alloc ?_ _) | (with_reducible refine Kd.C_drewN ?_ _) | (with_reducible refine Kd.C_drew ?_) | exact HR265.out)⟩, ⟨by repeat (first | (with_reducible first | exact HB.out | apply below_alloc | apply pw_below_drewN | apply below_drew1 | refine below_set ?_ GE257.out) | exact HB.out)⟩⟩
            ·rw [if_neg c25] at H
             exact absurd H (by simp)
           ·replace c24 := Bool.eq_false_iff.mpr c24
            subst c24
            have H1 : (http_parseb.j1 kj5 a0 t258 t259 t266 t267 true) = some (r1, r2, r3, r4, r5) := by rw [if_neg (show ¬ (false = true) by decide)] at H; exact H
            clear H
            have H := H1
            clear H1
            have H' := Aside0.mk H
            clear H
            go_wp2
            go_meet
            case rel => exact ⟨_, (true), (by first | rfl | (simp; done) | (simp [*]; done)), H', ⟨by have := HJ5.out; first | omega | exact Nat.le_refl _⟩, ⟨by (with_reducible repeat (first | apply Kd.R_alloc | apply Kd.R_drewN | apply Kd.R_drew)); exact HO261.out⟩, ⟨by (with_reducible repeat (first | apply Kd.R_alloc | apply Kd.R_drewN | apply Kd.R_drew)); exact HO270.out⟩, ⟨by (with_reducible repeat (first | refine blk_drewN ?_ _ | refine blk_drew ?_ | refine blk_alloc ?_ _)); exact BK257.out⟩, ⟨by repeat (first | (with_reducible exact HR265.out) | (with_reducible refine Kd.C_alloc ?_ _) | (with_reducible refine Kd.C_drewN ?_ _) | (with_reducible refine Kd.C_drew ?_) | exact HR265.out)⟩, ⟨by repeat (first | (with_reducible first | exact HB.out | apply below_alloc | apply pw_below_drewN | apply below_drew1 | refine below_set ?_ GE257.out) | exact HB.out)⟩⟩
          case rest =>
           clear HC19
           try clear c1
           try clear c2
           try clear p2
           try clear q2
           try clear hx2
           try clear qi2
           try clear c3
           try clear c3b0
           try clear c3b1
           try clear c4
           try clear c4b0
           try clear c4b1
           try clear c9
           try clear c9b0
           try clear c10
           try clear c12
           try clear c12b0
           try clear c14
           try clear c14b0
           try clear c14b1
           try clear c15
           try clear c15b0
           try clear c15b1
           try clear c17
           try clear c17b0
           try clear c17b1
           try clear c20
           try clear c21
           try clear q21
           try clear c24
           try clear c25
           try clear c25b0
           try clear c25b1
           try clear p27
           try clear q27
           try clear hx27
           try clear qi27
           try clear hcz11_0
           try clear hcz11_1
           try clear hcz11_2
           try clear hcz13_0
           try clear hcz13_1
           try clear hcz13_2
           try clear hfz11_0
           try clear hfz11_1
           try clear hfz11_2
           try clear hfz13_0
           try clear hfz13_1
           try clear hfz13_2
           try clear hx271_0
           try clear p2
           try clear p271
           try clear q21
           try clear q271
           obtain ⟨kq, x50_18, rfl, HA, HJ18, HO_8, HO_9, BK257, HR265, HB⟩ := hcut
           cases kq with
           | zero => exact absurd HA.out (by simp [http_parseb.j1])
           | succ kj18 =>
            have H := HA.out
            clear HA
            simp only [http_parseb.j1] at H
            by_cases c28 : x50_18 = true
            ·subst c28
             have H1 : (some ((⟨#[]⟩ : ByteArray), ([] : List (S62)), (⟨#[]⟩ : ByteArray), 0, 80)) = some (r1, r2, r3, r4, r5) := by rw [if_pos rfl] at H; exact H
             clear H
             have H := H1
             clear H1
             simp only [Option.some.injEq, Prod.mk.injEq] at H
             obtain ⟨rfl, rfl, rfl, rfl, rfl⟩ := H
             have hcz29_0 : wc.cell? ⟨gb257, 0, none⟩ = some (.string (⟨#[]⟩ : ByteArray)) := (blk_cell BK257.out 0).trans rfl
             have hcz29_1 : wc.cell? ⟨gb257, 1, none⟩ = some (.slice none 0 0) := (blk_cell BK257.out 1).trans rfl
             have hcz29_2 : wc.cell? ⟨gb257, 2, none⟩ = some (.string (⟨#[]⟩ : ByteArray)) := (blk_cell BK257.out 2).trans rfl
             have hfz29_0 := blk_frozen BK257.out 0
             have hfz29_1 := blk_frozen BK257.out 1
             have hfz29_2 := blk_frozen BK257.out 2
             go_wp2
             refine bodyPost_ret (results_ctt rfl _ _ gb257 50 #[.string (⟨#[]⟩ : ByteArray), .slice none 0 0, .string (⟨#[]⟩ : ByteArray)] (0, 0) _ rfl (by (with_reducible repeat (first | refine blk_drewN ?_ _ | refine blk_drew ?_ | refine blk_alloc ?_ _)); refine blk_put (cs := #[.string (⟨#[]⟩ : ByteArray), .slice none 0 0, .string (⟨#[]⟩ : ByteArray)]) ?_ 2 _ rfl; (with_reducible repeat (first | refine blk_drewN ?_ _ | refine blk_drew ?_ | refine blk_alloc ?_ _)); refine blk_put (cs := #[.string (⟨#[]⟩ : ByteArray), .slice none 0 0, .string (⟨#[]⟩ : ByteArray)]) ?_ 1 _ rfl; (with_reducible repeat (first | refine blk_drewN ?_ _ | refine blk_drew ?_ | refine blk_alloc ?_ _)); refine blk_put (cs := #[.string (⟨#[]⟩ : ByteArray), .slice none 0 0, .string (⟨#[]⟩ : ByteArray)]) ?_ 0 _ rfl; (with_reducible repeat (first | refine blk_drewN ?_ _ | refine blk_drew ?_ | refine blk_alloc ?_ _)); exact BK257.out) Tryz.underlying50 rfl (by kernel_rfl)) rfl ?_
             exact ⟨_, by first | rfl | (simp [errW_none, errW_some] <;> rfl) | (simp only [← hji2]; first | rfl | (simp [errW_none, errW_some] <;> rfl)) | (simp [*, errW_none, errW_some] <;> rfl), by first | exact Kd.R_nil _ _ _ _ _ | exact Kd.N_nil _ _ _ _ _ | exact Kd.V_nil _ _ _ _ _ | exact Kd.Q_nil _ _ _ _ _ | exact Kd.S_nil _ _ _ _ _, by repeat (first | (with_reducible first | exact HB.out | apply below_alloc | apply pw_below_drewN | apply below_drew1 | refine below_set ?_ GE257.out) | exact HB.out)⟩
            ·replace c28 := Bool.eq_false_iff.mpr c28
             subst c28
             have H1 : (if (wrap64 ((a0.size : Int) - (wrap64 (t258 + 4)))) < t267 then (some ((⟨#[]⟩ : ByteArray), ([] : List (S62)), (⟨#[]⟩ : ByteArray), 0, 91)) else (if 0 < (t259.length : Int) then (if 0 ≤ (wrap64 (t258 + 4)) then (if (wrap64 (t258 + 4)) ≤ (wrap64 ((wrap64 (t258 + 4)) + t267)) then (if (wrap64 ((wrap64 (t258 + 4)) + t267)) ≤ (a0.size : Int) then (some (rdOf ByteArray.empty t259 0, t266, a0.extract ((wrap64 (t258 + 4)) : Int).toNat ((wrap64 ((wrap64 (t258 + 4)) + t267)) : Int).toNat, wrap64 ((wrap64 (t258 + 4)) + t267), 0)) else (none)) else (none)) else (none)) else (none))) = some (r1, r2, r3, r4, r5) := by rw [if_neg (show ¬ (false = true) by decide)] at H; exact H
             clear H
             have H := H1
             clear H1
             by_cases c30 : (wrap64 ((a0.size : Int) - (wrap64 (t258 + 4)))) < t267
             ·rw [if_pos c30] at H
              have c30b0 : decide ((wrap64 ((a0.size : Int) - (wrap64 (t258 + 4)))) < t267) = true := decide_eq_true c30
              clear c30
              simp only [Option.some.injEq, Prod.mk.injEq] at H
              obtain ⟨rfl, rfl, rfl, rfl, rfl⟩ := H
              have hcz31_0 : wc.cell? ⟨gb257, 0, none⟩ = some (.string (⟨#[]⟩ : ByteArray)) := (blk_cell BK257.out 0).trans rfl
              have hcz31_1 : wc.cell? ⟨gb257, 1, none⟩ = some (.slice none 0 0) := (blk_cell BK257.out 1).trans rfl
              have hcz31_2 : wc.cell? ⟨gb257, 2, none⟩ = some (.string (⟨#[]⟩ : ByteArray)) := (blk_cell BK257.out 2).trans rfl
              have hfz31_0 := blk_frozen BK257.out 0
              have hfz31_1 := blk_frozen BK257.out 1
              have hfz31_2 := blk_frozen BK257.out 2
              go_wp2
              refine bodyPost_ret (results_ctt rfl _ _ gb257 50 #[.string (⟨#[]⟩ : ByteArray), .slice none 0 0, .string (⟨#[]⟩ : ByteArray)] (0, 0) _ rfl (by (with_reducible repeat (first | refine blk_drewN ?_ _ | refine blk_drew ?_ | refine blk_alloc ?_ _)); refine blk_put (cs := #[.string (⟨#[]⟩ : ByteArray), .slice none 0 0, .string (⟨#[]⟩ : ByteArray)]) ?_ 2 _ rfl; (with_reducible repeat (first | refine blk_drewN ?_ _ | refine blk_drew ?_ | refine blk_alloc ?_ _)); refine blk_put (cs := #[.string (⟨#[]⟩ : ByteArray), .slice none 0 0, .string (⟨#[]⟩ : ByteArray)]) ?_ 1 _ rfl; (with_reducible repeat (first | refine blk_drewN ?_ _ | refine blk_drew ?_ | refine blk_alloc ?_ _)); refine blk_put (cs := #[.string (⟨#[]⟩ : ByteArray), .slice none 0 0, .string (⟨#[]⟩ : ByteArray)]) ?_ 0 _ rfl; (with_reducible repeat (first | refine blk_drewN ?_ _ | refine blk_drew ?_ | refine blk_alloc ?_ _)); exact BK257.out) Tryz.underlying50 rfl (by kernel_rfl)) rfl ?_
              exact ⟨_, by first | rfl | (simp [errW_none, errW_some] <;> rfl) | (simp only [← hji2]; first | rfl | (simp [errW_none, errW_some] <;> rfl)) | (simp [*, errW_none, errW_some] <;> rfl), by first | exact Kd.R_nil _ _ _ _ _ | exact Kd.N_nil _ _ _ _ _ | exact Kd.V_nil _ _ _ _ _ | exact Kd.Q_nil _ _ _ _ _ | exact Kd.S_nil _ _ _ _ _, by repeat (first | (with_reducible first | exact HB.out | apply below_alloc | apply pw_below_drewN | apply below_drew1 | refine below_set ?_ GE257.out) | exact HB.out)⟩
             ·rw [if_neg c30] at H
              have c30b0 : decide ((wrap64 ((a0.size : Int) - (wrap64 (t258 + 4)))) < t267) = false := decide_eq_false c30
              clear c30
              by_cases c32 : 0 < (t259.length : Int)
              ·rw [if_pos c32] at H
               have c32b0 : decide (0 < (t259.length : Int)) = true := decide_eq_true c32
               have c32b1 : decide (0 < t259.length) = true := decide_eq_true (by omega)
               clear c32
               obtain ⟨ji33, hji33⟩ : ∃ j_ : Int, (wrap64 (t258 + 4)) = j_ := ⟨_, rfl⟩
               replace H : (if 0 ≤ (ji33) then (if (ji33) ≤ (wrap64 ((ji33) + t267)) then (if (wrap64 ((ji33) + t267)) ≤ (a0.size : Int) then (some (rdOf ByteArray.empty t259 0, t266, a0.extract ((ji33) : Int).toNat ((wrap64 ((ji33) + t267)) : Int).toNat, wrap64 ((ji33) + t267), 0)) else (none)) else (none)) else (none)) = some (r1, r2, r3, r4, r5) := by first | (rw [hji33] at H; exact H) | (simp only [hji33] at H ⊢; exact H)
               (try rw [hji33] at c30b0)
               have hji33w : (IntKind.i64.wrap (t258 + 4)) = ji33 := (i64_w _).trans hji33
               by_cases c34 : 0 ≤ (ji33)
               ·rw [if_pos c34] at H
                have c34b0 := eq_true c34
                have c34b1 : decide (0 ≤ (ji33)) = true := decide_eq_true c34
                clear c34
                by_cases c35 : (ji33) ≤ (wrap64 ((ji33) + t267))
                ·rw [if_pos c35] at H
                 have c35b0 := eq_true c35
                 have c35b1 : decide ((ji33) ≤ (wrap64 ((ji33) + t267))) = true := decide_eq_true c35
                 by_cases c36 : (wrap64 ((ji33) + t267)) ≤ (a0.size : Int)
                 ·rw [if_pos c36] at H
                  have c36b0 := eq_true c36
                  have c36b1 : decide ((wrap64 ((ji33) + t267)) ≤ (a0.size : Int)) = true := decide_eq_true c36
                  simp only [Option.some.injEq, Prod.mk.injEq] at H
                  obtain ⟨rfl, rfl, rfl, rfl, rfl⟩ := H
                  try go_wp2
                  have n0_ := Aside0.mk (Kd.R_drew HO_8.out)
                  have n1_ := Aside0.mk (Kd.R_drew HO_9.out)
                  have n2_ := Aside0.mk (blk_drew BK257.out)
                  have n3_ := Aside0.mk (Kd.C_drew HR265.out)
                  have n4_ := Aside0.mk (below_drew1 HB.out)
                  clear HO_8
                  clear HO_9
                  clear BK257
                  clear HR265
                  clear HB
                  have HO_8 := n0_
                  have HO_9 := n1_
                  have BK257 := n2_
                  have HR265 := n3_
                  have HB := n4_
                  clear n0_ n1_ n2_ n3_ n4_
                  have p273 : 0 ≤ (0 : Int) := (by omega)
                  have q273 : 0 < (t259.length : Int) := of_decide_eq_true (by first | (with_reducible assumption) | assumption)
                  obtain ⟨ad273, e273, hx273_0⟩ := Kd.at_string (Kd.R_reads' HO_8.out).2.2 0 p273 q273
                  cases e273
                  have qi273 : (0 < t259.length) = True := eq_true (by omega)
                  (try rw [show ((0 : Int)).toNat = 0 from rfl] at hx273_0)
                  (try rw [Addr.add_zero'] at hx273_0)
                  replace p273 := eq_true p273
                  replace q273 := eq_true q273
                  obtain ⟨Ao38, co38, eo38⟩ := Kd.R_slice HO_9.out
                  (first | subst eo38 | (injection eo38 with f1_ f2_ f3_; have f4_ := f1_.symm; have f5_ := f3_.symm; clear f1_ f2_ f3_; subst f4_; subst f5_))
                  refine start_ (n := 17) (S := fun w' => w'.cell? ad273 = some (.string (rdOf ByteArray.empty t259 0))) (ds := []) (bm 17 0) (by kernel_rfl) rfl rfl (hx273_0) (fun hHeld => ?_); refine with_tabW http_parseb.tab13 http_parseb.bits13 (fun HT_ HW_ => ?_)
                  generalize wc.drew = w37 at HO_8 HO_9 BK257 HR265 HB hx273_0 hHeld ⊢
                  refine pv_ HT_ 0 (bm 17 1) ?_
                  refine pv_ HT_ 1 (bm 17 3) ?_
                  refine pv_ HT_ 3 (bm 17 11) ?_
                  refine pv_ HT_ 4 (bm 17 27) ?_
                  refine pv_ HT_ 5 (bm 17 59) ?_
                  refine pv_ HT_ 6 (bm 17 123) ?_
                  refine pv_ HT_ 7 (bm 17 251) ?_
                  refine pv_ HT_ 8 (bm 17 507) ?_
                  refine pv_ HT_ 9 (bm 17 1019) ?_
                  refine pv_ HT_ 11 (bm 17 3067) ?_
                  refine pv_ HT_ 12 (bm 17 7163) ?_
                  refine pv_ HT_ 13 (bm 17 15355) ?_
                  refine take_ (i := 2) (N := some 63) (v := ?_) (a' := ?_) (bm 17 15359) rfl rfl (take_ofW HT_.out HW_.out (by kernel_rfl)) (fun _ _ _ h => h) (Or.inl ⟨by rfl, ?_⟩) hHeld ?_ ?_
                  rotate_left
                  ·intro w' s0
                   go_simp
                   with_reducible rfl
                  rotate_left
                  ·simp only [Act.put, List.setIfInBounds_toArray, List.set_cons_zero, List.set_cons_succ, i64_w, i32_w]
                   rfl
                  refine pv_ HT_ 10 (bm 17 16383) ?_
                  refine one_ (i := 14) (N := none) (bm 17 32767) rfl rfl (one_of HT_.out (by kernel_rfl)) (by decide) (fun K hK => ?_)
                  have hs39 : w37.cell? ⟨gb257, 0, none⟩ = some (.string (⟨#[]⟩ : ByteArray)) := (blk_cell BK257.out 0).trans rfl
                  have hfs39 := blk_frozen BK257.out 0
                  have hs40 : w37.cell? ⟨gb257, 1, none⟩ = some (.slice none 0 0) := (blk_cell BK257.out 1).trans rfl
                  have hfs40 := blk_frozen BK257.out 1
                  have hs41 : w37.cell? ⟨gb257, 2, none⟩ = some (.string (⟨#[]⟩ : ByteArray)) := (blk_cell BK257.out 2).trans rfl
                  have hfs41 := blk_frozen BK257.out 2
                  refine skip_ (w1 := ?_) (by rfl) rfl ?_ ?_
                  rotate_left
                  ·go_simp
                   rfl
                  refine hK.out _ _ (((cell_far (p := ⟨gb257, _, none⟩) (by first | exact Kd.own_blk (Kd.R_ne HO_8.out BK257.out (by decide)) | (rw [add_block]; exact Kd.own_blk (Kd.R_ne HO_8.out BK257.out (by decide))) | (show (Addr.add _ _).block ≠ _; rw [add_block]; exact Kd.own_blk (Kd.R_ne HO_8.out BK257.out (by decide))) | (dsimp only; exact Kd.own_blk (Kd.R_ne HO_8.out BK257.out (by decide)))) _).trans (((cell_far (p := ⟨gb257, _, none⟩) (by first | exact Kd.own_blk (Kd.R_ne HO_8.out BK257.out (by decide)) | (rw [add_block]; exact Kd.own_blk (Kd.R_ne HO_8.out BK257.out (by decide))) | (show (Addr.add _ _).block ≠ _; rw [add_block]; exact Kd.own_blk (Kd.R_ne HO_8.out BK257.out (by decide))) | (dsimp only; exact Kd.own_blk (Kd.R_ne HO_8.out BK257.out (by decide)))) _).trans (((cell_far (p := ⟨gb257, _, none⟩) (by first | exact Kd.own_blk (Kd.R_ne HO_8.out BK257.out (by decide)) | (rw [add_block]; exact Kd.own_blk (Kd.R_ne HO_8.out BK257.out (by decide))) | (show (Addr.add _ _).block ≠ _; rw [add_block]; exact Kd.own_blk (Kd.R_ne HO_8.out BK257.out (by decide))) | (dsimp only; exact Kd.own_blk (Kd.R_ne HO_8.out BK257.out (by decide)))) _).trans (hHeld))))))) (fun hHeld => ?_)
                  clear hK K
                  refine pv_ HT_ 15 (bm 17 65535) ?_
                  refine pv_ HT_ 16 (bm 17 131071) ?_
                  refine done_ (done_of HT_.out (by kernel_rfl)) ?_
                  try go_wp2
                  refine bodyPost_ret (results_ctt rfl _ _ gb257 50 #[.string (rdOf ByteArray.empty t259 0), .slice Ao38 t266.length co38, .string (a0.extract ((ji33) : Int).toNat ((wrap64 ((ji33) + t267)) : Int).toNat)] (0, 0) _ rfl (by (with_reducible repeat (first | refine blk_drewN ?_ _ | refine blk_drew ?_ | refine blk_alloc ?_ _)); refine blk_put (cs := #[.string (rdOf ByteArray.empty t259 0), .slice Ao38 t266.length co38, .string (⟨#[]⟩ : ByteArray)]) ?_ 2 _ rfl; (with_reducible repeat (first | refine blk_drewN ?_ _ | refine blk_drew ?_ | refine blk_alloc ?_ _)); refine blk_put (cs := #[.string (rdOf ByteArray.empty t259 0), .slice none 0 0, .string (⟨#[]⟩ : ByteArray)]) ?_ 1 _ rfl; (with_reducible repeat (first | refine blk_drewN ?_ _ | refine blk_drew ?_ | refine blk_alloc ?_ _)); refine blk_put (cs := #[.string (⟨#[]⟩ : ByteArray), .slice none 0 0, .string (⟨#[]⟩ : ByteArray)]) ?_ 0 _ rfl; (with_reducible repeat (first | refine blk_drewN ?_ _ | refine blk_drew ?_ | refine blk_alloc ?_ _)); exact BK257.out) Tryz.underlying50 rfl (by kernel_rfl)) rfl ?_
                  exact ⟨_, by first | rfl | (simp [errW_none, errW_some] <;> rfl) | (simp only [← hji2, ← hji33]; first | rfl | (simp [errW_none, errW_some] <;> rfl)) | (simp [*, errW_none, errW_some] <;> rfl), by (with_reducible repeat (first | apply Kd.R_alloc | apply Kd.R_drewN | apply Kd.R_drew)); exact Kd.R_mono (Kd.R_far (p := ⟨gb257, 2, none⟩) (Kd.R_far (p := ⟨gb257, 1, none⟩) (Kd.R_far (p := ⟨gb257, 0, none⟩) (Kd.R_types HO_9.out BK257.out (by decide)) (fun _ hk => hk.2) (.string (rdOf ByteArray.empty t259 0))) (fun _ hk => hk.2) (.slice Ao38 t266.length co38)) (fun _ hk => hk.2) (.string (a0.extract ((ji33) : Int).toNat ((wrap64 ((ji33) + t267)) : Int).toNat))) (fun _ hk => trivial), by repeat (first | (with_reducible first | exact HB.out | apply below_alloc | apply pw_below_drewN | apply below_drew1 | refine below_set ?_ GE257.out) | exact HB.out)⟩
                 ·rw [if_neg c36] at H
                  exact absurd H (by simp)
                ·rw [if_neg c35] at H
                 exact absurd H (by simp)
               ·rw [if_neg c34] at H
                exact absurd H (by simp)
              ·rw [if_neg c32] at H
               exact absurd H (by simp)
         ·rw [if_neg c17] at H
          exact absurd H (by simp)
        ·rw [if_neg c15] at H
         exact absurd H (by simp)
       ·rw [if_neg c14] at H
        exact absurd H (by simp)
  ·rw [if_neg c4] at H
   exact absurd H (by simp)
 ·rw [if_neg c3] at H
  exact absurd H (by simp)

def http_ParseResponse.f (k : Nat) (a0 : ByteArray) : Option (Int × (List (S62)) × ByteArray × Int × Int) := (http_parseb.f k a0).bind fun bt275 => (if bt275.2.2.2.2 = 0 then ((strings_SplitN.f bt275.1 (⟨#[32]⟩ : ByteArray) 3).bind fun t283 => (if 1 < (t283.length : Int) then ((char_Number.f (rdOf ByteArray.empty t283 1) 599).bind fun bt287 => (some (wrap64 (bt287.1), bt275.2.1, bt275.2.2.1, bt275.2.2.2.1, 0))) else (none))) else (some (0, ([] : List (S62)), (⟨#[]⟩ : ByteArray), 0, bt275.2.2.2.2)))
set_option maxHeartbeats 8000000 in
set_option maxRecDepth 100000 in
theorem http_ParseResponse.calls (k : Nat) (a0 : ByteArray) (r1 : Int) (r2 : List (S62)) (r3 : ByteArray) (r4 : Int) (r5 : Int) (w : World) (hT : LaidM w) (h : http_ParseResponse.f k a0 = some (r1, r2, r3, r4, r5)) :
  Calls Tryz.prog 9 #[.string a0] w fun e w' => ∃ v1_ : Value, e = .returned (.tuple #[.agg #[.int .i64 r1, v1_, .string r3], .int .i64 r4, .int .i64 r5]) ∧ Kd.R k62 62 w' w.heap.size (fun _ => True) v1_ r2 ∧ Below w.heap.size w w' := by
 have hu33 := Tryz.underlying33
 have hu50 := Tryz.underlying50
 have HB := Aside0.mk (Below.refl w.heap.size w)
 have HT := Aside0.mk hT
 clear hT
 have H : ((http_parseb.f k a0).bind fun bt275 => (if bt275.2.2.2.2 = 0 then ((strings_SplitN.f bt275.1 (⟨#[32]⟩ : ByteArray) 3).bind fun t283 => (if 1 < (t283.length : Int) then ((char_Number.f (rdOf ByteArray.empty t283 1) 599).bind fun bt287 => (some (wrap64 (bt287.1), bt275.2.1, bt275.2.2.1, bt275.2.2.2.1, 0))) else (none))) else (some (0, ([] : List (S62)), (⟨#[]⟩ : ByteArray), 0, bt275.2.2.2.2)))) = some (r1, r2, r3, r4, r5) := h
 clear h
 replace H := Option.bind_eq_some_iff.mp H
 obtain ⟨⟨t275, t276, t279, t280, t281⟩, A20, H⟩ := H
 replace H : (if t281 = 0 then ((strings_SplitN.f t275 (⟨#[32]⟩ : ByteArray) 3).bind fun t283 => (if 1 < (t283.length : Int) then ((char_Number.f (rdOf ByteArray.empty t283 1) 599).bind fun bt287 => (some (wrap64 (bt287.1), t276, t279, t280, 0))) else (none))) else (some (0, ([] : List (S62)), (⟨#[]⟩ : ByteArray), 0, t281))) = some (r1, r2, r3, r4, r5) := H
 have A2 := Aside0.mk A20
 clear A20
 by_cases c3 : t281 = 0
 ·rw [if_pos c3] at H
  have c3b0 : (t281 == 0) = true := beq_iff_eq.mpr c3
  have c3b1 : (t281 != 0) = false := bne_eq_false_iff_eq.mpr c3
  clear c3
  replace H := Option.bind_eq_some_iff.mp H
  obtain ⟨t283, A40, H⟩ := H
  replace H : (if 1 < (t283.length : Int) then ((char_Number.f (rdOf ByteArray.empty t283 1) 599).bind fun bt287 => (some (wrap64 (bt287.1), t276, t279, t280, 0))) else (none)) = some (r1, r2, r3, r4, r5) := H
  have A4 := Aside0.mk A40
  clear A40
  by_cases c5 : 1 < (t283.length : Int)
  ·rw [if_pos c5] at H
   have c5b0 : decide (1 < (t283.length : Int)) = true := decide_eq_true c5
   have c5b1 : decide (1 < t283.length) = true := decide_eq_true (by omega)
   clear c5
   replace H := Option.bind_eq_some_iff.mp H
   obtain ⟨⟨t287, t288⟩, A60, H⟩ := H
   replace H : (some (wrap64 (t287), t276, t279, t280, 0)) = some (r1, r2, r3, r4, r5) := H
   have A6 := Aside0.mk A60
   clear A60
   simp only [Option.some.injEq, Prod.mk.injEq] at H
   obtain ⟨rfl, rfl, rfl, rfl, rfl⟩ := H
   go_enter Tryz.func9, Tryz.ntmps9
   go_wp2_with (first | ((with_reducible refine gate_dst (N := 2) rfl ?_); refine box_event ?hg (N := 2) ?hd (cs := #[.int .i64 0, .slice none 0 0, .string (⟨#[]⟩ : ByteArray)]) (t := 33) ?hr ?_; (case hd => rfl); (case hg => rfl); (case hr => first | (go_simp; done) | (go_simp; rfl)); intro gb274 hg w7 hbox hb; have n0_ := Aside0.mk (below_step (by repeat (first | (with_reducible first | exact HB.out | apply below_alloc | apply pw_below_drewN | apply below_drew1) | exact HB.out)) hb); have n1_ := Aside0.mk (hbox); have n2_ := Aside0.mk ((by rw [hg]; exact (below_size (by repeat (first | (with_reducible first | exact HB.out | apply below_alloc | apply pw_below_drewN | apply below_drew1) | exact HB.out))) : w.heap.size ≤ gb274)); have n3_ := Aside0.mk ((by rw [hg]; exact (below_size (by repeat (first | (with_reducible first | exact HB.out | apply below_alloc | apply pw_below_drewN | apply below_drew1) | exact HB.out))) : w.heap.size ≤ gb274)); clear HB; have HB := n0_; have BK274 := n1_; have GW274 := n2_; have GE274 := n3_; clear n0_ n1_ n2_ n3_; clear hb hbox hg) | ((with_reducible refine gate_callee (f := 18) rfl ?_); refine goesL_ (some 12) rfl rfl Tryz.func18 (by kernel_rfl) rfl #[.string a0, .func (.func 25) #[] #[]] rfl (by (try simp only [List.map_toArray, List.map_cons, List.map_nil]); first | done | rfl | (simp only [List.length_drop, List.length_take]; rfl)) ?_; (with_reducible refine (http_parseb.calls k a0 t275 t276 t279 t280 t281 _ ?side1 A2.out).mono ?_); (case side1 => exact LaidM.below HT.out (by repeat (first | (with_reducible first | exact HB.out | apply below_alloc | apply pw_below_drewN | apply below_drew1 | refine below_set ?_ GE274.out) | exact HB.out))); rintro e w8 ⟨v277, rfl, ho0, hb⟩; refine ⟨_, rfl, ?_⟩; have n0_ := Aside0.mk (Kd.R_lower ho0 (below_size (by repeat (first | (with_reducible first | exact HB.out | apply below_alloc | apply pw_below_drewN | apply below_drew1 | refine below_set ?_ GE274.out) | exact HB.out)))); have n1_ := Aside0.mk (blk_below (g := gb274) (o := .cells #[.int .i64 0, .slice none 0 0, .string (⟨#[]⟩ : ByteArray)] 33 (0, 0)) (by (with_reducible repeat (first | refine blk_drewN ?_ _ | refine blk_drew ?_ | refine blk_alloc ?_ _)); exact BK274.out) hb); have n2_ := Aside0.mk (below_step (by repeat (first | (with_reducible first | exact HB.out | apply below_alloc | apply pw_below_drewN | apply below_drew1 | refine below_set ?_ GE274.out) | exact HB.out)) hb); clear BK274; clear HB; have HO278 := n0_; have BK274 := n1_; have HB := n2_; clear n0_ n1_ n2_; (try clear hb); (try clear hb2); (try clear hk); (try clear hi); (try clear ho0)) | ((with_reducible refine gate_dst (N := 5) rfl ?_); refine box_event ?hg (N := 5) ?hd (cs := #[.string (⟨#[]⟩ : ByteArray), .slice none 0 0, .string (⟨#[]⟩ : ByteArray)]) (t := 50) ?hr ?_; (case hd => rfl); (case hg => rfl); (case hr => first | (go_simp; done) | (go_simp; rfl)); intro gb282 hg w9 hbox hb; have n0_ := Aside0.mk (Kd.R_below (by (with_reducible repeat (first | apply Kd.R_alloc | apply Kd.R_drewN | apply Kd.R_drew)); exact HO278.out) hb); have n1_ := Aside0.mk (blk_below (g := gb274) (o := .cells #[.int .i64 0, .slice none 0 0, .string (⟨#[]⟩ : ByteArray)] 33 (0, 0)) (by (with_reducible repeat (first | refine blk_drewN ?_ _ | refine blk_drew ?_ | refine blk_alloc ?_ _)); exact BK274.out) hb); have n2_ := Aside0.mk (below_step (by repeat (first | (with_reducible first | exact HB.out | apply below_alloc | apply pw_below_drewN | apply below_drew1 | refine below_set ?_ GE274.out) | exact HB.out)) hb); have n3_ := Aside0.mk (hbox); have n4_ := Aside0.mk ((by rw [hg]; exact (below_size (by repeat (first | (with_reducible first | exact HB.out | apply below_alloc | apply pw_below_drewN | apply below_drew1 | refine below_set ?_ GE274.out) | exact HB.out))) : w.heap.size ≤ gb282)); have n5_ := Aside0.mk ((by rw [hg]; exact (below_size (by repeat (first | (with_reducible first | exact HB.out | apply below_alloc | apply pw_below_drewN | apply below_drew1 | refine below_set ?_ GE274.out) | exact HB.out))) : w.heap.size ≤ gb282)); have n6_ := Aside0.mk ((by rw [hg]; exact Nat.ne_of_lt (blk_lt (g := gb274) (o := .cells #[.int .i64 0, .slice none 0 0, .string (⟨#[]⟩ : ByteArray)] 33 (0, 0)) (by (with_reducible repeat (first | refine blk_drewN ?_ _ | refine blk_drew ?_ | refine blk_alloc ?_ _)); exact BK274.out)) : gb274 ≠ gb282)); have n7_ := Aside0.mk ((by rw [hg]; exact Nat.ne_of_gt (blk_lt (g := gb274) (o := .cells #[.int .i64 0, .slice none 0 0, .string (⟨#[]⟩ : ByteArray)] 33 (0, 0)) (by (with_reducible repeat (first | refine blk_drewN ?_ _ | refine blk_drew ?_ | refine blk_alloc ?_ _)); exact BK274.out)) : gb282 ≠ gb274)); clear HO278; clear BK274; clear HB; have HO278 := n0_; have BK274 := n1_; have HB := n2_; have BK282 := n3_; have GW282 := n4_; have GE282 := n5_; have NB274_282 := n6_; have NB282_274 := n7_; clear n0_ n1_ n2_ n3_ n4_ n5_ n6_ n7_; clear hb hbox hg; have hnb10 := NB282_274.out; have hnc10 := NB274_282.out; have hcz11_0 : w9.cell? ⟨gb282, 0, none⟩ = some (.string (⟨#[]⟩ : ByteArray)) := (blk_cell BK282.out 0).trans rfl; have hcz11_1 : w9.cell? ⟨gb282, 1, none⟩ = some (.slice none 0 0) := (blk_cell BK282.out 1).trans rfl; have hcz11_2 : w9.cell? ⟨gb282, 2, none⟩ = some (.string (⟨#[]⟩ : ByteArray)) := (blk_cell BK282.out 2).trans rfl; have hfz11_0 := blk_frozen BK282.out 0; have hfz11_1 := blk_frozen BK282.out 1; have hfz11_2 := blk_frozen BK282.out 2; obtain ⟨Ao12, co12, eo12⟩ := Kd.R_slice HO278.out; subst eo12) | ((with_reducible refine gate_callee (f := 26) rfl ?_); refine goesL_ (some 23) rfl rfl Tryz.func26 (by kernel_rfl) rfl #[.string t275, .string (⟨#[32]⟩ : ByteArray), .int .i64 3] rfl (by (try simp only [List.map_toArray, List.map_cons, List.map_nil]); first | done | rfl | (simp only [List.length_drop, List.length_take]; rfl)) ?_; (with_reducible refine (strings_SplitN.calls t275 (⟨#[32]⟩ : ByteArray) 3 t283 _ ?side1 A4.out).mono ?_); (case side1 => exact LaidM.below HT.out (by repeat (first | (with_reducible first | exact HB.out | apply below_alloc | apply pw_below_drewN | apply below_drew1 | refine below_set ?_ GE274.out | refine below_set ?_ GE282.out) | exact HB.out))); rintro e w13 ⟨v284, rfl, ho0, hb⟩; refine ⟨_, rfl, ?_⟩; have n0_ := Aside0.mk (Kd.R_below (by (with_reducible repeat (first | apply Kd.R_alloc | apply Kd.R_drewN | apply Kd.R_drew)); exact (Kd.R_mono (Kd.R_far (p := ⟨gb282, 2, none⟩) (Kd.R_far (p := ⟨gb282, 1, none⟩) (Kd.R_far (p := ⟨gb282, 0, none⟩) (Kd.R_types HO278.out BK282.out (by decide)) (fun _ hk => hk.2) (.string t275)) (fun _ hk => hk.2) (.slice Ao12 t276.length co12)) (fun _ hk => hk.2) (.string t279)) (fun _ h_ => h_.1))) hb); have n1_ := Aside0.mk (Kd.R_lower ho0 (below_size (by repeat (first | (with_reducible first | exact HB.out | apply below_alloc | apply pw_below_drewN | apply below_drew1 | refine below_set ?_ GE274.out | refine below_set ?_ GE282.out) | exact HB.out)))); have n2_ := Aside0.mk (blk_below (g := gb274) (o := .cells #[.int .i64 0, .slice none 0 0, .string (⟨#[]⟩ : ByteArray)] 33 (0, 0)) (by (with_reducible repeat (first | refine blk_drewN ?_ _ | refine blk_drew ?_ | refine blk_alloc ?_ _)); refine blk_far ?_ NB274_282.out _; (with_reducible repeat (first | refine blk_drewN ?_ _ | refine blk_drew ?_ | refine blk_alloc ?_ _)); refine blk_far ?_ NB274_282.out _; (with_reducible repeat (first | refine blk_drewN ?_ _ | refine blk_drew ?_ | refine blk_alloc ?_ _)); refine blk_far ?_ NB274_282.out _; (with_reducible repeat (first | refine blk_drewN ?_ _ | refine blk_drew ?_ | refine blk_alloc ?_ _)); exact BK274.out) hb); have n3_ := Aside0.mk (blk_below (g := gb282) (o := .cells #[.string t275, .slice Ao12 t276.length co12, .string t279] 50 (0, 0)) (by (with_reducible repeat (first | refine blk_drewN ?_ _ | refine blk_drew ?_ | refine blk_alloc ?_ _)); refine blk_put (cs := #[.string t275, .slice Ao12 t276.length co12, .string (⟨#[]⟩ : ByteArray)]) ?_ 2 _ rfl; (with_reducible repeat (first | refine blk_drewN ?_ _ | refine blk_drew ?_ | refine blk_alloc ?_ _)); refine blk_put (cs := #[.string t275, .slice none 0 0, .string (⟨#[]⟩ : ByteArray)]) ?_ 1 _ rfl; (with_reducible repeat (first | refine blk_drewN ?_ _ | refine blk_drew ?_ | refine blk_alloc ?_ _)); refine blk_put (cs := #[.string (⟨#[]⟩ : ByteArray), .slice none 0 0, .string (⟨#[]⟩ : ByteArray)]) ?_ 0 _ rfl; (with_reducible repeat (first | refine blk_drewN ?_ _ | refine blk_drew ?_ | refine blk_alloc ?_ _)); exact BK282.out) hb); have n4_ := Aside0.mk (below_step (by repeat (first | (with_reducible first | exact HB.out | apply below_alloc | apply pw_below_drewN | apply below_drew1 | refine below_set ?_ GE274.out | refine below_set ?_ GE282.out) | exact HB.out)) hb); clear HO278; clear BK274; clear BK282; clear HB; have HO278 := n0_; have HO285 := n1_; have BK274 := n2_; have BK282 := n3_; have HB := n4_; clear n0_ n1_ n2_ n3_ n4_; (try clear hb); (try clear hb2); (try clear hk); (try clear hi); (try clear ho0); obtain ⟨Ao14, co14, eo14⟩ := Kd.R_slice HO285.out; subst eo14; have p286 : 0 ≤ (1 : Int) := (by omega); have q286 : 1 < (t283.length : Int) := of_decide_eq_true (by first | (with_reducible assumption) | assumption); obtain ⟨ad286, e286, hx286_0⟩ := Kd.at_string (Kd.R_reads' HO285.out).2.2 1 p286 q286; cases e286; (try simp only [show (1 : Int).toNat = 1 from rfl, Nat.reduceMul, Nat.reduceEqDiff, Go.Addr.add, ↓reduceIte] at hx286_0); have qi286 : (1 < t283.length) = True := eq_true (by omega); (try rw [show ((1 : Int)).toNat = 1 from rfl] at hx286_0); replace p286 := eq_true p286; replace q286 := eq_true q286) | ((with_reducible refine gate_callee (f := 28) rfl ?_); refine goesL_ (some 26) rfl rfl Tryz.func28 (by kernel_rfl) rfl #[.string (rdOf ByteArray.empty t283 1), .int .u64 599] rfl (by (try simp only [List.map_toArray, List.map_cons, List.map_nil]); first | done | rfl | (simp only [List.length_drop, List.length_take]; rfl)) ?_; (with_reducible refine (char_Number.calls (rdOf ByteArray.empty t283 1) 599 t287 t288 _ ?side1 A6.out).mono ?_); (case side1 => exact LaidM.below HT.out (by repeat (first | (with_reducible first | exact HB.out | apply below_alloc | apply pw_below_drewN | apply below_drew1 | refine below_set ?_ GE274.out | refine below_set ?_ GE282.out) | exact HB.out))); rintro e w15 ⟨rfl, hb⟩; refine ⟨_, rfl, ?_⟩; have n0_ := Aside0.mk (Kd.R_below (by (with_reducible repeat (first | apply Kd.R_alloc | apply Kd.R_drewN | apply Kd.R_drew)); exact HO278.out) hb); have n1_ := Aside0.mk (Kd.R_below (by (with_reducible repeat (first | apply Kd.R_alloc | apply Kd.R_drewN | apply Kd.R_drew)); exact HO285.out) hb); have n2_ := Aside0.mk (blk_below (g := gb274) (o := .cells #[.int .i64 0, .slice none 0 0, .string (⟨#[]⟩ : ByteArray)] 33 (0, 0)) (by (with_reducible repeat (first | refine blk_drewN ?_ _ | refine blk_drew ?_ | refine blk_alloc ?_ _)); exact BK274.out) hb); have n3_ := Aside0.mk (blk_below (g := gb282) (o := .cells #[.string t275, .slice Ao12 t276.length co12, .string t279] 50 (0, 0)) (by (with_reducible repeat (first | refine blk_drewN ?_ _ | refine blk_drew ?_ | refine blk_alloc ?_ _)); exact BK282.out) hb); have n4_ := Aside0.mk (below_step (by repeat (first | (with_reducible first | exact HB.out | apply below_alloc | apply pw_below_drewN | apply below_drew1 | refine below_set ?_ GE274.out | refine below_set ?_ GE282.out) | exact HB.out)) hb); clear HO278; clear HO285; clear BK274; clear BK282; clear HB; have HO278 := n0_; have HO285 := n1_; have BK274 := n2_; have BK282 := n3_; have HB := n4_; clear n0_ n1_ n2_ n3_ n4_; (try clear hb); (try clear hb2); (try clear hk); (try clear hi); have hcz16_0 : w15.cell? ⟨gb282, 0, none⟩ = some (.string t275) := (blk_cell BK282.out 0).trans rfl; have hcz16_1 : w15.cell? ⟨gb282, 1, none⟩ = some (.slice Ao12 t276.length co12) := (blk_cell BK282.out 1).trans rfl; have hcz16_2 : w15.cell? ⟨gb282, 2, none⟩ = some (.string t279) := (blk_cell BK282.out 2).trans rfl; have hfz16_0 := blk_frozen BK282.out 0; have hfz16_1 := blk_frozen BK282.out 1; have hfz16_2 := blk_frozen BK282.out 2; have hcz17_0 : w15.cell? ⟨gb274, 0, none⟩ = some (.int .i64 0) := (blk_cell BK274.out 0).trans rfl; have hcz17_1 : w15.cell? ⟨gb274, 1, none⟩ = some (.slice none 0 0) := (blk_cell BK274.out 1).trans rfl; have hcz17_2 : w15.cell? ⟨gb274, 2, none⟩ = some (.string (⟨#[]⟩ : ByteArray)) := (blk_cell BK274.out 2).trans rfl; have hfz17_0 := blk_frozen BK274.out 0; have hfz17_1 := blk_frozen BK274.out 1; have hfz17_2 := blk_frozen BK274.out 2))
   refine bodyPost_ret (results_ctt rfl _ _ gb274 33 #[.int .i64 (wrap64 (t287)), .slice Ao12 t276.length co12, .string t279] (0, 0) _ rfl (by (with_reducible repeat (first | refine blk_drewN ?_ _ | refine blk_drew ?_ | refine blk_alloc ?_ _)); refine blk_put (cs := #[.int .i64 (wrap64 (t287)), .slice Ao12 t276.length co12, .string (⟨#[]⟩ : ByteArray)]) ?_ 2 _ rfl; (with_reducible repeat (first | refine blk_drewN ?_ _ | refine blk_drew ?_ | refine blk_alloc ?_ _)); refine blk_put (cs := #[.int .i64 (wrap64 (t287)), .slice none 0 0, .string (⟨#[]⟩ : ByteArray)]) ?_ 1 _ rfl; (with_reducible repeat (first | refine blk_drewN ?_ _ | refine blk_drew ?_ | refine blk_alloc ?_ _)); refine blk_put (cs := #[.int .i64 0, .slice none 0 0, .string (⟨#[]⟩ : ByteArray)]) ?_ 0 _ rfl; (with_reducible repeat (first | refine blk_drewN ?_ _ | refine blk_drew ?_ | refine blk_alloc ?_ _)); exact BK274.out) Tryz.underlying33 rfl (by kernel_rfl)) rfl ?_
   exact ⟨_, by first | rfl | (simp [errW_none, errW_some] <;> rfl) | (simp [*, errW_none, errW_some] <;> rfl), by (with_reducible repeat (first | apply Kd.R_alloc | apply Kd.R_drewN | apply Kd.R_drew)); exact Kd.R_mono (Kd.R_far (p := ⟨gb274, 2, none⟩) (Kd.R_far (p := ⟨gb274, 1, none⟩) (Kd.R_far (p := ⟨gb274, 0, none⟩) (Kd.R_types HO278.out BK274.out (by decide)) (fun _ hk => hk.2) (.int .i64 (wrap64 (t287)))) (fun _ hk => hk.2) (.slice Ao12 t276.length co12)) (fun _ hk => hk.2) (.string t279)) (fun _ hk => trivial), by repeat (first | (with_reducible first | exact HB.out | apply below_alloc | apply pw_below_drewN | apply below_drew1 | refine below_set ?_ GE274.out | refine below_set ?_ GE282.out) | exact HB.out)⟩
  ·rw [if_neg c5] at H
   exact absurd H (by simp)
 ·rw [if_neg c3] at H
  have c3b0 : (t281 == 0) = false := beq_eq_false_iff_ne.mpr c3
  have c3b1 : (t281 != 0) = true := bne_iff_ne.mpr c3
  simp only [Option.some.injEq, Prod.mk.injEq] at H
  obtain ⟨rfl, rfl, rfl, rfl, rfl⟩ := H
  go_enter Tryz.func9, Tryz.ntmps9
  go_wp2_with (first | ((with_reducible refine gate_dst (N := 2) rfl ?_); refine box_event ?hg (N := 2) ?hd (cs := #[.int .i64 0, .slice none 0 0, .string (⟨#[]⟩ : ByteArray)]) (t := 33) ?hr ?_; (case hd => rfl); (case hg => rfl); (case hr => first | (go_simp; done) | (go_simp; rfl)); intro gb274 hg w18 hbox hb; have n0_ := Aside0.mk (below_step (by repeat (first | (with_reducible first | exact HB.out | apply below_alloc | apply pw_below_drewN | apply below_drew1) | exact HB.out)) hb); have n1_ := Aside0.mk (hbox); have n2_ := Aside0.mk ((by rw [hg]; exact (below_size (by repeat (first | (with_reducible first | exact HB.out | apply below_alloc | apply pw_below_drewN | apply below_drew1) | exact HB.out))) : w.heap.size ≤ gb274)); have n3_ := Aside0.mk ((by rw [hg]; exact (below_size (by repeat (first | (with_reducible first | exact HB.out | apply below_alloc | apply pw_below_drewN | apply below_drew1) | exact HB.out))) : w.heap.size ≤ gb274)); clear HB; have HB := n0_; have BK274 := n1_; have GW274 := n2_; have GE274 := n3_; clear n0_ n1_ n2_ n3_; clear hb hbox hg) | ((with_reducible refine gate_callee (f := 18) rfl ?_); refine goesL_ (some 12) rfl rfl Tryz.func18 (by kernel_rfl) rfl #[.string a0, .func (.func 25) #[] #[]] rfl (by (try simp only [List.map_toArray, List.map_cons, List.map_nil]); first | done | rfl | (simp only [List.length_drop, List.length_take]; rfl)) ?_; (with_reducible refine (http_parseb.calls k a0 t275 t276 t279 t280 t281 _ ?side1 A2.out).mono ?_); (case side1 => exact LaidM.below HT.out (by repeat (first | (with_reducible first | exact HB.out | apply below_alloc | apply pw_below_drewN | apply below_drew1 | refine below_set ?_ GE274.out) | exact HB.out))); rintro e w19 ⟨v277, rfl, ho0, hb⟩; refine ⟨_, rfl, ?_⟩; have n0_ := Aside0.mk (Kd.R_lower ho0 (below_size (by repeat (first | (with_reducible first | exact HB.out | apply below_alloc | apply pw_below_drewN | apply below_drew1 | refine below_set ?_ GE274.out) | exact HB.out)))); have n1_ := Aside0.mk (blk_below (g := gb274) (o := .cells #[.int .i64 0, .slice none 0 0, .string (⟨#[]⟩ : ByteArray)] 33 (0, 0)) (by (with_reducible repeat (first | refine blk_drewN ?_ _ | refine blk_drew ?_ | refine blk_alloc ?_ _)); exact BK274.out) hb); have n2_ := Aside0.mk (below_step (by repeat (first | (with_reducible first | exact HB.out | apply below_alloc | apply pw_below_drewN | apply below_drew1 | refine below_set ?_ GE274.out) | exact HB.out)) hb); clear BK274; clear HB; have HO278 := n0_; have BK274 := n1_; have HB := n2_; clear n0_ n1_ n2_; (try clear hb); (try clear hb2); (try clear hk); (try clear hi); (try clear ho0)) | ((with_reducible refine gate_dst (N := 5) rfl ?_); refine box_event ?hg (N := 5) ?hd (cs := #[.string (⟨#[]⟩ : ByteArray), .slice none 0 0, .string (⟨#[]⟩ : ByteArray)]) (t := 50) ?hr ?_; (case hd => rfl); (case hg => rfl); (case hr => first | (go_simp; done) | (go_simp; rfl)); intro gb282 hg w20 hbox hb; have n0_ := Aside0.mk (Kd.R_below (by (with_reducible repeat (first | apply Kd.R_alloc | apply Kd.R_drewN | apply Kd.R_drew)); exact HO278.out) hb); have n1_ := Aside0.mk (blk_below (g := gb274) (o := .cells #[.int .i64 0, .slice none 0 0, .string (⟨#[]⟩ : ByteArray)] 33 (0, 0)) (by (with_reducible repeat (first | refine blk_drewN ?_ _ | refine blk_drew ?_ | refine blk_alloc ?_ _)); exact BK274.out) hb); have n2_ := Aside0.mk (below_step (by repeat (first | (with_reducible first | exact HB.out | apply below_alloc | apply pw_below_drewN | apply below_drew1 | refine below_set ?_ GE274.out) | exact HB.out)) hb); have n3_ := Aside0.mk (hbox); have n4_ := Aside0.mk ((by rw [hg]; exact (below_size (by repeat (first | (with_reducible first | exact HB.out | apply below_alloc | apply pw_below_drewN | apply below_drew1 | refine below_set ?_ GE274.out) | exact HB.out))) : w.heap.size ≤ gb282)); have n5_ := Aside0.mk ((by rw [hg]; exact (below_size (by repeat (first | (with_reducible first | exact HB.out | apply below_alloc | apply pw_below_drewN | apply below_drew1 | refine below_set ?_ GE274.out) | exact HB.out))) : w.heap.size ≤ gb282)); have n6_ := Aside0.mk ((by rw [hg]; exact Nat.ne_of_lt (blk_lt (g := gb274) (o := .cells #[.int .i64 0, .slice none 0 0, .string (⟨#[]⟩ : ByteArray)] 33 (0, 0)) (by (with_reducible repeat (first | refine blk_drewN ?_ _ | refine blk_drew ?_ | refine blk_alloc ?_ _)); exact BK274.out)) : gb274 ≠ gb282)); have n7_ := Aside0.mk ((by rw [hg]; exact Nat.ne_of_gt (blk_lt (g := gb274) (o := .cells #[.int .i64 0, .slice none 0 0, .string (⟨#[]⟩ : ByteArray)] 33 (0, 0)) (by (with_reducible repeat (first | refine blk_drewN ?_ _ | refine blk_drew ?_ | refine blk_alloc ?_ _)); exact BK274.out)) : gb282 ≠ gb274)); clear HO278; clear BK274; clear HB; have HO278 := n0_; have BK274 := n1_; have HB := n2_; have BK282 := n3_; have GW282 := n4_; have GE282 := n5_; have NB274_282 := n6_; have NB282_274 := n7_; clear n0_ n1_ n2_ n3_ n4_ n5_ n6_ n7_; clear hb hbox hg; have hnb21 := NB282_274.out; have hnc21 := NB274_282.out; have hcz22_0 : w20.cell? ⟨gb282, 0, none⟩ = some (.string (⟨#[]⟩ : ByteArray)) := (blk_cell BK282.out 0).trans rfl; have hcz22_1 : w20.cell? ⟨gb282, 1, none⟩ = some (.slice none 0 0) := (blk_cell BK282.out 1).trans rfl; have hcz22_2 : w20.cell? ⟨gb282, 2, none⟩ = some (.string (⟨#[]⟩ : ByteArray)) := (blk_cell BK282.out 2).trans rfl; have hfz22_0 := blk_frozen BK282.out 0; have hfz22_1 := blk_frozen BK282.out 1; have hfz22_2 := blk_frozen BK282.out 2; obtain ⟨Ao23, co23, eo23⟩ := Kd.R_slice HO278.out; subst eo23; have hcz24_0 : w20.cell? ⟨gb274, 0, none⟩ = some (.int .i64 0) := (blk_cell BK274.out 0).trans rfl; have hcz24_1 : w20.cell? ⟨gb274, 1, none⟩ = some (.slice none 0 0) := (blk_cell BK274.out 1).trans rfl; have hcz24_2 : w20.cell? ⟨gb274, 2, none⟩ = some (.string (⟨#[]⟩ : ByteArray)) := (blk_cell BK274.out 2).trans rfl; have hfz24_0 := blk_frozen BK274.out 0; have hfz24_1 := blk_frozen BK274.out 1; have hfz24_2 := blk_frozen BK274.out 2))
  refine bodyPost_ret (results_ctt rfl _ _ gb274 33 #[.int .i64 0, .slice none 0 0, .string (⟨#[]⟩ : ByteArray)] (0, 0) _ rfl (by (with_reducible repeat (first | refine blk_drewN ?_ _ | refine blk_drew ?_ | refine blk_alloc ?_ _)); refine blk_put (cs := #[.int .i64 0, .slice none 0 0, .string (⟨#[]⟩ : ByteArray)]) ?_ 2 _ rfl; (with_reducible repeat (first | refine blk_drewN ?_ _ | refine blk_drew ?_ | refine blk_alloc ?_ _)); refine blk_put (cs := #[.int .i64 0, .slice none 0 0, .string (⟨#[]⟩ : ByteArray)]) ?_ 1 _ rfl; (with_reducible repeat (first | refine blk_drewN ?_ _ | refine blk_drew ?_ | refine blk_alloc ?_ _)); refine blk_put (cs := #[.int .i64 0, .slice none 0 0, .string (⟨#[]⟩ : ByteArray)]) ?_ 0 _ rfl; (with_reducible repeat (first | refine blk_drewN ?_ _ | refine blk_drew ?_ | refine blk_alloc ?_ _)); refine blk_far ?_ NB274_282.out _; (with_reducible repeat (first | refine blk_drewN ?_ _ | refine blk_drew ?_ | refine blk_alloc ?_ _)); refine blk_far ?_ NB274_282.out _; (with_reducible repeat (first | refine blk_drewN ?_ _ | refine blk_drew ?_ | refine blk_alloc ?_ _)); refine blk_far ?_ NB274_282.out _; (with_reducible repeat (first | refine blk_drewN ?_ _ | refine blk_drew ?_ | refine blk_alloc ?_ _)); exact BK274.out) Tryz.underlying33 rfl (by kernel_rfl)) rfl ?_
  exact ⟨_, by first | rfl | (simp [errW_none, errW_some] <;> rfl) | (simp [*, errW_none, errW_some] <;> rfl), by first | exact Kd.R_nil _ _ _ _ _ | exact Kd.N_nil _ _ _ _ _ | exact Kd.V_nil _ _ _ _ _ | exact Kd.Q_nil _ _ _ _ _ | exact Kd.S_nil _ _ _ _ _, by repeat (first | (with_reducible first | exact HB.out | apply below_alloc | apply pw_below_drewN | apply below_drew1 | refine below_set ?_ GE274.out | refine below_set ?_ GE282.out) | exact HB.out)⟩

end Go.Proofs.YtipfekjmcddelaaGreatDoor.XHttpReads
