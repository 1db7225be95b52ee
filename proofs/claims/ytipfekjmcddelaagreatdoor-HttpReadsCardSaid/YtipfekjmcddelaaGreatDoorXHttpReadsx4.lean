-- written by wip/xprint.py: the kit's print with functions walked by hand
import Derived.Test.YtipfekjmcddelaaGreatDoorPk
import Derived.Test.YtipfekjmcddelaaGreatDoorXHttpReadsx0
import Derived.Test.YtipfekjmcddelaaGreatDoorXHttpReadsx2
import Derived.Test.YtipfekjmcddelaaGreatDoorXHttpReadsx3
namespace Go.Proofs.YtipfekjmcddelaaGreatDoor.XHttpReads
open Go.RowKit Go.Proofs.YtipfekjmcddelaaGreatDoorW.PrintWords Go.Proofs.YtipfekjmcddelaaGreatDoorW.PrintLast Go.Proofs.YtipfekjmcddelaaGreatDoorW.PrintMore
attribute [local go_sem] max2_int min2_int max_two min_two max_three min_three max_four min_four   -- for this text's walks alone
set_option linter.unusedVariables false
set_option linter.unusedSimpArgs false

def http_printed.l0 : Nat → ByteArray → List (S62) → Int → Int → ByteArray → List (S62) → ByteArray → Option (ByteArray × Int)
 | 0, _, _, _, _, _, _, _ => none
 | k + 1, x4, x15, x16, x17, x161000, x161001, x161002 => if x17 < x16 then (if 0 ≤ x17 then (if x17 < (x15.length : Int) then ((http_name.f ((rd_T62 x15 x17).f0)).bind fun t164 => (if t164 = true then ((http_content.f k ((rd_T62 x15 x17).f1)).bind fun t165 => (if t165 = true then ((strings_Trim.f ((rd_T62 x15 x17).f1) (⟨#[32, 9]⟩ : ByteArray)).bind fun t166 => (if t166.toList = ((rd_T62 x15 x17).f1).toList then ((char_Same.f ((rd_T62 x15 x17).f0) (⟨#[67, 111, 110, 116, 101, 110, 116, 45, 76, 101, 110, 103, 116, 104]⟩ : ByteArray)).bind fun t167 => (if t167 = true then (some ((⟨#[]⟩ : ByteArray), 80)) else ((char_Same.f ((rd_T62 x15 x17).f0) (⟨#[84, 114, 97, 110, 115, 102, 101, 114, 45, 69, 110, 99, 111, 100, 105, 110, 103]⟩ : ByteArray)).bind fun t168 => (if t168 = true then (some ((⟨#[]⟩ : ByteArray), 80)) else (if ((rd_T62 x15 x17).f0).size + 2 ≤ 9223372036854775807 then (if (((rd_T62 x15 x17).f0) ++ (⟨#[58, 32]⟩ : ByteArray)).size + ((rd_T62 x15 x17).f1).size ≤ 9223372036854775807 then (if ((((rd_T62 x15 x17).f0) ++ (⟨#[58, 32]⟩ : ByteArray)) ++ ((rd_T62 x15 x17).f1)).size + 2 ≤ 9223372036854775807 then (if x4.size + (((((rd_T62 x15 x17).f0) ++ (⟨#[58, 32]⟩ : ByteArray)) ++ ((rd_T62 x15 x17).f1)) ++ (⟨#[13, 10]⟩ : ByteArray)).size ≤ 9223372036854775807 then (http_printed.l0 k (x4 ++ (((((rd_T62 x15 x17).f0) ++ (⟨#[58, 32]⟩ : ByteArray)) ++ ((rd_T62 x15 x17).f1)) ++ (⟨#[13, 10]⟩ : ByteArray))) x15 x16 (wrap64 (x17 + 1)) x161000 x161001 x161002) else (none)) else (none)) else (none)) else (none)))))) else (some ((⟨#[]⟩ : ByteArray), 80)))) else (some ((⟨#[]⟩ : ByteArray), 80)))) else (some ((⟨#[]⟩ : ByteArray), 80)))) else (none)) else (none)) else ((char_Decimal.f (IntKind.u64.wrap ((x161002.size : Int)))).bind fun t161 => (if 16 + t161.size ≤ 9223372036854775807 then (if ((⟨#[67, 111, 110, 116, 101, 110, 116, 45, 76, 101, 110, 103, 116, 104, 58, 32]⟩ : ByteArray) ++ t161).size + 2 ≤ 9223372036854775807 then (if (((⟨#[67, 111, 110, 116, 101, 110, 116, 45, 76, 101, 110, 103, 116, 104, 58, 32]⟩ : ByteArray) ++ t161) ++ (⟨#[13, 10]⟩ : ByteArray)).size + 2 ≤ 9223372036854775807 then (if x4.size + ((((⟨#[67, 111, 110, 116, 101, 110, 116, 45, 76, 101, 110, 103, 116, 104, 58, 32]⟩ : ByteArray) ++ t161) ++ (⟨#[13, 10]⟩ : ByteArray)) ++ (⟨#[13, 10]⟩ : ByteArray)).size ≤ 9223372036854775807 then (if (x161002.size : Int) > 65536 then (some ((⟨#[]⟩ : ByteArray), 11)) else (if ((x4 ++ ((((⟨#[67, 111, 110, 116, 101, 110, 116, 45, 76, 101, 110, 103, 116, 104, 58, 32]⟩ : ByteArray) ++ t161) ++ (⟨#[13, 10]⟩ : ByteArray)) ++ (⟨#[13, 10]⟩ : ByteArray))).size : Int) > 8192 then (some ((⟨#[]⟩ : ByteArray), 11)) else (if (x4 ++ ((((⟨#[67, 111, 110, 116, 101, 110, 116, 45, 76, 101, 110, 103, 116, 104, 58, 32]⟩ : ByteArray) ++ t161) ++ (⟨#[13, 10]⟩ : ByteArray)) ++ (⟨#[13, 10]⟩ : ByteArray))).size + x161002.size ≤ 9223372036854775807 then (some ((x4 ++ ((((⟨#[67, 111, 110, 116, 101, 110, 116, 45, 76, 101, 110, 103, 116, 104, 58, 32]⟩ : ByteArray) ++ t161) ++ (⟨#[13, 10]⟩ : ByteArray)) ++ (⟨#[13, 10]⟩ : ByteArray))) ++ x161002, 0)) else (none)))) else (none)) else (none)) else (none)) else (none)))
def http_printed.f (k : Nat) (a0_0 : ByteArray) (l0_1 : List (S62)) (a0_2 : ByteArray) : Option (ByteArray × Int) := if (l0_1.length : Int) ≥ 32 then (some ((⟨#[]⟩ : ByteArray), 80)) else (if a0_0.size + 2 ≤ 9223372036854775807 then (http_printed.l0 k (a0_0 ++ (⟨#[13, 10]⟩ : ByteArray)) l0_1 (l0_1.length : Int) 0 a0_0 l0_1 a0_2) else (none))
theorem http_printed.mono_l : ∀ k, (∀ y0 y1 y2 y3 y4 y5 y6, LeO (http_printed.l0 k y0 y1 y2 y3 y4 y5 y6) (http_printed.l0 (k + 1) y0 y1 y2 y3 y4 y5 y6))
 | 0 => fun _ _ _ _ _ _ _ r h => by simp [http_printed.l0] at h
 | k + 1 => by
  have ih0 := http_printed.mono_l k
  ·intro y0 y1 y2 y3 y4 y5 y6
   unfold http_printed.l0
   repeat' first
   | (with_reducible exact ih0 _ _ _ _ _ _ _)
   | (with_reducible exact http_content.mono _ _)
   | (with_reducible exact LeO.refl _)
   | (with_reducible exact LeO.none _)
   | (with_reducible refine LeO.ite ?_ ?_)
   | (with_reducible refine LeO.bind ?_ (fun _ => ?_))
   | exact ih0 _ _ _ _ _ _ _
   | exact http_content.mono _ _
   | exact LeO.none _
   | refine LeO.ite ?_ ?_
   | refine LeO.bind ?_ (fun _ => ?_)
theorem http_printed.mono : ∀ a0 a1 a2 k, LeO (http_printed.f k a0 a1 a2) (http_printed.f (k + 1) a0 a1 a2) := by
 intro a0 a1 a2 k
 have ih0 := http_printed.mono_l k
 unfold http_printed.f
 repeat' first
   | (with_reducible exact ih0 _ _ _ _ _ _ _)
   | (with_reducible exact http_content.mono _ _)
   | (with_reducible exact LeO.refl _)
   | (with_reducible exact LeO.none _)
   | (with_reducible refine LeO.ite ?_ ?_)
   | (with_reducible refine LeO.bind ?_ (fun _ => ?_))
   | exact ih0 _ _ _ _ _ _ _
   | exact http_content.mono _ _
   | exact LeO.none _
   | refine LeO.ite ?_ ?_
   | refine LeO.bind ?_ (fun _ => ?_)
def http_printed.T7 : Bool × List (List Nat × List Nat) := (true, [([], []), ([0], [0]), ([1], [1]), ([2], [2]), ([3, 2], [3]), ([4], [4]), ([5, 4], [4, 5]), ([6, 4, 4], [4, 6]), ([7, 4], [4, 7]), ([4, 8], [4, 8]), ([9, 7], [9]), ([10], [10]), ([11, 10], [10, 11]), ([12, 10, 10], [10, 12]), ([10], [10]), ([14, 10], [10, 14]), ([13, 15, 10], [10, 13, 15]), ([10, 16], [10, 16]), ([17, 13], [17]), ([18], [18]), ([19, 18], [18, 19]), ([20, 18, 18], [18, 20]), ([18, 21], [18, 21]), ([22, 21], [22]), ([23], [23]), ([24, 23], [23, 24]), ([25, 23, 23], [23, 25]), ([23, 26], [23, 26])])
def http_printed.B7 : List Nat := [0, 1, 3, 7, 15, 31, 63, 127, 255, 511, 1023, 2047, 4095, 8191, 2047, 18431, 65535, 131071, 262143, 524287, 1048575, 2097151, 4194303, 8388607, 16777215, 33554431, 67108863, 134217727]
theorem http_printed.tab7 : rtab .any (opsOf Tryz.f30 7) = http_printed.T7 := by kernel_rfl
theorem http_printed.bits7 : waitsOk http_printed.T7.2 http_printed.B7 = true := by kernel_rfl
set_option maxHeartbeats 8000000 in
set_option maxRecDepth 100000 in
theorem http_printed.calls (k : Nat) (a0_0 : ByteArray) (A0_1 : Option Addr) (c0_1 : Nat) (l0_1 : List (S62)) (a0_2 : ByteArray) (r1 : ByteArray) (r2 : Int) (w : World) (hr0_1 : Kd.C k62 w A0_1 l0_1.length l0_1) (hc0_1 : l0_1.length ≤ c0_1) (hT : LaidM w) (h : http_printed.f k a0_0 l0_1 a0_2 = some (r1, r2)) :
  Calls Tryz.prog 30 #[.agg #[.string a0_0, .slice A0_1 l0_1.length c0_1, .string a0_2]] w fun e w' => e = .returned (.tuple #[.string r1, .int .i64 r2]) ∧ Below w.heap.size w w' := by
 have hu50 := Tryz.underlying50
 have hu62 := Tryz.underlying62
 have HR0_1 := Aside0.mk hr0_1
 have HC0_1 := Aside0.mk hc0_1
 clear hr0_1 hc0_1
 have HB := Aside0.mk (Below.refl w.heap.size w)
 have HT := Aside0.mk hT
 clear hT
 have H : (if (l0_1.length : Int) ≥ 32 then (some ((⟨#[]⟩ : ByteArray), 80)) else (if a0_0.size + 2 ≤ 9223372036854775807 then (http_printed.l0 k (a0_0 ++ (⟨#[13, 10]⟩ : ByteArray)) l0_1 (l0_1.length : Int) 0 a0_0 l0_1 a0_2) else (none))) = some (r1, r2) := h
 clear h
 by_cases c2 : (l0_1.length : Int) ≥ 32
 ·rw [if_pos c2] at H
  have c2b0 : decide (32 ≤ (l0_1.length : Int)) = true := decide_eq_true c2
  have c2b1 : decide (32 ≤ l0_1.length) = true := decide_eq_true (by omega)
  clear c2
  simp only [Option.some.injEq, Prod.mk.injEq] at H
  obtain ⟨rfl, rfl⟩ := H
  go_enter Tryz.func30, Tryz.ntmps30
  go_wp2_with (first | ((with_reducible refine gate_dst (N := 1) rfl ?_); (try (refine gate_guard (by rfl) ?_; dsimp only)); refine box_event ?hg (N := 1) ?hd (cs := #[.string a0_0, .slice A0_1 l0_1.length c0_1, .string a0_2]) (t := 50) ?hr ?_; (case hd => rfl); (case hg => rfl); (case hr => first | (go_simp; done) | (go_simp; rfl)); intro gb160 hg w3 hbox hb; have n0_ := Aside0.mk (below_step (by repeat (first | (with_reducible first | exact HB.out | apply below_alloc | apply pw_below_drewN | apply below_drew1) | exact HB.out)) hb); have n1_ := Aside0.mk (hbox); have n2_ := Aside0.mk ((by rw [hg]; exact (below_size (by repeat (first | (with_reducible first | exact HB.out | apply below_alloc | apply pw_below_drewN | apply below_drew1) | exact HB.out))) : w.heap.size ≤ gb160)); have n3_ := Aside0.mk ((by rw [hg]; exact (below_size (by repeat (first | (with_reducible first | exact HB.out | apply below_alloc | apply pw_below_drewN | apply below_drew1) | exact HB.out))) : w.heap.size ≤ gb160)); clear HB; have HB := n0_; have BK160 := n1_; have GW160 := n2_; have GE160 := n3_; clear n0_ n1_ n2_ n3_; clear hb hbox hg; have hcz4_0 : w3.cell? ⟨gb160, 0, none⟩ = some (.string a0_0) := (blk_cell BK160.out 0).trans rfl; have hcz4_1 : w3.cell? ⟨gb160, 1, none⟩ = some (.slice A0_1 l0_1.length c0_1) := (blk_cell BK160.out 1).trans rfl; have hcz4_2 : w3.cell? ⟨gb160, 2, none⟩ = some (.string a0_2) := (blk_cell BK160.out 2).trans rfl; have hfz4_0 := blk_frozen BK160.out 0; have hfz4_1 := blk_frozen BK160.out 1; have hfz4_2 := blk_frozen BK160.out 2))
  go_ret2
  exact ⟨by first | rfl | (simp [errW_none, errW_some] <;> rfl) | (simp [*, errW_none, errW_some] <;> rfl), by repeat (first | (with_reducible first | exact HB.out | apply below_alloc | apply pw_below_drewN | apply below_drew1 | refine below_set ?_ GE160.out) | exact HB.out)⟩
 ·rw [if_neg c2] at H
  have c2b0 : decide (32 ≤ (l0_1.length : Int)) = false := decide_eq_false c2
  have c2b1 : decide (32 ≤ l0_1.length) = false := decide_eq_false (by omega)
  clear c2
  by_cases c5 : a0_0.size + 2 ≤ 9223372036854775807
  ·rw [if_pos c5] at H
   have c5b0 := eq_true c5
   have c5b1 : decide (a0_0.size + 2 ≤ 9223372036854775807) = true := decide_eq_true c5
   try have c5b2 : (9223372036854775807 < a0_0.size + 2) = False := eq_false (Nat.not_lt.2 c5)
   have H' := Aside0.mk H
   clear H
   go_enter Tryz.func30, Tryz.ntmps30
   go_wp2_with (first | ((with_reducible refine gate_dst (N := 1) rfl ?_); (try (refine gate_guard (by rfl) ?_; dsimp only)); refine box_event ?hg (N := 1) ?hd (cs := #[.string a0_0, .slice A0_1 l0_1.length c0_1, .string a0_2]) (t := 50) ?hr ?_; (case hd => rfl); (case hg => rfl); (case hr => first | (go_simp; done) | (go_simp; rfl)); intro gb160 hg w6 hbox hb; have n0_ := Aside0.mk (below_step (by repeat (first | (with_reducible first | exact HB.out | apply below_alloc | apply pw_below_drewN | apply below_drew1) | exact HB.out)) hb); have n1_ := Aside0.mk (hbox); have n2_ := Aside0.mk ((by rw [hg]; exact (below_size (by repeat (first | (with_reducible first | exact HB.out | apply below_alloc | apply pw_below_drewN | apply below_drew1) | exact HB.out))) : w.heap.size ≤ gb160)); have n3_ := Aside0.mk ((by rw [hg]; exact (below_size (by repeat (first | (with_reducible first | exact HB.out | apply below_alloc | apply pw_below_drewN | apply below_drew1) | exact HB.out))) : w.heap.size ≤ gb160)); clear HB; have HB := n0_; have BK160 := n1_; have GW160 := n2_; have GE160 := n3_; clear n0_ n1_ n2_ n3_; clear hb hbox hg; have hcz7_0 : w6.cell? ⟨gb160, 0, none⟩ = some (.string a0_0) := (blk_cell BK160.out 0).trans rfl; have hcz7_1 : w6.cell? ⟨gb160, 1, none⟩ = some (.slice A0_1 l0_1.length c0_1) := (blk_cell BK160.out 1).trans rfl; have hcz7_2 : w6.cell? ⟨gb160, 2, none⟩ = some (.string a0_2) := (blk_cell BK160.out 2).trans rfl; have hfz7_0 := blk_frozen BK160.out 0; have hfz7_1 := blk_frozen BK160.out 1; have hfz7_2 := blk_frozen BK160.out 2))
   go_loopg [4, 17] k (fun kq v4 v17 w' => ∃ (x4_1 : ByteArray) (x17_1 : Int), v4 = .string x4_1 ∧ v17 = .int .i64 x17_1 ∧ Aside0 (http_printed.l0 kq x4_1 l0_1 (l0_1.length : Int) x17_1 a0_0 l0_1 a0_2 = some (r1, r2)) ∧ Aside0 (kq ≤ k) ∧ Aside0 (w'.heap[gb160]? = some (.cells #[.string a0_0, (.slice A0_1 l0_1.length c0_1), .string a0_2] 50 (0, 0))) ∧ Aside0 (Below w.heap.size w w'))
   case atStart => exact ⟨(a0_0 ++ (⟨#[13, 10]⟩ : ByteArray)), (0), (by first | rfl | (simp; done) | (simp [*]; done)), (by first | rfl | (simp; done) | (simp [*]; done)), H', ⟨Nat.le_refl _⟩, ⟨by (with_reducible repeat (first | refine blk_drewN ?_ _ | refine blk_drew ?_ | refine blk_alloc ?_ _)); exact BK160.out⟩, ⟨by repeat (first | (with_reducible first | exact HB.out | apply below_alloc | apply pw_below_drewN | apply below_drew1 | refine below_set ?_ GE160.out) | exact HB.out)⟩⟩
   case round =>
    clear H'
    try clear c2
    try clear c2b0
    try clear c2b1
    try clear p2
    try clear c3
    try clear c5
    try clear c5b0
    try clear c5b1
    try clear c5b2
    try clear hcz4_0
    try clear hcz4_1
    try clear hcz4_2
    try clear hcz7_0
    try clear hcz7_1
    try clear hcz7_2
    try clear hfz4_0
    try clear hfz4_1
    try clear hfz4_2
    try clear hfz7_0
    try clear hfz7_1
    try clear hfz7_2
    obtain ⟨x4_1, x17_1, rfl, rfl, HA, HK1, BK160, HB⟩ := hrel
    cases gk with
    | zero => exact absurd HA.out (by simp [http_printed.l0])
    | succ k1 =>
     have H := HA.out
     clear HA
     simp only [http_printed.l0] at H
     by_cases c8 : x17_1 < (l0_1.length : Int)
     ·rw [if_pos c8] at H
      have c8b0 : decide (x17_1 < (l0_1.length : Int)) = true := decide_eq_true c8
      clear c8
      by_cases c9 : 0 ≤ x17_1
      ·rw [if_pos c9] at H
       have c9b0 : decide (0 ≤ x17_1) = true := decide_eq_true c9
       clear c9
       by_cases c10 : x17_1 < (l0_1.length : Int)
       ·rw [if_pos c10] at H
        have c10b0 : decide (x17_1 < (l0_1.length : Int)) = true := decide_eq_true c10
        clear c10
        replace H := Option.bind_eq_some_iff.mp H
        obtain ⟨t164, A110, H⟩ := H
        replace H : (if t164 = true then ((http_content.f k1 ((rd_T62 l0_1 x17_1).f1)).bind fun t165 => (if t165 = true then ((strings_Trim.f ((rd_T62 l0_1 x17_1).f1) (⟨#[32, 9]⟩ : ByteArray)).bind fun t166 => (if t166.toList = ((rd_T62 l0_1 x17_1).f1).toList then ((char_Same.f ((rd_T62 l0_1 x17_1).f0) (⟨#[67, 111, 110, 116, 101, 110, 116, 45, 76, 101, 110, 103, 116, 104]⟩ : ByteArray)).bind fun t167 => (if t167 = true then (some ((⟨#[]⟩ : ByteArray), 80)) else ((char_Same.f ((rd_T62 l0_1 x17_1).f0) (⟨#[84, 114, 97, 110, 115, 102, 101, 114, 45, 69, 110, 99, 111, 100, 105, 110, 103]⟩ : ByteArray)).bind fun t168 => (if t168 = true then (some ((⟨#[]⟩ : ByteArray), 80)) else (if ((rd_T62 l0_1 x17_1).f0).size + 2 ≤ 9223372036854775807 then (if (((rd_T62 l0_1 x17_1).f0) ++ (⟨#[58, 32]⟩ : ByteArray)).size + ((rd_T62 l0_1 x17_1).f1).size ≤ 9223372036854775807 then (if ((((rd_T62 l0_1 x17_1).f0) ++ (⟨#[58, 32]⟩ : ByteArray)) ++ ((rd_T62 l0_1 x17_1).f1)).size + 2 ≤ 9223372036854775807 then (if x4_1.size + (((((rd_T62 l0_1 x17_1).f0) ++ (⟨#[58, 32]⟩ : ByteArray)) ++ ((rd_T62 l0_1 x17_1).f1)) ++ (⟨#[13, 10]⟩ : ByteArray)).size ≤ 9223372036854775807 then (http_printed.l0 k1 (x4_1 ++ (((((rd_T62 l0_1 x17_1).f0) ++ (⟨#[58, 32]⟩ : ByteArray)) ++ ((rd_T62 l0_1 x17_1).f1)) ++ (⟨#[13, 10]⟩ : ByteArray))) l0_1 (l0_1.length : Int) (wrap64 (x17_1 + 1)) a0_0 l0_1 a0_2) else (none)) else (none)) else (none)) else (none)))))) else (some ((⟨#[]⟩ : ByteArray), 80)))) else (some ((⟨#[]⟩ : ByteArray), 80)))) else (some ((⟨#[]⟩ : ByteArray), 80))) = some (r1, r2) := H
        have A11 := Aside0.mk A110
        clear A110
        by_cases c12 : t164 = true
        ·subst c12
         have H1 : ((http_content.f k1 ((rd_T62 l0_1 x17_1).f1)).bind fun t165 => (if t165 = true then ((strings_Trim.f ((rd_T62 l0_1 x17_1).f1) (⟨#[32, 9]⟩ : ByteArray)).bind fun t166 => (if t166.toList = ((rd_T62 l0_1 x17_1).f1).toList then ((char_Same.f ((rd_T62 l0_1 x17_1).f0) (⟨#[67, 111, 110, 116, 101, 110, 116, 45, 76, 101, 110, 103, 116, 104]⟩ : ByteArray)).bind fun t167 => (if t167 = true then (some ((⟨#[]⟩ : ByteArray), 80)) else ((char_Same.f ((rd_T62 l0_1 x17_1).f0) (⟨#[84, 114, 97, 110, 115, 102, 101, 114, 45, 69, 110, 99, 111, 100, 105, 110, 103]⟩ : ByteArray)).bind fun t168 => (if t168 = true then (some ((⟨#[]⟩ : ByteArray), 80)) else (if ((rd_T62 l0_1 x17_1).f0).size + 2 ≤ 9223372036854775807 then (if (((rd_T62 l0_1 x17_1).f0) ++ (⟨#[58, 32]⟩ : ByteArray)).size + ((rd_T62 l0_1 x17_1).f1).size ≤ 9223372036854775807 then (if ((((rd_T62 l0_1 x17_1).f0) ++ (⟨#[58, 32]⟩ : ByteArray)) ++ ((rd_T62 l0_1 x17_1).f1)).size + 2 ≤ 9223372036854775807 then (if x4_1.size + (((((rd_T62 l0_1 x17_1).f0) ++ (⟨#[58, 32]⟩ : ByteArray)) ++ ((rd_T62 l0_1 x17_1).f1)) ++ (⟨#[13, 10]⟩ : ByteArray)).size ≤ 9223372036854775807 then (http_printed.l0 k1 (x4_1 ++ (((((rd_T62 l0_1 x17_1).f0) ++ (⟨#[58, 32]⟩ : ByteArray)) ++ ((rd_T62 l0_1 x17_1).f1)) ++ (⟨#[13, 10]⟩ : ByteArray))) l0_1 (l0_1.length : Int) (wrap64 (x17_1 + 1)) a0_0 l0_1 a0_2) else (none)) else (none)) else (none)) else (none)))))) else (some ((⟨#[]⟩ : ByteArray), 80)))) else (some ((⟨#[]⟩ : ByteArray), 80)))) = some (r1, r2) := by rw [if_pos rfl] at H; exact H
         clear H
         have H := H1
         clear H1
         replace H := Option.bind_eq_some_iff.mp H
         obtain ⟨t165, A130, H⟩ := H
         replace H : (if t165 = true then ((strings_Trim.f ((rd_T62 l0_1 x17_1).f1) (⟨#[32, 9]⟩ : ByteArray)).bind fun t166 => (if t166.toList = ((rd_T62 l0_1 x17_1).f1).toList then ((char_Same.f ((rd_T62 l0_1 x17_1).f0) (⟨#[67, 111, 110, 116, 101, 110, 116, 45, 76, 101, 110, 103, 116, 104]⟩ : ByteArray)).bind fun t167 => (if t167 = true then (some ((⟨#[]⟩ : ByteArray), 80)) else ((char_Same.f ((rd_T62 l0_1 x17_1).f0) (⟨#[84, 114, 97, 110, 115, 102, 101, 114, 45, 69, 110, 99, 111, 100, 105, 110, 103]⟩ : ByteArray)).bind fun t168 => (if t168 = true then (some ((⟨#[]⟩ : ByteArray), 80)) else (if ((rd_T62 l0_1 x17_1).f0).size + 2 ≤ 9223372036854775807 then (if (((rd_T62 l0_1 x17_1).f0) ++ (⟨#[58, 32]⟩ : ByteArray)).size + ((rd_T62 l0_1 x17_1).f1).size ≤ 9223372036854775807 then (if ((((rd_T62 l0_1 x17_1).f0) ++ (⟨#[58, 32]⟩ : ByteArray)) ++ ((rd_T62 l0_1 x17_1).f1)).size + 2 ≤ 9223372036854775807 then (if x4_1.size + (((((rd_T62 l0_1 x17_1).f0) ++ (⟨#[58, 32]⟩ : ByteArray)) ++ ((rd_T62 l0_1 x17_1).f1)) ++ (⟨#[13, 10]⟩ : ByteArray)).size ≤ 9223372036854775807 then (http_printed.l0 k1 (x4_1 ++ (((((rd_T62 l0_1 x17_1).f0) ++ (⟨#[58, 32]⟩ : ByteArray)) ++ ((rd_T62 l0_1 x17_1).f1)) ++ (⟨#[13, 10]⟩ : ByteArray))) l0_1 (l0_1.length : Int) (wrap64 (x17_1 + 1)) a0_0 l0_1 a0_2) else (none)) else (none)) else (none)) else (none)))))) else (some ((⟨#[]⟩ : ByteArray), 80)))) else (some ((⟨#[]⟩ : ByteArray), 80))) = some (r1, r2) := H
         have A13 := Aside0.mk A130
         clear A130
         by_cases c14 : t165 = true
         ·subst c14
          have H1 : ((strings_Trim.f ((rd_T62 l0_1 x17_1).f1) (⟨#[32, 9]⟩ : ByteArray)).bind fun t166 => (if t166.toList = ((rd_T62 l0_1 x17_1).f1).toList then ((char_Same.f ((rd_T62 l0_1 x17_1).f0) (⟨#[67, 111, 110, 116, 101, 110, 116, 45, 76, 101, 110, 103, 116, 104]⟩ : ByteArray)).bind fun t167 => (if t167 = true then (some ((⟨#[]⟩ : ByteArray), 80)) else ((char_Same.f ((rd_T62 l0_1 x17_1).f0) (⟨#[84, 114, 97, 110, 115, 102, 101, 114, 45, 69, 110, 99, 111, 100, 105, 110, 103]⟩ : ByteArray)).bind fun t168 => (if t168 = true then (some ((⟨#[]⟩ : ByteArray), 80)) else (if ((rd_T62 l0_1 x17_1).f0).size + 2 ≤ 9223372036854775807 then (if (((rd_T62 l0_1 x17_1).f0) ++ (⟨#[58, 32]⟩ : ByteArray)).size + ((rd_T62 l0_1 x17_1).f1).size ≤ 9223372036854775807 then (if ((((rd_T62 l0_1 x17_1).f0) ++ (⟨#[58, 32]⟩ : ByteArray)) ++ ((rd_T62 l0_1 x17_1).f1)).size + 2 ≤ 9223372036854775807 then (if x4_1.size + (((((rd_T62 l0_1 x17_1).f0) ++ (⟨#[58, 32]⟩ : ByteArray)) ++ ((rd_T62 l0_1 x17_1).f1)) ++ (⟨#[13, 10]⟩ : ByteArray)).size ≤ 9223372036854775807 then (http_printed.l0 k1 (x4_1 ++ (((((rd_T62 l0_1 x17_1).f0) ++ (⟨#[58, 32]⟩ : ByteArray)) ++ ((rd_T62 l0_1 x17_1).f1)) ++ (⟨#[13, 10]⟩ : ByteArray))) l0_1 (l0_1.length : Int) (wrap64 (x17_1 + 1)) a0_0 l0_1 a0_2) else (none)) else (none)) else (none)) else (none)))))) else (some ((⟨#[]⟩ : ByteArray), 80)))) = some (r1, r2) := by rw [if_pos rfl] at H; exact H
          clear H
          have H := H1
          clear H1
          replace H := Option.bind_eq_some_iff.mp H
          obtain ⟨t166, A150, H⟩ := H
          replace H : (if t166.toList = ((rd_T62 l0_1 x17_1).f1).toList then ((char_Same.f ((rd_T62 l0_1 x17_1).f0) (⟨#[67, 111, 110, 116, 101, 110, 116, 45, 76, 101, 110, 103, 116, 104]⟩ : ByteArray)).bind fun t167 => (if t167 = true then (some ((⟨#[]⟩ : ByteArray), 80)) else ((char_Same.f ((rd_T62 l0_1 x17_1).f0) (⟨#[84, 114, 97, 110, 115, 102, 101, 114, 45, 69, 110, 99, 111, 100, 105, 110, 103]⟩ : ByteArray)).bind fun t168 => (if t168 = true then (some ((⟨#[]⟩ : ByteArray), 80)) else (if ((rd_T62 l0_1 x17_1).f0).size + 2 ≤ 9223372036854775807 then (if (((rd_T62 l0_1 x17_1).f0) ++ (⟨#[58, 32]⟩ : ByteArray)).size + ((rd_T62 l0_1 x17_1).f1).size ≤ 9223372036854775807 then (if ((((rd_T62 l0_1 x17_1).f0) ++ (⟨#[58, 32]⟩ : ByteArray)) ++ ((rd_T62 l0_1 x17_1).f1)).size + 2 ≤ 9223372036854775807 then (if x4_1.size + (((((rd_T62 l0_1 x17_1).f0) ++ (⟨#[58, 32]⟩ : ByteArray)) ++ ((rd_T62 l0_1 x17_1).f1)) ++ (⟨#[13, 10]⟩ : ByteArray)).size ≤ 9223372036854775807 then (http_printed.l0 k1 (x4_1 ++ (((((rd_T62 l0_1 x17_1).f0) ++ (⟨#[58, 32]⟩ : ByteArray)) ++ ((rd_T62 l0_1 x17_1).f1)) ++ (⟨#[13, 10]⟩ : ByteArray))) l0_1 (l0_1.length : Int) (wrap64 (x17_1 + 1)) a0_0 l0_1 a0_2) else (none)) else (none)) else (none)) else (none)))))) else (some ((⟨#[]⟩ : ByteArray), 80))) = some (r1, r2) := H
          have A15 := Aside0.mk A150
          clear A150
          by_cases c16 : t166.toList = ((rd_T62 l0_1 x17_1).f1).toList
          ·rw [if_pos c16] at H
           have c16b0 : (t166.toList == ((rd_T62 l0_1 x17_1).f1).toList) = true := beq_iff_eq.mpr c16
           have c16b1 : (t166.toList != ((rd_T62 l0_1 x17_1).f1).toList) = false := bne_eq_false_iff_eq.mpr c16
           clear c16
           replace H := Option.bind_eq_some_iff.mp H
           obtain ⟨t167, A170, H⟩ := H
           replace H : (if t167 = true then (some ((⟨#[]⟩ : ByteArray), 80)) else ((char_Same.f ((rd_T62 l0_1 x17_1).f0) (⟨#[84, 114, 97, 110, 115, 102, 101, 114, 45, 69, 110, 99, 111, 100, 105, 110, 103]⟩ : ByteArray)).bind fun t168 => (if t168 = true then (some ((⟨#[]⟩ : ByteArray), 80)) else (if ((rd_T62 l0_1 x17_1).f0).size + 2 ≤ 9223372036854775807 then (if (((rd_T62 l0_1 x17_1).f0) ++ (⟨#[58, 32]⟩ : ByteArray)).size + ((rd_T62 l0_1 x17_1).f1).size ≤ 9223372036854775807 then (if ((((rd_T62 l0_1 x17_1).f0) ++ (⟨#[58, 32]⟩ : ByteArray)) ++ ((rd_T62 l0_1 x17_1).f1)).size + 2 ≤ 9223372036854775807 then (if x4_1.size + (((((rd_T62 l0_1 x17_1).f0) ++ (⟨#[58, 32]⟩ : ByteArray)) ++ ((rd_T62 l0_1 x17_1).f1)) ++ (⟨#[13, 10]⟩ : ByteArray)).size ≤ 9223372036854775807 then (http_printed.l0 k1 (x4_1 ++ (((((rd_T62 l0_1 x17_1).f0) ++ (⟨#[58, 32]⟩ : ByteArray)) ++ ((rd_T62 l0_1 x17_1).f1)) ++ (⟨#[13, 10]⟩ : ByteArray))) l0_1 (l0_1.length : Int) (wrap64 (x17_1 + 1)) a0_0 l0_1 a0_2) else (none)) else (none)) else (none)) else (none))))) = some (r1, r2) := H
           have A17 := Aside0.mk A170
           clear A170
           by_cases c18 : t167 = true
           ·subst c18
            have H1 : (some ((⟨#[]⟩ : ByteArray), 80)) = some (r1, r2) := by rw [if_pos rfl] at H; exact H
            clear H
            have H := H1
            clear H1
            simp only [Option.some.injEq, Prod.mk.injEq] at H
            obtain ⟨rfl, rfl⟩ := H
            have p162 : 0 ≤ (x17_1 : Int) := of_decide_eq_true (by first | (with_reducible assumption) | assumption)
            have q162 : x17_1 < (l0_1.length : Int) := of_decide_eq_true (by first | (with_reducible assumption) | assumption)
            obtain ⟨ad162, e162, hx162_0, hx162_1⟩ := at_T62 HR0_1.out x17_1 p162 q162
            cases e162
            replace hx162_0 := (HB.out.cell (World.block_lt_of_cell? w _ hx162_0)).trans hx162_0
            replace hx162_1 := (HB.out.cell (World.block_lt_of_cell? w _ hx162_1)).trans hx162_1
            replace p162 := eq_true p162
            replace q162 := eq_true q162
            try go_wp2_with (first | ((with_reducible refine gate_dst (N := 6) rfl ?_); (try (refine gate_guard (by rfl) ?_; dsimp only)); refine box_event ?hg (N := 6) ?hd (cs := #[.string (⟨#[]⟩ : ByteArray), .string (⟨#[]⟩ : ByteArray)]) (t := 62) ?hr ?_; (case hd => rfl); (case hg => rfl); (case hr => first | (go_simp; done) | (go_simp; rfl)); intro gb163 hg w19 hbox hb; have n0_ := Aside0.mk (blk_below (g := gb160) (o := .cells #[.string a0_0, .slice (some ad162) l0_1.length c0_1, .string a0_2] 50 (0, 0)) (by (with_reducible repeat (first | refine blk_drewN ?_ _ | refine blk_drew ?_ | refine blk_alloc ?_ _)); exact BK160.out) hb); have n1_ := Aside0.mk (below_step (by repeat (first | (with_reducible first | exact HB.out | apply below_alloc | apply pw_below_drewN | apply below_drew1 | refine below_set ?_ GE160.out) | exact HB.out)) hb); have n2_ := Aside0.mk (hbox); have n3_ := Aside0.mk ((by rw [hg]; exact (below_size (by repeat (first | (with_reducible first | exact HB.out | apply below_alloc | apply pw_below_drewN | apply below_drew1 | refine below_set ?_ GE160.out) | exact HB.out))) : w.heap.size ≤ gb163)); have n4_ := Aside0.mk ((by rw [hg]; exact (below_size (by repeat (first | (with_reducible first | exact HB.out | apply below_alloc | apply pw_below_drewN | apply below_drew1 | refine below_set ?_ GE160.out) | exact HB.out))) : w.heap.size ≤ gb163)); have n5_ := Aside0.mk ((by rw [hg]; exact Nat.ne_of_lt (blk_lt (g := gb160) (o := .cells #[.string a0_0, .slice (some ad162) l0_1.length c0_1, .string a0_2] 50 (0, 0)) (by (with_reducible repeat (first | refine blk_drewN ?_ _ | refine blk_drew ?_ | refine blk_alloc ?_ _)); exact BK160.out)) : gb160 ≠ gb163)); have n6_ := Aside0.mk ((by rw [hg]; exact Nat.ne_of_gt (blk_lt (g := gb160) (o := .cells #[.string a0_0, .slice (some ad162) l0_1.length c0_1, .string a0_2] 50 (0, 0)) (by (with_reducible repeat (first | refine blk_drewN ?_ _ | refine blk_drew ?_ | refine blk_alloc ?_ _)); exact BK160.out)) : gb163 ≠ gb160)); clear BK160; clear HB; have BK160 := n0_; have HB := n1_; have BK163 := n2_; have GW163 := n3_; have GE163 := n4_; have NB160_163 := n5_; have NB163_160 := n6_; clear n0_ n1_ n2_ n3_ n4_ n5_ n6_; clear hb hbox hg; have hnb20 := NB163_160.out; have hnc20 := NB160_163.out; have hcz21_0 : w19.cell? ⟨gb163, 0, none⟩ = some (.string (⟨#[]⟩ : ByteArray)) := (blk_cell BK163.out 0).trans rfl; have hcz21_1 : w19.cell? ⟨gb163, 1, none⟩ = some (.string (⟨#[]⟩ : ByteArray)) := (blk_cell BK163.out 1).trans rfl; have hfz21_0 := blk_frozen BK163.out 0; have hfz21_1 := blk_frozen BK163.out 1))
            have n0_ : Aside0 (((w19.setCell ⟨gb163, 0, none⟩ (.string ((rd_T62 l0_1 x17_1).f0))).setCell ⟨gb163, 1, none⟩ (.string ((rd_T62 l0_1 x17_1).f1))).heap[gb160]? = some (.cells #[.string a0_0, .slice (some ad162) l0_1.length c0_1, .string a0_2] 50 (0, 0))) := ⟨by (with_reducible repeat (first | refine blk_drewN ?_ _ | refine blk_drew ?_ | refine blk_alloc ?_ _)); refine blk_far ?_ NB160_163.out _; (with_reducible repeat (first | refine blk_drewN ?_ _ | refine blk_drew ?_ | refine blk_alloc ?_ _)); refine blk_far ?_ NB160_163.out _; (with_reducible repeat (first | refine blk_drewN ?_ _ | refine blk_drew ?_ | refine blk_alloc ?_ _)); exact BK160.out⟩
            have n1_ : Aside0 (((w19.setCell ⟨gb163, 0, none⟩ (.string ((rd_T62 l0_1 x17_1).f0))).setCell ⟨gb163, 1, none⟩ (.string ((rd_T62 l0_1 x17_1).f1))).heap[gb163]? = some (.cells #[.string ((rd_T62 l0_1 x17_1).f0), .string ((rd_T62 l0_1 x17_1).f1)] 62 (0, 0))) := ⟨by (with_reducible repeat (first | refine blk_drewN ?_ _ | refine blk_drew ?_ | refine blk_alloc ?_ _)); refine blk_put (cs := #[.string ((rd_T62 l0_1 x17_1).f0), .string (⟨#[]⟩ : ByteArray)]) ?_ 1 _ rfl; (with_reducible repeat (first | refine blk_drewN ?_ _ | refine blk_drew ?_ | refine blk_alloc ?_ _)); refine blk_put (cs := #[.string (⟨#[]⟩ : ByteArray), .string (⟨#[]⟩ : ByteArray)]) ?_ 0 _ rfl; (with_reducible repeat (first | refine blk_drewN ?_ _ | refine blk_drew ?_ | refine blk_alloc ?_ _)); exact BK163.out⟩
            have n2_ : Aside0 (Below w.heap.size w ((w19.setCell ⟨gb163, 0, none⟩ (.string ((rd_T62 l0_1 x17_1).f0))).setCell ⟨gb163, 1, none⟩ (.string ((rd_T62 l0_1 x17_1).f1)))) := ⟨by repeat (first | (with_reducible first | exact HB.out | apply below_alloc | apply pw_below_drewN | apply below_drew1 | refine below_set ?_ GE160.out | refine below_set ?_ GE163.out) | exact HB.out)⟩
            (try clear BK160)
            (try clear BK163)
            (try clear HB)
            generalize ((w19.setCell ⟨gb163, 0, none⟩ (.string ((rd_T62 l0_1 x17_1).f0))).setCell ⟨gb163, 1, none⟩ (.string ((rd_T62 l0_1 x17_1).f1))) = w22 at n0_ n1_ n2_ ⊢
            have BK160 := n0_
            have BK163 := n1_
            have HB := n2_
            clear n0_ n1_ n2_
            have n0_ := Aside0.mk (blk_drew BK160.out)
            have n1_ := Aside0.mk (blk_drew BK163.out)
            have n2_ := Aside0.mk (below_drew1 HB.out)
            clear BK160
            clear BK163
            clear HB
            have BK160 := n0_
            have BK163 := n1_
            have HB := n2_
            clear n0_ n1_ n2_
            refine start_ (n := 28) (S := fun w' => w'.cell? ⟨gb163, 0, none⟩ = some (.string ((rd_T62 l0_1 x17_1).f0)) ∧ w'.cell? ⟨gb163, 1, none⟩ = some (.string ((rd_T62 l0_1 x17_1).f1))) (ds := []) (bm 28 0) (by kernel_rfl) rfl rfl ⟨(blk_cell BK163.out 0).trans rfl, (blk_cell BK163.out 1).trans rfl⟩ (fun hHeld => ?_); refine with_tabW http_printed.tab7 http_printed.bits7 (fun HT_ HW_ => ?_)
            generalize w22.drew = w23 at BK160 BK163 HB hHeld ⊢
            refine pv_ HT_ 0 (bm 28 1) ?_
            refine take_ (i := 1) (N := some 22) (v := ?_) (a' := ?_) (bm 28 3) rfl rfl (take_ofW HT_.out HW_.out (by kernel_rfl)) (fun _ _ _ h => h) (Or.inl ⟨by rfl, ?_⟩) hHeld ?_ ?_
            rotate_left
            ·rintro w' ⟨s0, s1⟩
             go_simp
             with_reducible rfl
            rotate_left
            ·simp only [Act.put, List.setIfInBounds_toArray, List.set_cons_zero, List.set_cons_succ, i64_w, i32_w]
             rfl
            refine one_ (i := 2) (N := some 23) (bm 28 7) rfl rfl (one_of HT_.out (by kernel_rfl)) (by decide) (fun K hK => ?_)
            refine goes_ Tryz.func41 (by kernel_rfl) rfl #[.string ((rd_T62 l0_1 x17_1).f0)] (by rfl) rfl rfl (by (try simp only [List.map_toArray, List.map_cons, List.map_nil]); first | done | rfl | (simp only [List.length_drop, List.length_take]; rfl)) ?_
            with_reducible refine (http_name.calls ((rd_T62 l0_1 x17_1).f0) true _ ?side1 A11.out).mono ?_
            (case side1 => exact LaidM.below HT.out (by repeat (first | (with_reducible first | exact HB.out | apply below_alloc | apply pw_below_drewN | apply below_drew1 | refine below_set ?_ GE160.out | refine below_set ?_ GE163.out) | exact HB.out)))
            rintro e w24 ⟨rfl, hb⟩
            refine ⟨_, rfl, ?_⟩
            have n0_ := Aside0.mk (blk_below (g := gb160) (o := .cells #[.string a0_0, .slice (some ad162) l0_1.length c0_1, .string a0_2] 50 (0, 0)) (by (with_reducible repeat (first | refine blk_drewN ?_ _ | refine blk_drew ?_ | refine blk_alloc ?_ _)); exact BK160.out) hb)
            have n1_ := Aside0.mk (blk_below (g := gb163) (o := .cells #[.string ((rd_T62 l0_1 x17_1).f0), .string ((rd_T62 l0_1 x17_1).f1)] 62 (0, 0)) (by (with_reducible repeat (first | refine blk_drewN ?_ _ | refine blk_drew ?_ | refine blk_alloc ?_ _)); exact BK163.out) hb)
            have n2_ := Aside0.mk (below_step (by repeat (first | (with_reducible first | exact HB.out | apply below_alloc | apply pw_below_drewN | apply below_drew1 | refine below_set ?_ GE160.out | refine below_set ?_ GE163.out) | exact HB.out)) hb)
            clear BK160
            clear BK163
            clear HB
            have BK160 := n0_
            have BK163 := n1_
            have HB := n2_
            clear n0_ n1_ n2_
            (try clear hb)
            (try clear hb2)
            (try clear hk)
            (try clear hi)
            refine hK.out _ _ ⟨(blk_cell BK163.out 0).trans rfl, (blk_cell BK163.out 1).trans rfl⟩ (fun hHeld => ?_)
            clear hK K
            refine norm_ (a' := ?_) ?_ ?_
            rotate_left
            ·show Act.put _ (some 23) _ = _
             simp only [Act.put, List.setIfInBounds_toArray, List.set_cons_zero, List.set_cons_succ, i64_w, i32_w]
             rfl
            refine pv_ HT_ 3 (bm 28 15) ?_
            refine pv_ HT_ 4 (bm 28 31) ?_
            refine pv_ HT_ 5 (bm 28 63) ?_
            refine take_ (i := 6) (N := some 27) (v := ?_) (a' := ?_) (bm 28 127) rfl rfl (take_ofW HT_.out HW_.out (by kernel_rfl)) (fun _ _ _ h => h) (Or.inl ⟨by rfl, ?_⟩) hHeld ?_ ?_
            rotate_left
            ·rintro w' ⟨s0, s1⟩
             go_simp
             with_reducible rfl
            rotate_left
            ·simp only [Act.put, List.setIfInBounds_toArray, List.set_cons_zero, List.set_cons_succ, i64_w, i32_w]
             rfl
            refine one_ (i := 7) (N := some 28) (bm 28 255) rfl rfl (one_of HT_.out (by kernel_rfl)) (by decide) (fun K hK => ?_)
            refine goes_ Tryz.func42 (by kernel_rfl) rfl #[.string ((rd_T62 l0_1 x17_1).f1)] (by rfl) rfl rfl (by (try simp only [List.map_toArray, List.map_cons, List.map_nil]); first | done | rfl | (simp only [List.length_drop, List.length_take]; rfl)) ?_
            with_reducible refine (http_content.calls k1 ((rd_T62 l0_1 x17_1).f1) true _ ?side1 A13.out).mono ?_
            (case side1 => exact LaidM.below HT.out (by repeat (first | (with_reducible first | exact HB.out | apply below_alloc | apply pw_below_drewN | apply below_drew1 | refine below_set ?_ GE160.out | refine below_set ?_ GE163.out) | exact HB.out)))
            rintro e w25 ⟨rfl, hb⟩
            refine ⟨_, rfl, ?_⟩
            have n0_ := Aside0.mk (blk_below (g := gb160) (o := .cells #[.string a0_0, .slice (some ad162) l0_1.length c0_1, .string a0_2] 50 (0, 0)) (by (with_reducible repeat (first | refine blk_drewN ?_ _ | refine blk_drew ?_ | refine blk_alloc ?_ _)); exact BK160.out) hb)
            have n1_ := Aside0.mk (blk_below (g := gb163) (o := .cells #[.string ((rd_T62 l0_1 x17_1).f0), .string ((rd_T62 l0_1 x17_1).f1)] 62 (0, 0)) (by (with_reducible repeat (first | refine blk_drewN ?_ _ | refine blk_drew ?_ | refine blk_alloc ?_ _)); exact BK163.out) hb)
            have n2_ := Aside0.mk (below_step (by repeat (first | (with_reducible first | exact HB.out | apply below_alloc | apply pw_below_drewN | apply below_drew1 | refine below_set ?_ GE160.out | refine below_set ?_ GE163.out) | exact HB.out)) hb)
            clear BK160
            clear BK163
            clear HB
            have BK160 := n0_
            have BK163 := n1_
            have HB := n2_
            clear n0_ n1_ n2_
            (try clear hb)
            (try clear hb2)
            (try clear hk)
            (try clear hi)
            refine hK.out _ _ ⟨(blk_cell BK163.out 0).trans rfl, (blk_cell BK163.out 1).trans rfl⟩ (fun hHeld => ?_)
            clear hK K
            refine norm_ (a' := ?_) ?_ ?_
            rotate_left
            ·show Act.put _ (some 28) _ = _
             simp only [Act.put, List.setIfInBounds_toArray, List.set_cons_zero, List.set_cons_succ, i64_w, i32_w]
             rfl
            refine pv_ HT_ 8 (bm 28 511) ?_
            refine pv_ HT_ 9 (bm 28 1023) ?_
            refine pv_ HT_ 10 (bm 28 2047) ?_
            refine pv_ HT_ 11 (bm 28 4095) ?_
            refine pv_ HT_ 14 (bm 28 20479) ?_
            refine take_ (i := 12) (N := some 33) (v := ?_) (a' := ?_) (bm 28 24575) rfl rfl (take_ofW HT_.out HW_.out (by kernel_rfl)) (fun _ _ _ h => h) (Or.inl ⟨by rfl, ?_⟩) hHeld ?_ ?_
            rotate_left
            ·rintro w' ⟨s0, s1⟩
             go_simp
             with_reducible rfl
            rotate_left
            ·simp only [Act.put, List.setIfInBounds_toArray, List.set_cons_zero, List.set_cons_succ, i64_w, i32_w]
             rfl
            refine take_ (i := 15) (N := some 36) (v := ?_) (a' := ?_) (bm 28 57343) rfl rfl (take_ofW HT_.out HW_.out (by kernel_rfl)) (fun _ _ _ h => h) (Or.inl ⟨by rfl, ?_⟩) hHeld ?_ ?_
            rotate_left
            ·rintro w' ⟨s0, s1⟩
             go_simp
             with_reducible rfl
            rotate_left
            ·simp only [Act.put, List.setIfInBounds_toArray, List.set_cons_zero, List.set_cons_succ, i64_w, i32_w]
             rfl
            refine one_ (i := 13) (N := some 34) (bm 28 65535) rfl rfl (one_of HT_.out (by kernel_rfl)) (by decide) (fun K hK => ?_)
            refine goes_ Tryz.func39 (by kernel_rfl) rfl #[.string ((rd_T62 l0_1 x17_1).f1), .string (⟨#[32, 9]⟩ : ByteArray)] (by rfl) rfl rfl (by (try simp only [List.map_toArray, List.map_cons, List.map_nil]); first | done | rfl | (simp only [List.length_drop, List.length_take]; rfl)) ?_
            with_reducible refine (strings_Trim.calls ((rd_T62 l0_1 x17_1).f1) (⟨#[32, 9]⟩ : ByteArray) t166 _ ?side1 A15.out).mono ?_
            (case side1 => exact LaidM.below HT.out (by repeat (first | (with_reducible first | exact HB.out | apply below_alloc | apply pw_below_drewN | apply below_drew1 | refine below_set ?_ GE160.out | refine below_set ?_ GE163.out) | exact HB.out)))
            rintro e w26 ⟨rfl, hb⟩
            refine ⟨_, rfl, ?_⟩
            have n0_ := Aside0.mk (blk_below (g := gb160) (o := .cells #[.string a0_0, .slice (some ad162) l0_1.length c0_1, .string a0_2] 50 (0, 0)) (by (with_reducible repeat (first | refine blk_drewN ?_ _ | refine blk_drew ?_ | refine blk_alloc ?_ _)); exact BK160.out) hb)
            have n1_ := Aside0.mk (blk_below (g := gb163) (o := .cells #[.string ((rd_T62 l0_1 x17_1).f0), .string ((rd_T62 l0_1 x17_1).f1)] 62 (0, 0)) (by (with_reducible repeat (first | refine blk_drewN ?_ _ | refine blk_drew ?_ | refine blk_alloc ?_ _)); exact BK163.out) hb)
            have n2_ := Aside0.mk (below_step (by repeat (first | (with_reducible first | exact HB.out | apply below_alloc | apply pw_below_drewN | apply below_drew1 | refine below_set ?_ GE160.out | refine below_set ?_ GE163.out) | exact HB.out)) hb)
            clear BK160
            clear BK163
            clear HB
            have BK160 := n0_
            have BK163 := n1_
            have HB := n2_
            clear n0_ n1_ n2_
            (try clear hb)
            (try clear hb2)
            (try clear hk)
            (try clear hi)
            refine hK.out _ _ ⟨(blk_cell BK163.out 0).trans rfl, (blk_cell BK163.out 1).trans rfl⟩ (fun hHeld => ?_)
            clear hK K
            refine norm_ (a' := ?_) ?_ ?_
            rotate_left
            ·show Act.put _ (some 34) _ = _
             simp only [Act.put, List.setIfInBounds_toArray, List.set_cons_zero, List.set_cons_succ, i64_w, i32_w]
             rfl
            refine pv_ HT_ 16 (bm 28 131071) ?_
            refine pv_ HT_ 17 (bm 28 262143) ?_
            refine pv_ HT_ 18 (bm 28 524287) ?_
            refine pv_ HT_ 19 (bm 28 1048575) ?_
            refine take_ (i := 20) (N := some 41) (v := ?_) (a' := ?_) (bm 28 2097151) rfl rfl (take_ofW HT_.out HW_.out (by kernel_rfl)) (fun _ _ _ h => h) (Or.inl ⟨by rfl, ?_⟩) hHeld ?_ ?_
            rotate_left
            ·rintro w' ⟨s0, s1⟩
             go_simp
             with_reducible rfl
            rotate_left
            ·simp only [Act.put, List.setIfInBounds_toArray, List.set_cons_zero, List.set_cons_succ, i64_w, i32_w]
             rfl
            refine one_ (i := 21) (N := some 42) (bm 28 4194303) rfl rfl (one_of HT_.out (by kernel_rfl)) (by decide) (fun K hK => ?_)
            refine goes_ Tryz.func43 (by kernel_rfl) rfl #[.string ((rd_T62 l0_1 x17_1).f0), .string (⟨#[67, 111, 110, 116, 101, 110, 116, 45, 76, 101, 110, 103, 116, 104]⟩ : ByteArray)] (by rfl) rfl rfl (by (try simp only [List.map_toArray, List.map_cons, List.map_nil]); first | done | rfl | (simp only [List.length_drop, List.length_take]; rfl)) ?_
            with_reducible refine (char_Same.calls ((rd_T62 l0_1 x17_1).f0) (⟨#[67, 111, 110, 116, 101, 110, 116, 45, 76, 101, 110, 103, 116, 104]⟩ : ByteArray) true _ ?side1 A17.out).mono ?_
            (case side1 => exact LaidM.below HT.out (by repeat (first | (with_reducible first | exact HB.out | apply below_alloc | apply pw_below_drewN | apply below_drew1 | refine below_set ?_ GE160.out | refine below_set ?_ GE163.out) | exact HB.out)))
            rintro e w27 ⟨rfl, hb⟩
            refine ⟨_, rfl, ?_⟩
            have n0_ := Aside0.mk (blk_below (g := gb160) (o := .cells #[.string a0_0, .slice (some ad162) l0_1.length c0_1, .string a0_2] 50 (0, 0)) (by (with_reducible repeat (first | refine blk_drewN ?_ _ | refine blk_drew ?_ | refine blk_alloc ?_ _)); exact BK160.out) hb)
            have n1_ := Aside0.mk (blk_below (g := gb163) (o := .cells #[.string ((rd_T62 l0_1 x17_1).f0), .string ((rd_T62 l0_1 x17_1).f1)] 62 (0, 0)) (by (with_reducible repeat (first | refine blk_drewN ?_ _ | refine blk_drew ?_ | refine blk_alloc ?_ _)); exact BK163.out) hb)
            have n2_ := Aside0.mk (below_step (by repeat (first | (with_reducible first | exact HB.out | apply below_alloc | apply pw_below_drewN | apply below_drew1 | refine below_set ?_ GE160.out | refine below_set ?_ GE163.out) | exact HB.out)) hb)
            clear BK160
            clear BK163
            clear HB
            have BK160 := n0_
            have BK163 := n1_
            have HB := n2_
            clear n0_ n1_ n2_
            (try clear hb)
            (try clear hb2)
            (try clear hk)
            (try clear hi)
            refine hK.out _ _ ⟨(blk_cell BK163.out 0).trans rfl, (blk_cell BK163.out 1).trans rfl⟩ (fun hHeld => ?_)
            clear hK K
            refine norm_ (a' := ?_) ?_ ?_
            rotate_left
            ·show Act.put _ (some 42) _ = _
             simp only [Act.put, List.setIfInBounds_toArray, List.set_cons_zero, List.set_cons_succ, i64_w, i32_w]
             rfl
            refine pv_ HT_ 22 (bm 28 8388607) ?_
            refine pv_ HT_ 23 (bm 28 16777215) ?_
            refine pu_ HT_ 24 (bm 28 33554431) ?_
            refine pu_ HT_ 25 (bm 28 67108863) ?_
            refine pu_ HT_ 26 (bm 28 134217727) ?_
            refine pv_ HT_ 27 (bm 28 268435455) ?_
            refine done_ (done_of HT_.out (by kernel_rfl)) ?_
            try go_wp2
            go_ret2
            exact ⟨by first | rfl | (simp [errW_none, errW_some] <;> rfl) | (simp [*, errW_none, errW_some] <;> rfl), by repeat (first | (with_reducible first | exact HB.out | apply below_alloc | apply pw_below_drewN | apply below_drew1 | refine below_set ?_ GE160.out | refine below_set ?_ GE163.out) | exact HB.out)⟩
           ·replace c18 := Bool.eq_false_iff.mpr c18
            subst c18
            have H1 : ((char_Same.f ((rd_T62 l0_1 x17_1).f0) (⟨#[84, 114, 97, 110, 115, 102, 101, 114, 45, 69, 110, 99, 111, 100, 105, 110, 103]⟩ : ByteArray)).bind fun t168 => (if t168 = true then (some ((⟨#[]⟩ : ByteArray), 80)) else (if ((rd_T62 l0_1 x17_1).f0).size + 2 ≤ 9223372036854775807 then (if (((rd_T62 l0_1 x17_1).f0) ++ (⟨#[58, 32]⟩ : ByteArray)).size + ((rd_T62 l0_1 x17_1).f1).size ≤ 9223372036854775807 then (if ((((rd_T62 l0_1 x17_1).f0) ++ (⟨#[58, 32]⟩ : ByteArray)) ++ ((rd_T62 l0_1 x17_1).f1)).size + 2 ≤ 9223372036854775807 then (if x4_1.size + (((((rd_T62 l0_1 x17_1).f0) ++ (⟨#[58, 32]⟩ : ByteArray)) ++ ((rd_T62 l0_1 x17_1).f1)) ++ (⟨#[13, 10]⟩ : ByteArray)).size ≤ 9223372036854775807 then (http_printed.l0 k1 (x4_1 ++ (((((rd_T62 l0_1 x17_1).f0) ++ (⟨#[58, 32]⟩ : ByteArray)) ++ ((rd_T62 l0_1 x17_1).f1)) ++ (⟨#[13, 10]⟩ : ByteArray))) l0_1 (l0_1.length : Int) (wrap64 (x17_1 + 1)) a0_0 l0_1 a0_2) else (none)) else (none)) else (none)) else (none)))) = some (r1, r2) := by rw [if_neg (show ¬ (false = true) by decide)] at H; exact H
            clear H
            have H := H1
            clear H1
            replace H := Option.bind_eq_some_iff.mp H
            obtain ⟨t168, A280, H⟩ := H
            replace H : (if t168 = true then (some ((⟨#[]⟩ : ByteArray), 80)) else (if ((rd_T62 l0_1 x17_1).f0).size + 2 ≤ 9223372036854775807 then (if (((rd_T62 l0_1 x17_1).f0) ++ (⟨#[58, 32]⟩ : ByteArray)).size + ((rd_T62 l0_1 x17_1).f1).size ≤ 9223372036854775807 then (if ((((rd_T62 l0_1 x17_1).f0) ++ (⟨#[58, 32]⟩ : ByteArray)) ++ ((rd_T62 l0_1 x17_1).f1)).size + 2 ≤ 9223372036854775807 then (if x4_1.size + (((((rd_T62 l0_1 x17_1).f0) ++ (⟨#[58, 32]⟩ : ByteArray)) ++ ((rd_T62 l0_1 x17_1).f1)) ++ (⟨#[13, 10]⟩ : ByteArray)).size ≤ 9223372036854775807 then (http_printed.l0 k1 (x4_1 ++ (((((rd_T62 l0_1 x17_1).f0) ++ (⟨#[58, 32]⟩ : ByteArray)) ++ ((rd_T62 l0_1 x17_1).f1)) ++ (⟨#[13, 10]⟩ : ByteArray))) l0_1 (l0_1.length : Int) (wrap64 (x17_1 + 1)) a0_0 l0_1 a0_2) else (none)) else (none)) else (none)) else (none))) = some (r1, r2) := H
            have A28 := Aside0.mk A280
            clear A280
            by_cases c29 : t168 = true
            ·subst c29
             have H1 : (some ((⟨#[]⟩ : ByteArray), 80)) = some (r1, r2) := by rw [if_pos rfl] at H; exact H
             clear H
             have H := H1
             clear H1
             simp only [Option.some.injEq, Prod.mk.injEq] at H
             obtain ⟨rfl, rfl⟩ := H
             have p162 : 0 ≤ (x17_1 : Int) := of_decide_eq_true (by first | (with_reducible assumption) | assumption)
             have q162 : x17_1 < (l0_1.length : Int) := of_decide_eq_true (by first | (with_reducible assumption) | assumption)
             obtain ⟨ad162, e162, hx162_0, hx162_1⟩ := at_T62 HR0_1.out x17_1 p162 q162
             cases e162
             replace hx162_0 := (HB.out.cell (World.block_lt_of_cell? w _ hx162_0)).trans hx162_0
             replace hx162_1 := (HB.out.cell (World.block_lt_of_cell? w _ hx162_1)).trans hx162_1
             replace p162 := eq_true p162
             replace q162 := eq_true q162
             try go_wp2_with (first | ((with_reducible refine gate_dst (N := 6) rfl ?_); (try (refine gate_guard (by rfl) ?_; dsimp only)); refine box_event ?hg (N := 6) ?hd (cs := #[.string (⟨#[]⟩ : ByteArray), .string (⟨#[]⟩ : ByteArray)]) (t := 62) ?hr ?_; (case hd => rfl); (case hg => rfl); (case hr => first | (go_simp; done) | (go_simp; rfl)); intro gb163 hg w30 hbox hb; have n0_ := Aside0.mk (blk_below (g := gb160) (o := .cells #[.string a0_0, .slice (some ad162) l0_1.length c0_1, .string a0_2] 50 (0, 0)) (by (with_reducible repeat (first | refine blk_drewN ?_ _ | refine blk_drew ?_ | refine blk_alloc ?_ _)); exact BK160.out) hb); have n1_ := Aside0.mk (below_step (by repeat (first | (with_reducible first | exact HB.out | apply below_alloc | apply pw_below_drewN | apply below_drew1 | refine below_set ?_ GE160.out) | exact HB.out)) hb); have n2_ := Aside0.mk (hbox); have n3_ := Aside0.mk ((by rw [hg]; exact (below_size (by repeat (first | (with_reducible first | exact HB.out | apply below_alloc | apply pw_below_drewN | apply below_drew1 | refine below_set ?_ GE160.out) | exact HB.out))) : w.heap.size ≤ gb163)); have n4_ := Aside0.mk ((by rw [hg]; exact (below_size (by repeat (first | (with_reducible first | exact HB.out | apply below_alloc | apply pw_below_drewN | apply below_drew1 | refine below_set ?_ GE160.out) | exact HB.out))) : w.heap.size ≤ gb163)); have n5_ := Aside0.mk ((by rw [hg]; exact Nat.ne_of_lt (blk_lt (g := gb160) (o := .cells #[.string a0_0, .slice (some ad162) l0_1.length c0_1, .string a0_2] 50 (0, 0)) (by (with_reducible repeat (first | refine blk_drewN ?_ _ | refine blk_drew ?_ | refine blk_alloc ?_ _)); exact BK160.out)) : gb160 ≠ gb163)); have n6_ := Aside0.mk ((by rw [hg]; exact Nat.ne_of_gt (blk_lt (g := gb160) (o := .cells #[.string a0_0, .slice (some ad162) l0_1.length c0_1, .string a0_2] 50 (0, 0)) (by (with_reducible repeat (first | refine blk_drewN ?_ _ | refine blk_drew ?_ | refine blk_alloc ?_ _)); exact BK160.out)) : gb163 ≠ gb160)); clear BK160; clear HB; have BK160 := n0_; have HB := n1_; have BK163 := n2_; have GW163 := n3_; have GE163 := n4_; have NB160_163 := n5_; have NB163_160 := n6_; clear n0_ n1_ n2_ n3_ n4_ n5_ n6_; clear hb hbox hg; have hnb31 := NB163_160.out; have hnc31 := NB160_163.out; have hcz32_0 : w30.cell? ⟨gb163, 0, none⟩ = some (.string (⟨#[]⟩ : ByteArray)) := (blk_cell BK163.out 0).trans rfl; have hcz32_1 : w30.cell? ⟨gb163, 1, none⟩ = some (.string (⟨#[]⟩ : ByteArray)) := (blk_cell BK163.out 1).trans rfl; have hfz32_0 := blk_frozen BK163.out 0; have hfz32_1 := blk_frozen BK163.out 1))
             have n0_ : Aside0 (((w30.setCell ⟨gb163, 0, none⟩ (.string ((rd_T62 l0_1 x17_1).f0))).setCell ⟨gb163, 1, none⟩ (.string ((rd_T62 l0_1 x17_1).f1))).heap[gb160]? = some (.cells #[.string a0_0, .slice (some ad162) l0_1.length c0_1, .string a0_2] 50 (0, 0))) := ⟨by (with_reducible repeat (first | refine blk_drewN ?_ _ | refine blk_drew ?_ | refine blk_alloc ?_ _)); refine blk_far ?_ NB160_163.out _; (with_reducible repeat (first | refine blk_drewN ?_ _ | refine blk_drew ?_ | refine blk_alloc ?_ _)); refine blk_far ?_ NB160_163.out _; (with_reducible repeat (first | refine blk_drewN ?_ _ | refine blk_drew ?_ | refine blk_alloc ?_ _)); exact BK160.out⟩
             have n1_ : Aside0 (((w30.setCell ⟨gb163, 0, none⟩ (.string ((rd_T62 l0_1 x17_1).f0))).setCell ⟨gb163, 1, none⟩ (.string ((rd_T62 l0_1 x17_1).f1))).heap[gb163]? = some (.cells #[.string ((rd_T62 l0_1 x17_1).f0), .string ((rd_T62 l0_1 x17_1).f1)] 62 (0, 0))) := ⟨by (with_reducible repeat (first | refine blk_drewN ?_ _ | refine blk_drew ?_ | refine blk_alloc ?_ _)); refine blk_put (cs := #[.string ((rd_T62 l0_1 x17_1).f0), .string (⟨#[]⟩ : ByteArray)]) ?_ 1 _ rfl; (with_reducible repeat (first | refine blk_drewN ?_ _ | refine blk_drew ?_ | refine blk_alloc ?_ _)); refine blk_put (cs := #[.string (⟨#[]⟩ : ByteArray), .string (⟨#[]⟩ : ByteArray)]) ?_ 0 _ rfl; (with_reducible repeat (first | refine blk_drewN ?_ _ | refine blk_drew ?_ | refine blk_alloc ?_ _)); exact BK163.out⟩
             have n2_ : Aside0 (Below w.heap.size w ((w30.setCell ⟨gb163, 0, none⟩ (.string ((rd_T62 l0_1 x17_1).f0))).setCell ⟨gb163, 1, none⟩ (.string ((rd_T62 l0_1 x17_1).f1)))) := ⟨by repeat (first | (with_reducible first | exact HB.out | apply below_alloc | apply pw_below_drewN | apply below_drew1 | refine below_set ?_ GE160.out | refine below_set ?_ GE163.out) | exact HB.out)⟩
             (try clear BK160)
             (try clear BK163)
             (try clear HB)
             generalize ((w30.setCell ⟨gb163, 0, none⟩ (.string ((rd_T62 l0_1 x17_1).f0))).setCell ⟨gb163, 1, none⟩ (.string ((rd_T62 l0_1 x17_1).f1))) = w33 at n0_ n1_ n2_ ⊢
             have BK160 := n0_
             have BK163 := n1_
             have HB := n2_
             clear n0_ n1_ n2_
             have n0_ := Aside0.mk (blk_drew BK160.out)
             have n1_ := Aside0.mk (blk_drew BK163.out)
             have n2_ := Aside0.mk (below_drew1 HB.out)
             clear BK160
             clear BK163
             clear HB
             have BK160 := n0_
             have BK163 := n1_
             have HB := n2_
             clear n0_ n1_ n2_
             refine start_ (n := 28) (S := fun w' => w'.cell? ⟨gb163, 0, none⟩ = some (.string ((rd_T62 l0_1 x17_1).f0)) ∧ w'.cell? ⟨gb163, 1, none⟩ = some (.string ((rd_T62 l0_1 x17_1).f1))) (ds := []) (bm 28 0) (by kernel_rfl) rfl rfl ⟨(blk_cell BK163.out 0).trans rfl, (blk_cell BK163.out 1).trans rfl⟩ (fun hHeld => ?_); refine with_tabW http_printed.tab7 http_printed.bits7 (fun HT_ HW_ => ?_)
             generalize w33.drew = w34 at BK160 BK163 HB hHeld ⊢
             refine pv_ HT_ 0 (bm 28 1) ?_
             refine take_ (i := 1) (N := some 22) (v := ?_) (a' := ?_) (bm 28 3) rfl rfl (take_ofW HT_.out HW_.out (by kernel_rfl)) (fun _ _ _ h => h) (Or.inl ⟨by rfl, ?_⟩) hHeld ?_ ?_
             rotate_left
             ·rintro w' ⟨s0, s1⟩
              go_simp
              with_reducible rfl
             rotate_left
             ·simp only [Act.put, List.setIfInBounds_toArray, List.set_cons_zero, List.set_cons_succ, i64_w, i32_w]
              rfl
             refine one_ (i := 2) (N := some 23) (bm 28 7) rfl rfl (one_of HT_.out (by kernel_rfl)) (by decide) (fun K hK => ?_)
             refine goes_ Tryz.func41 (by kernel_rfl) rfl #[.string ((rd_T62 l0_1 x17_1).f0)] (by rfl) rfl rfl (by (try simp only [List.map_toArray, List.map_cons, List.map_nil]); first | done | rfl | (simp only [List.length_drop, List.length_take]; rfl)) ?_
             with_reducible refine (http_name.calls ((rd_T62 l0_1 x17_1).f0) true _ ?side1 A11.out).mono ?_
             (case side1 => exact LaidM.below HT.out (by repeat (first | (with_reducible first | exact HB.out | apply below_alloc | apply pw_below_drewN | apply below_drew1 | refine below_set ?_ GE160.out | refine below_set ?_ GE163.out) | exact HB.out)))
             rintro e w35 ⟨rfl, hb⟩
             refine ⟨_, rfl, ?_⟩
             have n0_ := Aside0.mk (blk_below (g := gb160) (o := .cells #[.string a0_0, .slice (some ad162) l0_1.length c0_1, .string a0_2] 50 (0, 0)) (by (with_reducible repeat (first | refine blk_drewN ?_ _ | refine blk_drew ?_ | refine blk_alloc ?_ _)); exact BK160.out) hb)
             have n1_ := Aside0.mk (blk_below (g := gb163) (o := .cells #[.string ((rd_T62 l0_1 x17_1).f0), .string ((rd_T62 l0_1 x17_1).f1)] 62 (0, 0)) (by (with_reducible repeat (first | refine blk_drewN ?_ _ | refine blk_drew ?_ | refine blk_alloc ?_ _)); exact BK163.out) hb)
             have n2_ := Aside0.mk (below_step (by repeat (first | (with_reducible first | exact HB.out | apply below_alloc | apply pw_below_drewN | apply below_drew1 | refine below_set ?_ GE160.out | refine below_set ?_ GE163.out) | exact HB.out)) hb)
             clear BK160
             clear BK163
             clear HB
             have BK160 := n0_
             have BK163 := n1_
             have HB := n2_
             clear n0_ n1_ n2_
             (try clear hb)
             (try clear hb2)
             (try clear hk)
             (try clear hi)
             refine hK.out _ _ ⟨(blk_cell BK163.out 0).trans rfl, (blk_cell BK163.out 1).trans rfl⟩ (fun hHeld => ?_)
             clear hK K
             refine norm_ (a' := ?_) ?_ ?_
             rotate_left
             ·show Act.put _ (some 23) _ = _
              simp only [Act.put, List.setIfInBounds_toArray, List.set_cons_zero, List.set_cons_succ, i64_w, i32_w]
              rfl
             refine pv_ HT_ 3 (bm 28 15) ?_
             refine pv_ HT_ 4 (bm 28 31) ?_
             refine pv_ HT_ 5 (bm 28 63) ?_
             refine take_ (i := 6) (N := some 27) (v := ?_) (a' := ?_) (bm 28 127) rfl rfl (take_ofW HT_.out HW_.out (by kernel_rfl)) (fun _ _ _ h => h) (Or.inl ⟨by rfl, ?_⟩) hHeld ?_ ?_
             rotate_left
             ·rintro w' ⟨s0, s1⟩
              go_simp
              with_reducible rfl
             rotate_left
             ·simp only [Act.put, List.setIfInBounds_toArray, List.set_cons_zero, List.set_cons_succ, i64_w, i32_w]
              rfl
             refine one_ (i := 7) (N := some 28) (bm 28 255) rfl rfl (one_of HT_.out (by kernel_rfl)) (by decide) (fun K hK => ?_)
             refine goes_ Tryz.func42 (by kernel_rfl) rfl #[.string ((rd_T62 l0_1 x17_1).f1)] (by rfl) rfl rfl (by (try simp only [List.map_toArray, List.map_cons, List.map_nil]); first | done | rfl | (simp only [List.length_drop, List.length_take]; rfl)) ?_
             with_reducible refine (http_content.calls k1 ((rd_T62 l0_1 x17_1).f1) true _ ?side1 A13.out).mono ?_
             (case side1 => exact LaidM.below HT.out (by repeat (first | (with_reducible first | exact HB.out | apply below_alloc | apply pw_below_drewN | apply below_drew1 | refine below_set ?_ GE160.out | refine below_set ?_ GE163.out) | exact HB.out)))
             rintro e w36 ⟨rfl, hb⟩
             refine ⟨_, rfl, ?_⟩
             have n0_ := Aside0.mk (blk_below (g := gb160) (o := .cells #[.string a0_0, .slice (some ad162) l0_1.length c0_1, .string a0_2] 50 (0, 0)) (by (with_reducible repeat (first | refine blk_drewN ?_ _ | refine blk_drew ?_ | refine blk_alloc ?_ _)); exact BK160.out) hb)
             have n1_ := Aside0.mk (blk_below (g := gb163) (o := .cells #[.string ((rd_T62 l0_1 x17_1).f0), .string ((rd_T62 l0_1 x17_1).f1)] 62 (0, 0)) (by (with_reducible repeat (first | refine blk_drewN ?_ _ | refine blk_drew ?_ | refine blk_alloc ?_ _)); exact BK163.out) hb)
             have n2_ := Aside0.mk (below_step (by repeat (first | (with_reducible first | exact HB.out | apply below_alloc | apply pw_below_drewN | apply below_drew1 | refine below_set ?_ GE160.out | refine below_set ?_ GE163.out) | exact HB.out)) hb)
             clear BK160
             clear BK163
             clear HB
             have BK160 := n0_
             have BK163 := n1_
             have HB := n2_
             clear n0_ n1_ n2_
             (try clear hb)
             (try clear hb2)
             (try clear hk)
             (try clear hi)
             refine hK.out _ _ ⟨(blk_cell BK163.out 0).trans rfl, (blk_cell BK163.out 1).trans rfl⟩ (fun hHeld => ?_)
             clear hK K
             refine norm_ (a' := ?_) ?_ ?_
             rotate_left
             ·show Act.put _ (some 28) _ = _
              simp only [Act.put, List.setIfInBounds_toArray, List.set_cons_zero, List.set_cons_succ, i64_w, i32_w]
              rfl
             refine pv_ HT_ 8 (bm 28 511) ?_
             refine pv_ HT_ 9 (bm 28 1023) ?_
             refine pv_ HT_ 10 (bm 28 2047) ?_
             refine pv_ HT_ 11 (bm 28 4095) ?_
             refine pv_ HT_ 14 (bm 28 20479) ?_
             refine take_ (i := 12) (N := some 33) (v := ?_) (a' := ?_) (bm 28 24575) rfl rfl (take_ofW HT_.out HW_.out (by kernel_rfl)) (fun _ _ _ h => h) (Or.inl ⟨by rfl, ?_⟩) hHeld ?_ ?_
             rotate_left
             ·rintro w' ⟨s0, s1⟩
              go_simp
              with_reducible rfl
             rotate_left
             ·simp only [Act.put, List.setIfInBounds_toArray, List.set_cons_zero, List.set_cons_succ, i64_w, i32_w]
              rfl
             refine take_ (i := 15) (N := some 36) (v := ?_) (a' := ?_) (bm 28 57343) rfl rfl (take_ofW HT_.out HW_.out (by kernel_rfl)) (fun _ _ _ h => h) (Or.inl ⟨by rfl, ?_⟩) hHeld ?_ ?_
             rotate_left
             ·rintro w' ⟨s0, s1⟩
              go_simp
              with_reducible rfl
             rotate_left
             ·simp only [Act.put, List.setIfInBounds_toArray, List.set_cons_zero, List.set_cons_succ, i64_w, i32_w]
              rfl
             refine one_ (i := 13) (N := some 34) (bm 28 65535) rfl rfl (one_of HT_.out (by kernel_rfl)) (by decide) (fun K hK => ?_)
             refine goes_ Tryz.func39 (by kernel_rfl) rfl #[.string ((rd_T62 l0_1 x17_1).f1), .string (⟨#[32, 9]⟩ : ByteArray)] (by rfl) rfl rfl (by (try simp only [List.map_toArray, List.map_cons, List.map_nil]); first | done | rfl | (simp only [List.length_drop, List.length_take]; rfl)) ?_
             with_reducible refine (strings_Trim.calls ((rd_T62 l0_1 x17_1).f1) (⟨#[32, 9]⟩ : ByteArray) t166 _ ?side1 A15.out).mono ?_
             (case side1 => exact LaidM.below HT.out (by repeat (first | (with_reducible first | exact HB.out | apply below_alloc | apply pw_below_drewN | apply below_drew1 | refine below_set ?_ GE160.out | refine below_set ?_ GE163.out) | exact HB.out)))
             rintro e w37 ⟨rfl, hb⟩
             refine ⟨_, rfl, ?_⟩
             have n0_ := Aside0.mk (blk_below (g := gb160) (o := .cells #[.string a0_0, .slice (some ad162) l0_1.length c0_1, .string a0_2] 50 (0, 0)) (by (with_reducible repeat (first | refine blk_drewN ?_ _ | refine blk_drew ?_ | refine blk_alloc ?_ _)); exact BK160.out) hb)
             have n1_ := Aside0.mk (blk_below (g := gb163) (o := .cells #[.string ((rd_T62 l0_1 x17_1).f0), .string ((rd_T62 l0_1 x17_1).f1)] 62 (0, 0)) (by (with_reducible repeat (first | refine blk_drewN ?_ _ | refine blk_drew ?_ | refine blk_alloc ?_ _)); exact BK163.out) hb)
             have n2_ := Aside0.mk (below_step (by repeat (first | (with_reducible first | exact HB.out | apply below_alloc | apply pw_below_drewN | apply below_drew1 | refine below_set ?_ GE160.out | refine below_set ?_ GE163.out) | exact HB.out)) hb)
             clear BK160
             clear BK163
             clear HB
             have BK160 := n0_
             have BK163 := n1_
             have HB := n2_
             clear n0_ n1_ n2_
             (try clear hb)
             (try clear hb2)
             (try clear hk)
             (try clear hi)
             refine hK.out _ _ ⟨(blk_cell BK163.out 0).trans rfl, (blk_cell BK163.out 1).trans rfl⟩ (fun hHeld => ?_)
             clear hK K
             refine norm_ (a' := ?_) ?_ ?_
             rotate_left
             ·show Act.put _ (some 34) _ = _
              simp only [Act.put, List.setIfInBounds_toArray, List.set_cons_zero, List.set_cons_succ, i64_w, i32_w]
              rfl
             refine pv_ HT_ 16 (bm 28 131071) ?_
             refine pv_ HT_ 17 (bm 28 262143) ?_
             refine pv_ HT_ 18 (bm 28 524287) ?_
             refine pv_ HT_ 19 (bm 28 1048575) ?_
             refine take_ (i := 20) (N := some 41) (v := ?_) (a' := ?_) (bm 28 2097151) rfl rfl (take_ofW HT_.out HW_.out (by kernel_rfl)) (fun _ _ _ h => h) (Or.inl ⟨by rfl, ?_⟩) hHeld ?_ ?_
             rotate_left
             ·rintro w' ⟨s0, s1⟩
              go_simp
              with_reducible rfl
             rotate_left
             ·simp only [Act.put, List.setIfInBounds_toArray, List.set_cons_zero, List.set_cons_succ, i64_w, i32_w]
              rfl
             refine one_ (i := 21) (N := some 42) (bm 28 4194303) rfl rfl (one_of HT_.out (by kernel_rfl)) (by decide) (fun K hK => ?_)
             refine goes_ Tryz.func43 (by kernel_rfl) rfl #[.string ((rd_T62 l0_1 x17_1).f0), .string (⟨#[67, 111, 110, 116, 101, 110, 116, 45, 76, 101, 110, 103, 116, 104]⟩ : ByteArray)] (by rfl) rfl rfl (by (try simp only [List.map_toArray, List.map_cons, List.map_nil]); first | done | rfl | (simp only [List.length_drop, List.length_take]; rfl)) ?_
             with_reducible refine (char_Same.calls ((rd_T62 l0_1 x17_1).f0) (⟨#[67, 111, 110, 116, 101, 110, 116, 45, 76, 101, 110, 103, 116, 104]⟩ : ByteArray) false _ ?side1 A17.out).mono ?_
             (case side1 => exact LaidM.below HT.out (by repeat (first | (with_reducible first | exact HB.out | apply below_alloc | apply pw_below_drewN | apply below_drew1 | refine below_set ?_ GE160.out | refine below_set ?_ GE163.out) | exact HB.out)))
             rintro e w38 ⟨rfl, hb⟩
             refine ⟨_, rfl, ?_⟩
             have n0_ := Aside0.mk (blk_below (g := gb160) (o := .cells #[.string a0_0, .slice (some ad162) l0_1.length c0_1, .string a0_2] 50 (0, 0)) (by (with_reducible repeat (first | refine blk_drewN ?_ _ | refine blk_drew ?_ | refine blk_alloc ?_ _)); exact BK160.out) hb)
             have n1_ := Aside0.mk (blk_below (g := gb163) (o := .cells #[.string ((rd_T62 l0_1 x17_1).f0), .string ((rd_T62 l0_1 x17_1).f1)] 62 (0, 0)) (by (with_reducible repeat (first | refine blk_drewN ?_ _ | refine blk_drew ?_ | refine blk_alloc ?_ _)); exact BK163.out) hb)
             have n2_ := Aside0.mk (below_step (by repeat (first | (with_reducible first | exact HB.out | apply below_alloc | apply pw_below_drewN | apply below_drew1 | refine below_set ?_ GE160.out | refine below_set ?_ GE163.out) | exact HB.out)) hb)
             clear BK160
             clear BK163
             clear HB
             have BK160 := n0_
             have BK163 := n1_
             have HB := n2_
             clear n0_ n1_ n2_
             (try clear hb)
             (try clear hb2)
             (try clear hk)
             (try clear hi)
             refine hK.out _ _ ⟨(blk_cell BK163.out 0).trans rfl, (blk_cell BK163.out 1).trans rfl⟩ (fun hHeld => ?_)
             clear hK K
             refine norm_ (a' := ?_) ?_ ?_
             rotate_left
             ·show Act.put _ (some 42) _ = _
              simp only [Act.put, List.setIfInBounds_toArray, List.set_cons_zero, List.set_cons_succ, i64_w, i32_w]
              rfl
             refine pv_ HT_ 22 (bm 28 8388607) ?_
             refine pv_ HT_ 23 (bm 28 16777215) ?_
             refine pv_ HT_ 24 (bm 28 33554431) ?_
             refine take_ (i := 25) (N := some 46) (v := ?_) (a' := ?_) (bm 28 67108863) rfl rfl (take_ofW HT_.out HW_.out (by kernel_rfl)) (fun _ _ _ h => h) (Or.inl ⟨by rfl, ?_⟩) hHeld ?_ ?_
             rotate_left
             ·rintro w' ⟨s0, s1⟩
              go_simp
              with_reducible rfl
             rotate_left
             ·simp only [Act.put, List.setIfInBounds_toArray, List.set_cons_zero, List.set_cons_succ, i64_w, i32_w]
              rfl
             refine one_ (i := 26) (N := some 47) (bm 28 134217727) rfl rfl (one_of HT_.out (by kernel_rfl)) (by decide) (fun K hK => ?_)
             refine goes_ Tryz.func43 (by kernel_rfl) rfl #[.string ((rd_T62 l0_1 x17_1).f0), .string (⟨#[84, 114, 97, 110, 115, 102, 101, 114, 45, 69, 110, 99, 111, 100, 105, 110, 103]⟩ : ByteArray)] (by rfl) rfl rfl (by (try simp only [List.map_toArray, List.map_cons, List.map_nil]); first | done | rfl | (simp only [List.length_drop, List.length_take]; rfl)) ?_
             with_reducible refine (char_Same.calls ((rd_T62 l0_1 x17_1).f0) (⟨#[84, 114, 97, 110, 115, 102, 101, 114, 45, 69, 110, 99, 111, 100, 105, 110, 103]⟩ : ByteArray) true _ ?side1 A28.out).mono ?_
             (case side1 => exact LaidM.below HT.out (by repeat (first | (with_reducible first | exact HB.out | apply below_alloc | apply pw_below_drewN | apply below_drew1 | refine below_set ?_ GE160.out | refine below_set ?_ GE163.out) | exact HB.out)))
             rintro e w39 ⟨rfl, hb⟩
             refine ⟨_, rfl, ?_⟩
             have n0_ := Aside0.mk (blk_below (g := gb160) (o := .cells #[.string a0_0, .slice (some ad162) l0_1.length c0_1, .string a0_2] 50 (0, 0)) (by (with_reducible repeat (first | refine blk_drewN ?_ _ | refine blk_drew ?_ | refine blk_alloc ?_ _)); exact BK160.out) hb)
             have n1_ := Aside0.mk (blk_below (g := gb163) (o := .cells #[.string ((rd_T62 l0_1 x17_1).f0), .string ((rd_T62 l0_1 x17_1).f1)] 62 (0, 0)) (by (with_reducible repeat (first | refine blk_drewN ?_ _ | refine blk_drew ?_ | refine blk_alloc ?_ _)); exact BK163.out) hb)
             have n2_ := Aside0.mk (below_step (by repeat (first | (with_reducible first | exact HB.out | apply below_alloc | apply pw_below_drewN | apply below_drew1 | refine below_set ?_ GE160.out | refine below_set ?_ GE163.out) | exact HB.out)) hb)
             clear BK160
             clear BK163
             clear HB
             have BK160 := n0_
             have BK163 := n1_
             have HB := n2_
             clear n0_ n1_ n2_
             (try clear hb)
             (try clear hb2)
             (try clear hk)
             (try clear hi)
             refine hK.out _ _ ⟨(blk_cell BK163.out 0).trans rfl, (blk_cell BK163.out 1).trans rfl⟩ (fun hHeld => ?_)
             clear hK K
             refine norm_ (a' := ?_) ?_ ?_
             rotate_left
             ·show Act.put _ (some 47) _ = _
              simp only [Act.put, List.setIfInBounds_toArray, List.set_cons_zero, List.set_cons_succ, i64_w, i32_w]
              rfl
             refine pv_ HT_ 27 (bm 28 268435455) ?_
             refine done_ (done_of HT_.out (by kernel_rfl)) ?_
             try go_wp2
             go_ret2
             exact ⟨by first | rfl | (simp [errW_none, errW_some] <;> rfl) | (simp [*, errW_none, errW_some] <;> rfl), by repeat (first | (with_reducible first | exact HB.out | apply below_alloc | apply pw_below_drewN | apply below_drew1 | refine below_set ?_ GE160.out | refine below_set ?_ GE163.out) | exact HB.out)⟩
            ·replace c29 := Bool.eq_false_iff.mpr c29
             subst c29
             have H1 : (if ((rd_T62 l0_1 x17_1).f0).size + 2 ≤ 9223372036854775807 then (if (((rd_T62 l0_1 x17_1).f0) ++ (⟨#[58, 32]⟩ : ByteArray)).size + ((rd_T62 l0_1 x17_1).f1).size ≤ 9223372036854775807 then (if ((((rd_T62 l0_1 x17_1).f0) ++ (⟨#[58, 32]⟩ : ByteArray)) ++ ((rd_T62 l0_1 x17_1).f1)).size + 2 ≤ 9223372036854775807 then (if x4_1.size + (((((rd_T62 l0_1 x17_1).f0) ++ (⟨#[58, 32]⟩ : ByteArray)) ++ ((rd_T62 l0_1 x17_1).f1)) ++ (⟨#[13, 10]⟩ : ByteArray)).size ≤ 9223372036854775807 then (http_printed.l0 k1 (x4_1 ++ (((((rd_T62 l0_1 x17_1).f0) ++ (⟨#[58, 32]⟩ : ByteArray)) ++ ((rd_T62 l0_1 x17_1).f1)) ++ (⟨#[13, 10]⟩ : ByteArray))) l0_1 (l0_1.length : Int) (wrap64 (x17_1 + 1)) a0_0 l0_1 a0_2) else (none)) else (none)) else (none)) else (none)) = some (r1, r2) := by rw [if_neg (show ¬ (false = true) by decide)] at H; exact H
             clear H
             have H := H1
             clear H1
             by_cases c40 : ((rd_T62 l0_1 x17_1).f0).size + 2 ≤ 9223372036854775807
             ·rw [if_pos c40] at H
              have c40b0 := eq_true c40
              have c40b1 : decide (((rd_T62 l0_1 x17_1).f0).size + 2 ≤ 9223372036854775807) = true := decide_eq_true c40
              try have c40b2 : (9223372036854775807 < ((rd_T62 l0_1 x17_1).f0).size + 2) = False := eq_false (Nat.not_lt.2 c40)
              by_cases c41 : (((rd_T62 l0_1 x17_1).f0) ++ (⟨#[58, 32]⟩ : ByteArray)).size + ((rd_T62 l0_1 x17_1).f1).size ≤ 9223372036854775807
              ·rw [if_pos c41] at H
               have c41e := c41
               (try simp only [ByteArray.size_append, gt_iff_lt, ge_iff_le, show (⟨#[58, 32]⟩ : ByteArray).size = 2 from rfl] at c41e)
               (try simp only [Int.natCast_add, Int.cast_ofNat_Int] at c41e)
               (try (have c41e2 := decide_eq_true c41e))
               (try replace c41e := eq_true c41e)
               have c41b0 := eq_true c41
               have c41b1 : decide ((((rd_T62 l0_1 x17_1).f0) ++ (⟨#[58, 32]⟩ : ByteArray)).size + ((rd_T62 l0_1 x17_1).f1).size ≤ 9223372036854775807) = true := decide_eq_true c41
               try have c41b2 : (9223372036854775807 < (((rd_T62 l0_1 x17_1).f0) ++ (⟨#[58, 32]⟩ : ByteArray)).size + ((rd_T62 l0_1 x17_1).f1).size) = False := eq_false (Nat.not_lt.2 c41)
               have c41b8 : (9223372036854775807 < ((rd_T62 l0_1 x17_1).f0).size + 2 + ((rd_T62 l0_1 x17_1).f1).size) = False := by have h_ := c41; simp only [ByteArray.size_append] at h_; exact eq_false (Nat.not_lt.2 h_)
               by_cases c42 : ((((rd_T62 l0_1 x17_1).f0) ++ (⟨#[58, 32]⟩ : ByteArray)) ++ ((rd_T62 l0_1 x17_1).f1)).size + 2 ≤ 9223372036854775807
               ·rw [if_pos c42] at H
                have c42e := c42
                (try simp only [ByteArray.size_append, gt_iff_lt, ge_iff_le, show (⟨#[58, 32]⟩ : ByteArray).size = 2 from rfl] at c42e)
                (try simp only [Int.natCast_add, Int.cast_ofNat_Int] at c42e)
                (try (have c42e2 := decide_eq_true c42e))
                (try replace c42e := eq_true c42e)
                have c42b0 := eq_true c42
                have c42b1 : decide (((((rd_T62 l0_1 x17_1).f0) ++ (⟨#[58, 32]⟩ : ByteArray)) ++ ((rd_T62 l0_1 x17_1).f1)).size + 2 ≤ 9223372036854775807) = true := decide_eq_true c42
                try have c42b2 : (9223372036854775807 < ((((rd_T62 l0_1 x17_1).f0) ++ (⟨#[58, 32]⟩ : ByteArray)) ++ ((rd_T62 l0_1 x17_1).f1)).size + 2) = False := eq_false (Nat.not_lt.2 c42)
                have c42b8 : (9223372036854775807 < ((rd_T62 l0_1 x17_1).f0).size + 2 + ((rd_T62 l0_1 x17_1).f1).size + 2) = False := by have h_ := c42; simp only [ByteArray.size_append] at h_; exact eq_false (Nat.not_lt.2 h_)
                by_cases c43 : x4_1.size + (((((rd_T62 l0_1 x17_1).f0) ++ (⟨#[58, 32]⟩ : ByteArray)) ++ ((rd_T62 l0_1 x17_1).f1)) ++ (⟨#[13, 10]⟩ : ByteArray)).size ≤ 9223372036854775807
                ·rw [if_pos c43] at H
                 have c43e := c43
                 (try simp only [ByteArray.size_append, gt_iff_lt, ge_iff_le, show (⟨#[13, 10]⟩ : ByteArray).size = 2 from rfl, show (⟨#[58, 32]⟩ : ByteArray).size = 2 from rfl] at c43e)
                 (try simp only [Int.natCast_add, Int.cast_ofNat_Int] at c43e)
                 (try (have c43e2 := decide_eq_true c43e))
                 (try replace c43e := eq_true c43e)
                 have c43b0 := eq_true c43
                 have c43b1 : decide (x4_1.size + (((((rd_T62 l0_1 x17_1).f0) ++ (⟨#[58, 32]⟩ : ByteArray)) ++ ((rd_T62 l0_1 x17_1).f1)) ++ (⟨#[13, 10]⟩ : ByteArray)).size ≤ 9223372036854775807) = true := decide_eq_true c43
                 try have c43b2 : (9223372036854775807 < x4_1.size + (((((rd_T62 l0_1 x17_1).f0) ++ (⟨#[58, 32]⟩ : ByteArray)) ++ ((rd_T62 l0_1 x17_1).f1)) ++ (⟨#[13, 10]⟩ : ByteArray)).size) = False := eq_false (Nat.not_lt.2 c43)
                 have c43b8 : (9223372036854775807 < x4_1.size + (((rd_T62 l0_1 x17_1).f0).size + 2 + ((rd_T62 l0_1 x17_1).f1).size + 2)) = False := by have h_ := c43; simp only [ByteArray.size_append] at h_; exact eq_false (Nat.not_lt.2 h_)
                 have H' := Aside0.mk H
                 clear H
                 have p162 : 0 ≤ (x17_1 : Int) := of_decide_eq_true (by first | (with_reducible assumption) | assumption)
                 have q162 : x17_1 < (l0_1.length : Int) := of_decide_eq_true (by first | (with_reducible assumption) | assumption)
                 obtain ⟨ad162, e162, hx162_0, hx162_1⟩ := at_T62 HR0_1.out x17_1 p162 q162
                 cases e162
                 replace hx162_0 := (HB.out.cell (World.block_lt_of_cell? w _ hx162_0)).trans hx162_0
                 replace hx162_1 := (HB.out.cell (World.block_lt_of_cell? w _ hx162_1)).trans hx162_1
                 replace p162 := eq_true p162
                 replace q162 := eq_true q162
                 try go_wp2_with (first | ((with_reducible refine gate_dst (N := 6) rfl ?_); (try (refine gate_guard (by rfl) ?_; dsimp only)); refine box_event ?hg (N := 6) ?hd (cs := #[.string (⟨#[]⟩ : ByteArray), .string (⟨#[]⟩ : ByteArray)]) (t := 62) ?hr ?_; (case hd => rfl); (case hg => rfl); (case hr => first | (go_simp; done) | (go_simp; rfl)); intro gb163 hg w44 hbox hb; have n0_ := Aside0.mk (blk_below (g := gb160) (o := .cells #[.string a0_0, .slice (some ad162) l0_1.length c0_1, .string a0_2] 50 (0, 0)) (by (with_reducible repeat (first | refine blk_drewN ?_ _ | refine blk_drew ?_ | refine blk_alloc ?_ _)); exact BK160.out) hb); have n1_ := Aside0.mk (below_step (by repeat (first | (with_reducible first | exact HB.out | apply below_alloc | apply pw_below_drewN | apply below_drew1 | refine below_set ?_ GE160.out) | exact HB.out)) hb); have n2_ := Aside0.mk (hbox); have n3_ := Aside0.mk ((by rw [hg]; exact (below_size (by repeat (first | (with_reducible first | exact HB.out | apply below_alloc | apply pw_below_drewN | apply below_drew1 | refine below_set ?_ GE160.out) | exact HB.out))) : w.heap.size ≤ gb163)); have n4_ := Aside0.mk ((by rw [hg]; exact (below_size (by repeat (first | (with_reducible first | exact HB.out | apply below_alloc | apply pw_below_drewN | apply below_drew1 | refine below_set ?_ GE160.out) | exact HB.out))) : w.heap.size ≤ gb163)); have n5_ := Aside0.mk ((by rw [hg]; exact Nat.ne_of_lt (blk_lt (g := gb160) (o := .cells #[.string a0_0, .slice (some ad162) l0_1.length c0_1, .string a0_2] 50 (0, 0)) (by (with_reducible repeat (first | refine blk_drewN ?_ _ | refine blk_drew ?_ | refine blk_alloc ?_ _)); exact BK160.out)) : gb160 ≠ gb163)); have n6_ := Aside0.mk ((by rw [hg]; exact Nat.ne_of_gt (blk_lt (g := gb160) (o := .cells #[.string a0_0, .slice (some ad162) l0_1.length c0_1, .string a0_2] 50 (0, 0)) (by (with_reducible repeat (first | refine blk_drewN ?_ _ | refine blk_drew ?_ | refine blk_alloc ?_ _)); exact BK160.out)) : gb163 ≠ gb160)); clear BK160; clear HB; have BK160 := n0_; have HB := n1_; have BK163 := n2_; have GW163 := n3_; have GE163 := n4_; have NB160_163 := n5_; have NB163_160 := n6_; clear n0_ n1_ n2_ n3_ n4_ n5_ n6_; clear hb hbox hg; have hnb45 := NB163_160.out; have hnc45 := NB160_163.out; have hcz46_0 : w44.cell? ⟨gb163, 0, none⟩ = some (.string (⟨#[]⟩ : ByteArray)) := (blk_cell BK163.out 0).trans rfl; have hcz46_1 : w44.cell? ⟨gb163, 1, none⟩ = some (.string (⟨#[]⟩ : ByteArray)) := (blk_cell BK163.out 1).trans rfl; have hfz46_0 := blk_frozen BK163.out 0; have hfz46_1 := blk_frozen BK163.out 1))
                 have n0_ : Aside0 (((w44.setCell ⟨gb163, 0, none⟩ (.string ((rd_T62 l0_1 x17_1).f0))).setCell ⟨gb163, 1, none⟩ (.string ((rd_T62 l0_1 x17_1).f1))).heap[gb160]? = some (.cells #[.string a0_0, .slice (some ad162) l0_1.length c0_1, .string a0_2] 50 (0, 0))) := ⟨by (with_reducible repeat (first | refine blk_drewN ?_ _ | refine blk_drew ?_ | refine blk_alloc ?_ _)); refine blk_far ?_ NB160_163.out _; (with_reducible repeat (first | refine blk_drewN ?_ _ | refine blk_drew ?_ | refine blk_alloc ?_ _)); refine blk_far ?_ NB160_163.out _; (with_reducible repeat (first | refine blk_drewN ?_ _ | refine blk_drew ?_ | refine blk_alloc ?_ _)); exact BK160.out⟩
                 have n1_ : Aside0 (((w44.setCell ⟨gb163, 0, none⟩ (.string ((rd_T62 l0_1 x17_1).f0))).setCell ⟨gb163, 1, none⟩ (.string ((rd_T62 l0_1 x17_1).f1))).heap[gb163]? = some (.cells #[.string ((rd_T62 l0_1 x17_1).f0), .string ((rd_T62 l0_1 x17_1).f1)] 62 (0, 0))) := ⟨by (with_reducible repeat (first | refine blk_drewN ?_ _ | refine blk_drew ?_ | refine blk_alloc ?_ _)); refine blk_put (cs := #[.string ((rd_T62 l0_1 x17_1).f0), .string (⟨#[]⟩ : ByteArray)]) ?_ 1 _ rfl; (with_reducible repeat (first | refine blk_drewN ?_ _ | refine blk_drew ?_ | refine blk_alloc ?_ _)); refine blk_put (cs := #[.string (⟨#[]⟩ : ByteArray), .string (⟨#[]⟩ : ByteArray)]) ?_ 0 _ rfl; (with_reducible repeat (first | refine blk_drewN ?_ _ | refine blk_drew ?_ | refine blk_alloc ?_ _)); exact BK163.out⟩
                 have n2_ : Aside0 (Below w.heap.size w ((w44.setCell ⟨gb163, 0, none⟩ (.string ((rd_T62 l0_1 x17_1).f0))).setCell ⟨gb163, 1, none⟩ (.string ((rd_T62 l0_1 x17_1).f1)))) := ⟨by repeat (first | (with_reducible first | exact HB.out | apply below_alloc | apply pw_below_drewN | apply below_drew1 | refine below_set ?_ GE160.out | refine below_set ?_ GE163.out) | exact HB.out)⟩
                 (try clear BK160)
                 (try clear BK163)
                 (try clear HB)
                 generalize ((w44.setCell ⟨gb163, 0, none⟩ (.string ((rd_T62 l0_1 x17_1).f0))).setCell ⟨gb163, 1, none⟩ (.string ((rd_T62 l0_1 x17_1).f1))) = w47 at n0_ n1_ n2_ ⊢
                 have BK160 := n0_
                 have BK163 := n1_
                 have HB := n2_
                 clear n0_ n1_ n2_
                 have n0_ := Aside0.mk (blk_drew BK160.out)
                 have n1_ := Aside0.mk (blk_drew BK163.out)
                 have n2_ := Aside0.mk (below_drew1 HB.out)
                 clear BK160
                 clear BK163
                 clear HB
                 have BK160 := n0_
                 have BK163 := n1_
                 have HB := n2_
                 clear n0_ n1_ n2_
                 refine start_ (n := 28) (S := fun w' => w'.cell? ⟨gb163, 0, none⟩ = some (.string ((rd_T62 l0_1 x17_1).f0)) ∧ w'.cell? ⟨gb163, 1, none⟩ = some (.string ((rd_T62 l0_1 x17_1).f1))) (ds := []) (bm 28 0) (by kernel_rfl) rfl rfl ⟨(blk_cell BK163.out 0).trans rfl, (blk_cell BK163.out 1).trans rfl⟩ (fun hHeld => ?_); refine with_tabW http_printed.tab7 http_printed.bits7 (fun HT_ HW_ => ?_)
                 generalize w47.drew = w48 at BK160 BK163 HB hHeld ⊢
                 refine pv_ HT_ 0 (bm 28 1) ?_
                 refine take_ (i := 1) (N := some 22) (v := ?_) (a' := ?_) (bm 28 3) rfl rfl (take_ofW HT_.out HW_.out (by kernel_rfl)) (fun _ _ _ h => h) (Or.inl ⟨by rfl, ?_⟩) hHeld ?_ ?_
                 rotate_left
                 ·rintro w' ⟨s0, s1⟩
                  go_simp
                  with_reducible rfl
                 rotate_left
                 ·simp only [Act.put, List.setIfInBounds_toArray, List.set_cons_zero, List.set_cons_succ, i64_w, i32_w]
                  rfl
                 refine one_ (i := 2) (N := some 23) (bm 28 7) rfl rfl (one_of HT_.out (by kernel_rfl)) (by decide) (fun K hK => ?_)
                 refine goes_ Tryz.func41 (by kernel_rfl) rfl #[.string ((rd_T62 l0_1 x17_1).f0)] (by rfl) rfl rfl (by (try simp only [List.map_toArray, List.map_cons, List.map_nil]); first | done | rfl | (simp only [List.length_drop, List.length_take]; rfl)) ?_
                 with_reducible refine (http_name.calls ((rd_T62 l0_1 x17_1).f0) true _ ?side1 A11.out).mono ?_
                 (case side1 => exact LaidM.below HT.out (by repeat (first | (with_reducible first | exact HB.out | apply below_alloc | apply pw_below_drewN | apply below_drew1 | refine below_set ?_ GE160.out | refine below_set ?_ GE163.out) | exact HB.out)))
                 rintro e w49 ⟨rfl, hb⟩
                 refine ⟨_, rfl, ?_⟩
                 have n0_ := Aside0.mk (blk_below (g := gb160) (o := .cells #[.string a0_0, .slice (some ad162) l0_1.length c0_1, .string a0_2] 50 (0, 0)) (by (with_reducible repeat (first | refine blk_drewN ?_ _ | refine blk_drew ?_ | refine blk_alloc ?_ _)); exact BK160.out) hb)
                 have n1_ := Aside0.mk (blk_below (g := gb163) (o := .cells #[.string ((rd_T62 l0_1 x17_1).f0), .string ((rd_T62 l0_1 x17_1).f1)] 62 (0, 0)) (by (with_reducible repeat (first | refine blk_drewN ?_ _ | refine blk_drew ?_ | refine blk_alloc ?_ _)); exact BK163.out) hb)
                 have n2_ := Aside0.mk (below_step (by repeat (first | (with_reducible first | exact HB.out | apply below_alloc | apply pw_below_drewN | apply below_drew1 | refine below_set ?_ GE160.out | refine below_set ?_ GE163.out) | exact HB.out)) hb)
                 clear BK160
                 clear BK163
                 clear HB
                 have BK160 := n0_
                 have BK163 := n1_
                 have HB := n2_
                 clear n0_ n1_ n2_
                 (try clear hb)
                 (try clear hb2)
                 (try clear hk)
                 (try clear hi)
                 refine hK.out _ _ ⟨(blk_cell BK163.out 0).trans rfl, (blk_cell BK163.out 1).trans rfl⟩ (fun hHeld => ?_)
                 clear hK K
                 refine norm_ (a' := ?_) ?_ ?_
                 rotate_left
                 ·show Act.put _ (some 23) _ = _
                  simp only [Act.put, List.setIfInBounds_toArray, List.set_cons_zero, List.set_cons_succ, i64_w, i32_w]
                  rfl
                 refine pv_ HT_ 3 (bm 28 15) ?_
                 refine pv_ HT_ 4 (bm 28 31) ?_
                 refine pv_ HT_ 5 (bm 28 63) ?_
                 refine take_ (i := 6) (N := some 27) (v := ?_) (a' := ?_) (bm 28 127) rfl rfl (take_ofW HT_.out HW_.out (by kernel_rfl)) (fun _ _ _ h => h) (Or.inl ⟨by rfl, ?_⟩) hHeld ?_ ?_
                 rotate_left
                 ·rintro w' ⟨s0, s1⟩
                  go_simp
                  with_reducible rfl
                 rotate_left
                 ·simp only [Act.put, List.setIfInBounds_toArray, List.set_cons_zero, List.set_cons_succ, i64_w, i32_w]
                  rfl
                 refine one_ (i := 7) (N := some 28) (bm 28 255) rfl rfl (one_of HT_.out (by kernel_rfl)) (by decide) (fun K hK => ?_)
                 refine goes_ Tryz.func42 (by kernel_rfl) rfl #[.string ((rd_T62 l0_1 x17_1).f1)] (by rfl) rfl rfl (by (try simp only [List.map_toArray, List.map_cons, List.map_nil]); first | done | rfl | (simp only [List.length_drop, List.length_take]; rfl)) ?_
                 with_reducible refine (http_content.calls k1 ((rd_T62 l0_1 x17_1).f1) true _ ?side1 A13.out).mono ?_
                 (case side1 => exact LaidM.below HT.out (by repeat (first | (with_reducible first | exact HB.out | apply below_alloc | apply pw_below_drewN | apply below_drew1 | refine below_set ?_ GE160.out | refine below_set ?_ GE163.out) | exact HB.out)))
                 rintro e w50 ⟨rfl, hb⟩
                 refine ⟨_, rfl, ?_⟩
                 have n0_ := Aside0.mk (blk_below (g := gb160) (o := .cells #[.string a0_0, .slice (some ad162) l0_1.length c0_1, .string a0_2] 50 (0, 0)) (by (with_reducible repeat (first | refine blk_drewN ?_ _ | refine blk_drew ?_ | refine blk_alloc ?_ _)); exact BK160.out) hb)
                 have n1_ := Aside0.mk (blk_below (g := gb163) (o := .cells #[.string ((rd_T62 l0_1 x17_1).f0), .string ((rd_T62 l0_1 x17_1).f1)] 62 (0, 0)) (by (with_reducible repeat (first | refine blk_drewN ?_ _ | refine blk_drew ?_ | refine blk_alloc ?_ _)); exact BK163.out) hb)
                 have n2_ := Aside0.mk (below_step (by repeat (first | (with_reducible first | exact HB.out | apply below_alloc | apply pw_below_drewN | apply below_drew1 | refine below_set ?_ GE160.out | refine below_set ?_ GE163.out) | exact HB.out)) hb)
                 clear BK160
                 clear BK163
                 clear HB
                 have BK160 := n0_
                 have BK163 := n1_
                 have HB := n2_
                 clear n0_ n1_ n2_
                 (try clear hb)
                 (try clear hb2)
                 (try clear hk)
                 (try clear hi)
                 refine hK.out _ _ ⟨(blk_cell BK163.out 0).trans rfl, (blk_cell BK163.out 1).trans rfl⟩ (fun hHeld => ?_)
                 clear hK K
                 refine norm_ (a' := ?_) ?_ ?_
                 rotate_left
                 ·show Act.put _ (some 28) _ = _
                  simp only [Act.put, List.setIfInBounds_toArray, List.set_cons_zero, List.set_cons_succ, i64_w, i32_w]
                  rfl
                 refine pv_ HT_ 8 (bm 28 511) ?_
                 refine pv_ HT_ 9 (bm 28 1023) ?_
                 refine pv_ HT_ 10 (bm 28 2047) ?_
                 refine pv_ HT_ 11 (bm 28 4095) ?_
                 refine pv_ HT_ 14 (bm 28 20479) ?_
                 refine take_ (i := 12) (N := some 33) (v := ?_) (a' := ?_) (bm 28 24575) rfl rfl (take_ofW HT_.out HW_.out (by kernel_rfl)) (fun _ _ _ h => h) (Or.inl ⟨by rfl, ?_⟩) hHeld ?_ ?_
                 rotate_left
                 ·rintro w' ⟨s0, s1⟩
                  go_simp
                  with_reducible rfl
                 rotate_left
                 ·simp only [Act.put, List.setIfInBounds_toArray, List.set_cons_zero, List.set_cons_succ, i64_w, i32_w]
                  rfl
                 refine take_ (i := 15) (N := some 36) (v := ?_) (a' := ?_) (bm 28 57343) rfl rfl (take_ofW HT_.out HW_.out (by kernel_rfl)) (fun _ _ _ h => h) (Or.inl ⟨by rfl, ?_⟩) hHeld ?_ ?_
                 rotate_left
                 ·rintro w' ⟨s0, s1⟩
                  go_simp
                  with_reducible rfl
                 rotate_left
                 ·simp only [Act.put, List.setIfInBounds_toArray, List.set_cons_zero, List.set_cons_succ, i64_w, i32_w]
                  rfl
                 refine one_ (i := 13) (N := some 34) (bm 28 65535) rfl rfl (one_of HT_.out (by kernel_rfl)) (by decide) (fun K hK => ?_)
                 refine goes_ Tryz.func39 (by kernel_rfl) rfl #[.string ((rd_T62 l0_1 x17_1).f1), .string (⟨#[32, 9]⟩ : ByteArray)] (by rfl) rfl rfl (by (try simp only [List.map_toArray, List.map_cons, List.map_nil]); first | done | rfl | (simp only [List.length_drop, List.length_take]; rfl)) ?_
                 with_reducible refine (strings_Trim.calls ((rd_T62 l0_1 x17_1).f1) (⟨#[32, 9]⟩ : ByteArray) t166 _ ?side1 A15.out).mono ?_
                 (case side1 => exact LaidM.below HT.out (by repeat (first | (with_reducible first | exact HB.out | apply below_alloc | apply pw_below_drewN | apply below_drew1 | refine below_set ?_ GE160.out | refine below_set ?_ GE163.out) | exact HB.out)))
                 rintro e w51 ⟨rfl, hb⟩
                 refine ⟨_, rfl, ?_⟩
                 have n0_ := Aside0.mk (blk_below (g := gb160) (o := .cells #[.string a0_0, .slice (some ad162) l0_1.length c0_1, .string a0_2] 50 (0, 0)) (by (with_reducible repeat (first | refine blk_drewN ?_ _ | refine blk_drew ?_ | refine blk_alloc ?_ _)); exact BK160.out) hb)
                 have n1_ := Aside0.mk (blk_below (g := gb163) (o := .cells #[.string ((rd_T62 l0_1 x17_1).f0), .string ((rd_T62 l0_1 x17_1).f1)] 62 (0, 0)) (by (with_reducible repeat (first | refine blk_drewN ?_ _ | refine blk_drew ?_ | refine blk_alloc ?_ _)); exact BK163.out) hb)
                 have n2_ := Aside0.mk (below_step (by repeat (first | (with_reducible first | exact HB.out | apply below_alloc | apply pw_below_drewN | apply below_drew1 | refine below_set ?_ GE160.out | refine below_set ?_ GE163.out) | exact HB.out)) hb)
                 clear BK160
                 clear BK163
                 clear HB
                 have BK160 := n0_
                 have BK163 := n1_
                 have HB := n2_
                 clear n0_ n1_ n2_
                 (try clear hb)
                 (try clear hb2)
                 (try clear hk)
                 (try clear hi)
                 refine hK.out _ _ ⟨(blk_cell BK163.out 0).trans rfl, (blk_cell BK163.out 1).trans rfl⟩ (fun hHeld => ?_)
                 clear hK K
                 refine norm_ (a' := ?_) ?_ ?_
                 rotate_left
                 ·show Act.put _ (some 34) _ = _
                  simp only [Act.put, List.setIfInBounds_toArray, List.set_cons_zero, List.set_cons_succ, i64_w, i32_w]
                  rfl
                 refine pv_ HT_ 16 (bm 28 131071) ?_
                 refine pv_ HT_ 17 (bm 28 262143) ?_
                 refine pv_ HT_ 18 (bm 28 524287) ?_
                 refine pv_ HT_ 19 (bm 28 1048575) ?_
                 refine take_ (i := 20) (N := some 41) (v := ?_) (a' := ?_) (bm 28 2097151) rfl rfl (take_ofW HT_.out HW_.out (by kernel_rfl)) (fun _ _ _ h => h) (Or.inl ⟨by rfl, ?_⟩) hHeld ?_ ?_
                 rotate_left
                 ·rintro w' ⟨s0, s1⟩
                  go_simp
                  with_reducible rfl
                 rotate_left
                 ·simp only [Act.put, List.setIfInBounds_toArray, List.set_cons_zero, List.set_cons_succ, i64_w, i32_w]
                  rfl
                 refine one_ (i := 21) (N := some 42) (bm 28 4194303) rfl rfl (one_of HT_.out (by kernel_rfl)) (by decide) (fun K hK => ?_)
                 refine goes_ Tryz.func43 (by kernel_rfl) rfl #[.string ((rd_T62 l0_1 x17_1).f0), .string (⟨#[67, 111, 110, 116, 101, 110, 116, 45, 76, 101, 110, 103, 116, 104]⟩ : ByteArray)] (by rfl) rfl rfl (by (try simp only [List.map_toArray, List.map_cons, List.map_nil]); first | done | rfl | (simp only [List.length_drop, List.length_take]; rfl)) ?_
                 with_reducible refine (char_Same.calls ((rd_T62 l0_1 x17_1).f0) (⟨#[67, 111, 110, 116, 101, 110, 116, 45, 76, 101, 110, 103, 116, 104]⟩ : ByteArray) false _ ?side1 A17.out).mono ?_
                 (case side1 => exact LaidM.below HT.out (by repeat (first | (with_reducible first | exact HB.out | apply below_alloc | apply pw_below_drewN | apply below_drew1 | refine below_set ?_ GE160.out | refine below_set ?_ GE163.out) | exact HB.out)))
                 rintro e w52 ⟨rfl, hb⟩
                 refine ⟨_, rfl, ?_⟩
                 have n0_ := Aside0.mk (blk_below (g := gb160) (o := .cells #[.string a0_0, .slice (some ad162) l0_1.length c0_1, .string a0_2] 50 (0, 0)) (by (with_reducible repeat (first | refine blk_drewN ?_ _ | refine blk_drew ?_ | refine blk_alloc ?_ _)); exact BK160.out) hb)
                 have n1_ := Aside0.mk (blk_below (g := gb163) (o := .cells #[.string ((rd_T62 l0_1 x17_1).f0), .string ((rd_T62 l0_1 x17_1).f1)] 62 (0, 0)) (by (with_reducible repeat (first | refine blk_drewN ?_ _ | refine blk_drew ?_ | refine blk_alloc ?_ _)); exact BK163.out) hb)
                 have n2_ := Aside0.mk (below_step (by repeat (first | (with_reducible first | exact HB.out | apply below_alloc | apply pw_below_drewN | apply below_drew1 | refine below_set ?_ GE160.out | refine below_set ?_ GE163.out) | exact HB.out)) hb)
                 clear BK160
                 clear BK163
                 clear HB
                 have BK160 := n0_
                 have BK163 := n1_
                 have HB := n2_
                 clear n0_ n1_ n2_
                 (try clear hb)
                 (try clear hb2)
                 (try clear hk)
                 (try clear hi)
                 refine hK.out _ _ ⟨(blk_cell BK163.out 0).trans rfl, (blk_cell BK163.out 1).trans rfl⟩ (fun hHeld => ?_)
                 clear hK K
                 refine norm_ (a' := ?_) ?_ ?_
                 rotate_left
                 ·show Act.put _ (some 42) _ = _
                  simp only [Act.put, List.setIfInBounds_toArray, List.set_cons_zero, List.set_cons_succ, i64_w, i32_w]
                  rfl
                 refine pv_ HT_ 22 (bm 28 8388607) ?_
                 refine pv_ HT_ 23 (bm 28 16777215) ?_
                 refine pv_ HT_ 24 (bm 28 33554431) ?_
                 refine take_ (i := 25) (N := some 46) (v := ?_) (a' := ?_) (bm 28 67108863) rfl rfl (take_ofW HT_.out HW_.out (by kernel_rfl)) (fun _ _ _ h => h) (Or.inl ⟨by rfl, ?_⟩) hHeld ?_ ?_
                 rotate_left
                 ·rintro w' ⟨s0, s1⟩
                  go_simp
                  with_reducible rfl
                 rotate_left
                 ·simp only [Act.put, List.setIfInBounds_toArray, List.set_cons_zero, List.set_cons_succ, i64_w, i32_w]
                  rfl
                 refine one_ (i := 26) (N := some 47) (bm 28 134217727) rfl rfl (one_of HT_.out (by kernel_rfl)) (by decide) (fun K hK => ?_)
                 refine goes_ Tryz.func43 (by kernel_rfl) rfl #[.string ((rd_T62 l0_1 x17_1).f0), .string (⟨#[84, 114, 97, 110, 115, 102, 101, 114, 45, 69, 110, 99, 111, 100, 105, 110, 103]⟩ : ByteArray)] (by rfl) rfl rfl (by (try simp only [List.map_toArray, List.map_cons, List.map_nil]); first | done | rfl | (simp only [List.length_drop, List.length_take]; rfl)) ?_
                 with_reducible refine (char_Same.calls ((rd_T62 l0_1 x17_1).f0) (⟨#[84, 114, 97, 110, 115, 102, 101, 114, 45, 69, 110, 99, 111, 100, 105, 110, 103]⟩ : ByteArray) false _ ?side1 A28.out).mono ?_
                 (case side1 => exact LaidM.below HT.out (by repeat (first | (with_reducible first | exact HB.out | apply below_alloc | apply pw_below_drewN | apply below_drew1 | refine below_set ?_ GE160.out | refine below_set ?_ GE163.out) | exact HB.out)))
                 rintro e w53 ⟨rfl, hb⟩
                 refine ⟨_, rfl, ?_⟩
                 have n0_ := Aside0.mk (blk_below (g := gb160) (o := .cells #[.string a0_0, .slice (some ad162) l0_1.length c0_1, .string a0_2] 50 (0, 0)) (by (with_reducible repeat (first | refine blk_drewN ?_ _ | refine blk_drew ?_ | refine blk_alloc ?_ _)); exact BK160.out) hb)
                 have n1_ := Aside0.mk (blk_below (g := gb163) (o := .cells #[.string ((rd_T62 l0_1 x17_1).f0), .string ((rd_T62 l0_1 x17_1).f1)] 62 (0, 0)) (by (with_reducible repeat (first | refine blk_drewN ?_ _ | refine blk_drew ?_ | refine blk_alloc ?_ _)); exact BK163.out) hb)
                 have n2_ := Aside0.mk (below_step (by repeat (first | (with_reducible first | exact HB.out | apply below_alloc | apply pw_below_drewN | apply below_drew1 | refine below_set ?_ GE160.out | refine below_set ?_ GE163.out) | exact HB.out)) hb)
                 clear BK160
                 clear BK163
                 clear HB
                 have BK160 := n0_
                 have BK163 := n1_
                 have HB := n2_
                 clear n0_ n1_ n2_
                 (try clear hb)
                 (try clear hb2)
                 (try clear hk)
                 (try clear hi)
                 refine hK.out _ _ ⟨(blk_cell BK163.out 0).trans rfl, (blk_cell BK163.out 1).trans rfl⟩ (fun hHeld => ?_)
                 clear hK K
                 refine norm_ (a' := ?_) ?_ ?_
                 rotate_left
                 ·show Act.put _ (some 47) _ = _
                  simp only [Act.put, List.setIfInBounds_toArray, List.set_cons_zero, List.set_cons_succ, i64_w, i32_w]
                  rfl
                 refine pv_ HT_ 27 (bm 28 268435455) ?_
                 refine done_ (done_of HT_.out (by kernel_rfl)) ?_
                 have hcz54_0 : w53.cell? ⟨gb163, 0, none⟩ = some (.string ((rd_T62 l0_1 x17_1).f0)) := (blk_cell BK163.out 0).trans rfl
                 have hcz54_1 : w53.cell? ⟨gb163, 1, none⟩ = some (.string ((rd_T62 l0_1 x17_1).f1)) := (blk_cell BK163.out 1).trans rfl
                 have hfz54_0 := blk_frozen BK163.out 0
                 have hfz54_1 := blk_frozen BK163.out 1
                 try go_wp2
                 go_roundg k1
                 case measure => have := HK1.out; omega
                 case rel => exact ⟨(x4_1 ++ (((((rd_T62 l0_1 x17_1).f0) ++ (⟨#[58, 32]⟩ : ByteArray)) ++ ((rd_T62 l0_1 x17_1).f1)) ++ (⟨#[13, 10]⟩ : ByteArray))), (wrap64 (x17_1 + 1)), (by first | rfl | (simp; done) | (simp [*]; done)), (by first | rfl | (simp; done) | (simp [*]; done)), H', ⟨by have := HK1.out; omega⟩, ⟨by (with_reducible repeat (first | refine blk_drewN ?_ _ | refine blk_drew ?_ | refine blk_alloc ?_ _)); exact BK160.out⟩, ⟨by repeat (first | (with_reducible first | exact HB.out | apply below_alloc | apply pw_below_drewN | apply below_drew1 | refine below_set ?_ GE160.out | refine below_set ?_ GE163.out) | exact HB.out)⟩⟩
                ·rw [if_neg c43] at H
                 have c43e := c43
                 (try simp only [ByteArray.size_append, gt_iff_lt, ge_iff_le, show (⟨#[13, 10]⟩ : ByteArray).size = 2 from rfl, show (⟨#[58, 32]⟩ : ByteArray).size = 2 from rfl] at c43e)
                 (try simp only [Int.natCast_add, Int.cast_ofNat_Int] at c43e)
                 (try (have c43e2 := decide_eq_false c43e))
                 (try replace c43e := eq_false c43e)
                 exact absurd H (by simp)
               ·rw [if_neg c42] at H
                have c42e := c42
                (try simp only [ByteArray.size_append, gt_iff_lt, ge_iff_le, show (⟨#[58, 32]⟩ : ByteArray).size = 2 from rfl] at c42e)
                (try simp only [Int.natCast_add, Int.cast_ofNat_Int] at c42e)
                (try (have c42e2 := decide_eq_false c42e))
                (try replace c42e := eq_false c42e)
                exact absurd H (by simp)
              ·rw [if_neg c41] at H
               have c41e := c41
               (try simp only [ByteArray.size_append, gt_iff_lt, ge_iff_le, show (⟨#[58, 32]⟩ : ByteArray).size = 2 from rfl] at c41e)
               (try simp only [Int.natCast_add, Int.cast_ofNat_Int] at c41e)
               (try (have c41e2 := decide_eq_false c41e))
               (try replace c41e := eq_false c41e)
               exact absurd H (by simp)
             ·rw [if_neg c40] at H
              exact absurd H (by simp)
          ·rw [if_neg c16] at H
           have c16b0 : (t166.toList == ((rd_T62 l0_1 x17_1).f1).toList) = false := beq_eq_false_iff_ne.mpr c16
           have c16b1 : (t166.toList != ((rd_T62 l0_1 x17_1).f1).toList) = true := bne_iff_ne.mpr c16
           simp only [Option.some.injEq, Prod.mk.injEq] at H
           obtain ⟨rfl, rfl⟩ := H
           have p162 : 0 ≤ (x17_1 : Int) := of_decide_eq_true (by first | (with_reducible assumption) | assumption)
           have q162 : x17_1 < (l0_1.length : Int) := of_decide_eq_true (by first | (with_reducible assumption) | assumption)
           obtain ⟨ad162, e162, hx162_0, hx162_1⟩ := at_T62 HR0_1.out x17_1 p162 q162
           cases e162
           replace hx162_0 := (HB.out.cell (World.block_lt_of_cell? w _ hx162_0)).trans hx162_0
           replace hx162_1 := (HB.out.cell (World.block_lt_of_cell? w _ hx162_1)).trans hx162_1
           replace p162 := eq_true p162
           replace q162 := eq_true q162
           try go_wp2_with (first | ((with_reducible refine gate_dst (N := 6) rfl ?_); (try (refine gate_guard (by rfl) ?_; dsimp only)); refine box_event ?hg (N := 6) ?hd (cs := #[.string (⟨#[]⟩ : ByteArray), .string (⟨#[]⟩ : ByteArray)]) (t := 62) ?hr ?_; (case hd => rfl); (case hg => rfl); (case hr => first | (go_simp; done) | (go_simp; rfl)); intro gb163 hg w55 hbox hb; have n0_ := Aside0.mk (blk_below (g := gb160) (o := .cells #[.string a0_0, .slice (some ad162) l0_1.length c0_1, .string a0_2] 50 (0, 0)) (by (with_reducible repeat (first | refine blk_drewN ?_ _ | refine blk_drew ?_ | refine blk_alloc ?_ _)); exact BK160.out) hb); have n1_ := Aside0.mk (below_step (by repeat (first | (with_reducible first | exact HB.out | apply below_alloc | apply pw_below_drewN | apply below_drew1 | refine below_set ?_ GE160.out) | exact HB.out)) hb); have n2_ := Aside0.mk (hbox); have n3_ := Aside0.mk ((by rw [hg]; exact (below_size (by repeat (first | (with_reducible first | exact HB.out | apply below_alloc | apply pw_below_drewN | apply below_drew1 | refine below_set ?_ GE160.out) | exact HB.out))) : w.heap.size ≤ gb163)); have n4_ := Aside0.mk ((by rw [hg]; exact (below_size (by repeat (first | (with_reducible first | exact HB.out | apply below_alloc | apply pw_below_drewN | apply below_drew1 | refine below_set ?_ GE160.out) | exact HB.out))) : w.heap.size ≤ gb163)); have n5_ := Aside0.mk ((by rw [hg]; exact Nat.ne_of_lt (blk_lt (g := gb160) (o := .cells #[.string a0_0, .slice (some ad162) l0_1.length c0_1, .string a0_2] 50 (0, 0)) (by (with_reducible repeat (first | refine blk_drewN ?_ _ | refine blk_drew ?_ | refine blk_alloc ?_ _)); exact BK160.out)) : gb160 ≠ gb163)); have n6_ := Aside0.mk ((by rw [hg]; exact Nat.ne_of_gt (blk_lt (g := gb160) (o := .cells #[.string a0_0, .slice (some ad162) l0_1.length c0_1, .string a0_2] 50 (0, 0)) (by (with_reducible repeat (first | refine blk_drewN ?_ _ | refine blk_drew ?_ | refine blk_alloc ?_ _)); exact BK160.out)) : gb163 ≠ gb160)); clear BK160; clear HB; have BK160 := n0_; have HB := n1_; have BK163 := n2_; have GW163 := n3_; have GE163 := n4_; have NB160_163 := n5_; have NB163_160 := n6_; clear n0_ n1_ n2_ n3_ n4_ n5_ n6_; clear hb hbox hg; have hnb56 := NB163_160.out; have hnc56 := NB160_163.out; have hcz57_0 : w55.cell? ⟨gb163, 0, none⟩ = some (.string (⟨#[]⟩ : ByteArray)) := (blk_cell BK163.out 0).trans rfl; have hcz57_1 : w55.cell? ⟨gb163, 1, none⟩ = some (.string (⟨#[]⟩ : ByteArray)) := (blk_cell BK163.out 1).trans rfl; have hfz57_0 := blk_frozen BK163.out 0; have hfz57_1 := blk_frozen BK163.out 1))
           have n0_ : Aside0 (((w55.setCell ⟨gb163, 0, none⟩ (.string ((rd_T62 l0_1 x17_1).f0))).setCell ⟨gb163, 1, none⟩ (.string ((rd_T62 l0_1 x17_1).f1))).heap[gb160]? = some (.cells #[.string a0_0, .slice (some ad162) l0_1.length c0_1, .string a0_2] 50 (0, 0))) := ⟨by (with_reducible repeat (first | refine blk_drewN ?_ _ | refine blk_drew ?_ | refine blk_alloc ?_ _)); refine blk_far ?_ NB160_163.out _; (with_reducible repeat (first | refine blk_drewN ?_ _ | refine blk_drew ?_ | refine blk_alloc ?_ _)); refine blk_far ?_ NB160_163.out _; (with_reducible repeat (first | refine blk_drewN ?_ _ | refine blk_drew ?_ | refine blk_alloc ?_ _)); exact BK160.out⟩
           have n1_ : Aside0 (((w55.setCell ⟨gb163, 0, none⟩ (.string ((rd_T62 l0_1 x17_1).f0))).setCell ⟨gb163, 1, none⟩ (.string ((rd_T62 l0_1 x17_1).f1))).heap[gb163]? = some (.cells #[.string ((rd_T62 l0_1 x17_1).f0), .string ((rd_T62 l0_1 x17_1).f1)] 62 (0, 0))) := ⟨by (with_reducible repeat (first | refine blk_drewN ?_ _ | refine blk_drew ?_ | refine blk_alloc ?_ _)); refine blk_put (cs := #[.string ((rd_T62 l0_1 x17_1).f0), .string (⟨#[]⟩ : ByteArray)]) ?_ 1 _ rfl; (with_reducible repeat (first | refine blk_drewN ?_ _ | refine blk_drew ?_ | refine blk_alloc ?_ _)); refine blk_put (cs := #[.string (⟨#[]⟩ : ByteArray), .string (⟨#[]⟩ : ByteArray)]) ?_ 0 _ rfl; (with_reducible repeat (first | refine blk_drewN ?_ _ | refine blk_drew ?_ | refine blk_alloc ?_ _)); exact BK163.out⟩
           have n2_ : Aside0 (Below w.heap.size w ((w55.setCell ⟨gb163, 0, none⟩ (.string ((rd_T62 l0_1 x17_1).f0))).setCell ⟨gb163, 1, none⟩ (.string ((rd_T62 l0_1 x17_1).f1)))) := ⟨by repeat (first | (with_reducible first | exact HB.out | apply below_alloc | apply pw_below_drewN | apply below_drew1 | refine below_set ?_ GE160.out | refine below_set ?_ GE163.out) | exact HB.out)⟩
           (try clear BK160)
           (try clear BK163)
           (try clear HB)
           generalize ((w55.setCell ⟨gb163, 0, none⟩ (.string ((rd_T62 l0_1 x17_1).f0))).setCell ⟨gb163, 1, none⟩ (.string ((rd_T62 l0_1 x17_1).f1))) = w58 at n0_ n1_ n2_ ⊢
           have BK160 := n0_
           have BK163 := n1_
           have HB := n2_
           clear n0_ n1_ n2_
           have n0_ := Aside0.mk (blk_drew BK160.out)
           have n1_ := Aside0.mk (blk_drew BK163.out)
           have n2_ := Aside0.mk (below_drew1 HB.out)
           clear BK160
           clear BK163
           clear HB
           have BK160 := n0_
           have BK163 := n1_
           have HB := n2_
           clear n0_ n1_ n2_
           refine start_ (n := 28) (S := fun w' => w'.cell? ⟨gb163, 0, none⟩ = some (.string ((rd_T62 l0_1 x17_1).f0)) ∧ w'.cell? ⟨gb163, 1, none⟩ = some (.string ((rd_T62 l0_1 x17_1).f1))) (ds := []) (bm 28 0) (by kernel_rfl) rfl rfl ⟨(blk_cell BK163.out 0).trans rfl, (blk_cell BK163.out 1).trans rfl⟩ (fun hHeld => ?_); refine with_tabW http_printed.tab7 http_printed.bits7 (fun HT_ HW_ => ?_)
           generalize w58.drew = w59 at BK160 BK163 HB hHeld ⊢
           refine pv_ HT_ 0 (bm 28 1) ?_
           refine take_ (i := 1) (N := some 22) (v := ?_) (a' := ?_) (bm 28 3) rfl rfl (take_ofW HT_.out HW_.out (by kernel_rfl)) (fun _ _ _ h => h) (Or.inl ⟨by rfl, ?_⟩) hHeld ?_ ?_
           rotate_left
           ·rintro w' ⟨s0, s1⟩
            go_simp
            with_reducible rfl
           rotate_left
           ·simp only [Act.put, List.setIfInBounds_toArray, List.set_cons_zero, List.set_cons_succ, i64_w, i32_w]
            rfl
           refine one_ (i := 2) (N := some 23) (bm 28 7) rfl rfl (one_of HT_.out (by kernel_rfl)) (by decide) (fun K hK => ?_)
           refine goes_ Tryz.func41 (by kernel_rfl) rfl #[.string ((rd_T62 l0_1 x17_1).f0)] (by rfl) rfl rfl (by (try simp only [List.map_toArray, List.map_cons, List.map_nil]); first | done | rfl | (simp only [List.length_drop, List.length_take]; rfl)) ?_
           with_reducible refine (http_name.calls ((rd_T62 l0_1 x17_1).f0) true _ ?side1 A11.out).mono ?_
           (case side1 => exact LaidM.below HT.out (by repeat (first | (with_reducible first | exact HB.out | apply below_alloc | apply pw_below_drewN | apply below_drew1 | refine below_set ?_ GE160.out | refine below_set ?_ GE163.out) | exact HB.out)))
           rintro e w60 ⟨rfl, hb⟩
           refine ⟨_, rfl, ?_⟩
           have n0_ := Aside0.mk (blk_below (g := gb160) (o := .cells #[.string a0_0, .slice (some ad162) l0_1.length c0_1, .string a0_2] 50 (0, 0)) (by (with_reducible repeat (first | refine blk_drewN ?_ _ | refine blk_drew ?_ | refine blk_alloc ?_ _)); exact BK160.out) hb)
           have n1_ := Aside0.mk (blk_below (g := gb163) (o := .cells #[.string ((rd_T62 l0_1 x17_1).f0), .string ((rd_T62 l0_1 x17_1).f1)] 62 (0, 0)) (by (with_reducible repeat (first | refine blk_drewN ?_ _ | refine blk_drew ?_ | refine blk_alloc ?_ _)); exact BK163.out) hb)
           have n2_ := Aside0.mk (below_step (by repeat (first | (with_reducible first | exact HB.out | apply below_alloc | apply pw_below_drewN | apply below_drew1 | refine below_set ?_ GE160.out | refine below_set ?_ GE163.out) | exact HB.out)) hb)
           clear BK160
           clear BK163
           clear HB
           have BK160 := n0_
           have BK163 := n1_
           have HB := n2_
           clear n0_ n1_ n2_
           (try clear hb)
           (try clear hb2)
           (try clear hk)
           (try clear hi)
           refine hK.out _ _ ⟨(blk_cell BK163.out 0).trans rfl, (blk_cell BK163.out 1).trans rfl⟩ (fun hHeld => ?_)
           clear hK K
           refine norm_ (a' := ?_) ?_ ?_
           rotate_left
           ·show Act.put _ (some 23) _ = _
            simp only [Act.put, List.setIfInBounds_toArray, List.set_cons_zero, List.set_cons_succ, i64_w, i32_w]
            rfl
           refine pv_ HT_ 3 (bm 28 15) ?_
           refine pv_ HT_ 4 (bm 28 31) ?_
           refine pv_ HT_ 5 (bm 28 63) ?_
           refine take_ (i := 6) (N := some 27) (v := ?_) (a' := ?_) (bm 28 127) rfl rfl (take_ofW HT_.out HW_.out (by kernel_rfl)) (fun _ _ _ h => h) (Or.inl ⟨by rfl, ?_⟩) hHeld ?_ ?_
           rotate_left
           ·rintro w' ⟨s0, s1⟩
            go_simp
            with_reducible rfl
           rotate_left
           ·simp only [Act.put, List.setIfInBounds_toArray, List.set_cons_zero, List.set_cons_succ, i64_w, i32_w]
            rfl
           refine one_ (i := 7) (N := some 28) (bm 28 255) rfl rfl (one_of HT_.out (by kernel_rfl)) (by decide) (fun K hK => ?_)
           refine goes_ Tryz.func42 (by kernel_rfl) rfl #[.string ((rd_T62 l0_1 x17_1).f1)] (by rfl) rfl rfl (by (try simp only [List.map_toArray, List.map_cons, List.map_nil]); first | done | rfl | (simp only [List.length_drop, List.length_take]; rfl)) ?_
           with_reducible refine (http_content.calls k1 ((rd_T62 l0_1 x17_1).f1) true _ ?side1 A13.out).mono ?_
           (case side1 => exact LaidM.below HT.out (by repeat (first | (with_reducible first | exact HB.out | apply below_alloc | apply pw_below_drewN | apply below_drew1 | refine below_set ?_ GE160.out | refine below_set ?_ GE163.out) | exact HB.out)))
           rintro e w61 ⟨rfl, hb⟩
           refine ⟨_, rfl, ?_⟩
           have n0_ := Aside0.mk (blk_below (g := gb160) (o := .cells #[.string a0_0, .slice (some ad162) l0_1.length c0_1, .string a0_2] 50 (0, 0)) (by (with_reducible repeat (first | refine blk_drewN ?_ _ | refine blk_drew ?_ | refine blk_alloc ?_ _)); exact BK160.out) hb)
           have n1_ := Aside0.mk (blk_below (g := gb163) (o := .cells #[.string ((rd_T62 l0_1 x17_1).f0), .string ((rd_T62 l0_1 x17_1).f1)] 62 (0, 0)) (by (with_reducible repeat (first | refine blk_drewN ?_ _ | refine blk_drew ?_ | refine blk_alloc ?_ _)); exact BK163.out) hb)
           have n2_ := Aside0.mk (below_step (by repeat (first | (with_reducible first | exact HB.out | apply below_alloc | apply pw_below_drewN | apply below_drew1 | refine below_set ?_ GE160.out | refine below_set ?_ GE163.out) | exact HB.out)) hb)
           clear BK160
           clear BK163
           clear HB
           have BK160 := n0_
           have BK163 := n1_
           have HB := n2_
           clear n0_ n1_ n2_
           (try clear hb)
           (try clear hb2)
           (try clear hk)
           (try clear hi)
           refine hK.out _ _ ⟨(blk_cell BK163.out 0).trans rfl, (blk_cell BK163.out 1).trans rfl⟩ (fun hHeld => ?_)
           clear hK K
           refine norm_ (a' := ?_) ?_ ?_
           rotate_left
           ·show Act.put _ (some 28) _ = _
            simp only [Act.put, List.setIfInBounds_toArray, List.set_cons_zero, List.set_cons_succ, i64_w, i32_w]
            rfl
           refine pv_ HT_ 8 (bm 28 511) ?_
           refine pv_ HT_ 9 (bm 28 1023) ?_
           refine pv_ HT_ 10 (bm 28 2047) ?_
           refine pv_ HT_ 11 (bm 28 4095) ?_
           refine pv_ HT_ 14 (bm 28 20479) ?_
           refine take_ (i := 12) (N := some 33) (v := ?_) (a' := ?_) (bm 28 24575) rfl rfl (take_ofW HT_.out HW_.out (by kernel_rfl)) (fun _ _ _ h => h) (Or.inl ⟨by rfl, ?_⟩) hHeld ?_ ?_
           rotate_left
           ·rintro w' ⟨s0, s1⟩
            go_simp
            with_reducible rfl
           rotate_left
           ·simp only [Act.put, List.setIfInBounds_toArray, List.set_cons_zero, List.set_cons_succ, i64_w, i32_w]
            rfl
           refine take_ (i := 15) (N := some 36) (v := ?_) (a' := ?_) (bm 28 57343) rfl rfl (take_ofW HT_.out HW_.out (by kernel_rfl)) (fun _ _ _ h => h) (Or.inl ⟨by rfl, ?_⟩) hHeld ?_ ?_
           rotate_left
           ·rintro w' ⟨s0, s1⟩
            go_simp
            with_reducible rfl
           rotate_left
           ·simp only [Act.put, List.setIfInBounds_toArray, List.set_cons_zero, List.set_cons_succ, i64_w, i32_w]
            rfl
           refine one_ (i := 13) (N := some 34) (bm 28 65535) rfl rfl (one_of HT_.out (by kernel_rfl)) (by decide) (fun K hK => ?_)
           refine goes_ Tryz.func39 (by kernel_rfl) rfl #[.string ((rd_T62 l0_1 x17_1).f1), .string (⟨#[32, 9]⟩ : ByteArray)] (by rfl) rfl rfl (by (try simp only [List.map_toArray, List.map_cons, List.map_nil]); first | done | rfl | (simp only [List.length_drop, List.length_take]; rfl)) ?_
           with_reducible refine (strings_Trim.calls ((rd_T62 l0_1 x17_1).f1) (⟨#[32, 9]⟩ : ByteArray) t166 _ ?side1 A15.out).mono ?_
           (case side1 => exact LaidM.below HT.out (by repeat (first | (with_reducible first | exact HB.out | apply below_alloc | apply pw_below_drewN | apply below_drew1 | refine below_set ?_ GE160.out | refine below_set ?_ GE163.out) | exact HB.out)))
           rintro e w62 ⟨rfl, hb⟩
           refine ⟨_, rfl, ?_⟩
           have n0_ := Aside0.mk (blk_below (g := gb160) (o := .cells #[.string a0_0, .slice (some ad162) l0_1.length c0_1, .string a0_2] 50 (0, 0)) (by (with_reducible repeat (first | refine blk_drewN ?_ _ | refine blk_drew ?_ | refine blk_alloc ?_ _)); exact BK160.out) hb)
           have n1_ := Aside0.mk (blk_below (g := gb163) (o := .cells #[.string ((rd_T62 l0_1 x17_1).f0), .string ((rd_T62 l0_1 x17_1).f1)] 62 (0, 0)) (by (with_reducible repeat (first | refine blk_drewN ?_ _ | refine blk_drew ?_ | refine blk_alloc ?_ _)); exact BK163.out) hb)
           have n2_ := Aside0.mk (below_step (by repeat (first | (with_reducible first | exact HB.out | apply below_alloc | apply pw_below_drewN | apply below_drew1 | refine below_set ?_ GE160.out | refine below_set ?_ GE163.out) | exact HB.out)) hb)
           clear BK160
           clear BK163
           clear HB
           have BK160 := n0_
           have BK163 := n1_
           have HB := n2_
           clear n0_ n1_ n2_
           (try clear hb)
           (try clear hb2)
           (try clear hk)
           (try clear hi)
           refine hK.out _ _ ⟨(blk_cell BK163.out 0).trans rfl, (blk_cell BK163.out 1).trans rfl⟩ (fun hHeld => ?_)
           clear hK K
           refine norm_ (a' := ?_) ?_ ?_
           rotate_left
           ·show Act.put _ (some 34) _ = _
            simp only [Act.put, List.setIfInBounds_toArray, List.set_cons_zero, List.set_cons_succ, i64_w, i32_w]
            rfl
           refine pv_ HT_ 16 (bm 28 131071) ?_
           refine pv_ HT_ 17 (bm 28 262143) ?_
           refine pv_ HT_ 18 (bm 28 524287) ?_
           refine pu_ HT_ 19 (bm 28 1048575) ?_
           refine pu_ HT_ 20 (bm 28 2097151) ?_
           refine pu_ HT_ 21 (bm 28 4194303) ?_
           refine pv_ HT_ 22 (bm 28 8388607) ?_
           refine pv_ HT_ 23 (bm 28 16777215) ?_
           refine pu_ HT_ 24 (bm 28 33554431) ?_
           refine pu_ HT_ 25 (bm 28 67108863) ?_
           refine pu_ HT_ 26 (bm 28 134217727) ?_
           refine pv_ HT_ 27 (bm 28 268435455) ?_
           refine done_ (done_of HT_.out (by kernel_rfl)) ?_
           try go_wp2
           go_ret2
           exact ⟨by first | rfl | (simp [errW_none, errW_some] <;> rfl) | (simp [*, errW_none, errW_some] <;> rfl), by repeat (first | (with_reducible first | exact HB.out | apply below_alloc | apply pw_below_drewN | apply below_drew1 | refine below_set ?_ GE160.out | refine below_set ?_ GE163.out) | exact HB.out)⟩
         ·replace c14 := Bool.eq_false_iff.mpr c14
          subst c14
          have H1 : (some ((⟨#[]⟩ : ByteArray), 80)) = some (r1, r2) := by rw [if_neg (show ¬ (false = true) by decide)] at H; exact H
          clear H
          have H := H1
          clear H1
          simp only [Option.some.injEq, Prod.mk.injEq] at H
          obtain ⟨rfl, rfl⟩ := H
          have p162 : 0 ≤ (x17_1 : Int) := of_decide_eq_true (by first | (with_reducible assumption) | assumption)
          have q162 : x17_1 < (l0_1.length : Int) := of_decide_eq_true (by first | (with_reducible assumption) | assumption)
          obtain ⟨ad162, e162, hx162_0, hx162_1⟩ := at_T62 HR0_1.out x17_1 p162 q162
          cases e162
          replace hx162_0 := (HB.out.cell (World.block_lt_of_cell? w _ hx162_0)).trans hx162_0
          replace hx162_1 := (HB.out.cell (World.block_lt_of_cell? w _ hx162_1)).trans hx162_1
          replace p162 := eq_true p162
          replace q162 := eq_true q162
          try go_wp2_with (first | ((with_reducible refine gate_dst (N := 6) rfl ?_); (try (refine gate_guard (by rfl) ?_; dsimp only)); refine box_event ?hg (N := 6) ?hd (cs := #[.string (⟨#[]⟩ : ByteArray), .string (⟨#[]⟩ : ByteArray)]) (t := 62) ?hr ?_; (case hd => rfl); (case hg => rfl); (case hr => first | (go_simp; done) | (go_simp; rfl)); intro gb163 hg w63 hbox hb; have n0_ := Aside0.mk (blk_below (g := gb160) (o := .cells #[.string a0_0, .slice (some ad162) l0_1.length c0_1, .string a0_2] 50 (0, 0)) (by (with_reducible repeat (first | refine blk_drewN ?_ _ | refine blk_drew ?_ | refine blk_alloc ?_ _)); exact BK160.out) hb); have n1_ := Aside0.mk (below_step (by repeat (first | (with_reducible first | exact HB.out | apply below_alloc | apply pw_below_drewN | apply below_drew1 | refine below_set ?_ GE160.out) | exact HB.out)) hb); have n2_ := Aside0.mk (hbox); have n3_ := Aside0.mk ((by rw [hg]; exact (below_size (by repeat (first | (with_reducible first | exact HB.out | apply below_alloc | apply pw_below_drewN | apply below_drew1 | refine below_set ?_ GE160.out) | exact HB.out))) : w.heap.size ≤ gb163)); have n4_ := Aside0.mk ((by rw [hg]; exact (below_size (by repeat (first | (with_reducible first | exact HB.out | apply below_alloc | apply pw_below_drewN | apply below_drew1 | refine below_set ?_ GE160.out) | exact HB.out))) : w.heap.size ≤ gb163)); have n5_ := Aside0.mk ((by rw [hg]; exact Nat.ne_of_lt (blk_lt (g := gb160) (o := .cells #[.string a0_0, .slice (some ad162) l0_1.length c0_1, .string a0_2] 50 (0, 0)) (by (with_reducible repeat (first | refine blk_drewN ?_ _ | refine blk_drew ?_ | refine blk_alloc ?_ _)); exact BK160.out)) : gb160 ≠ gb163)); have n6_ := Aside0.mk ((by rw [hg]; exact Nat.ne_of_gt (blk_lt (g := gb160) (o := .cells #[.string a0_0, .slice (some ad162) l0_1.length c0_1, .string a0_2] 50 (0, 0)) (by (with_reducible repeat (first | refine blk_drewN ?_ _ | refine blk_drew ?_ | refine blk_alloc ?_ _)); exact BK160.out)) : gb163 ≠ gb160)); clear BK160; clear HB; have BK160 := n0_; have HB := n1_; have BK163 := n2_; have GW163 := n3_; have GE163 := n4_; have NB160_163 := n5_; have NB163_160 := n6_; clear n0_ n1_ n2_ n3_ n4_ n5_ n6_; clear hb hbox hg; have hnb64 := NB163_160.out; have hnc64 := NB160_163.out; have hcz65_0 : w63.cell? ⟨gb163, 0, none⟩ = some (.string (⟨#[]⟩ : ByteArray)) := (blk_cell BK163.out 0).trans rfl; have hcz65_1 : w63.cell? ⟨gb163, 1, none⟩ = some (.string (⟨#[]⟩ : ByteArray)) := (blk_cell BK163.out 1).trans rfl; have hfz65_0 := blk_frozen BK163.out 0; have hfz65_1 := blk_frozen BK163.out 1))
          have n0_ : Aside0 (((w63.setCell ⟨gb163, 0, none⟩ (.string ((rd_T62 l0_1 x17_1).f0))).setCell ⟨gb163, 1, none⟩ (.string ((rd_T62 l0_1 x17_1).f1))).heap[gb160]? = some (.cells #[.string a0_0, .slice (some ad162) l0_1.length c0_1, .string a0_2] 50 (0, 0))) := ⟨by (with_reducible repeat (first | refine blk_drewN ?_ _ | refine blk_drew ?_ | refine blk_alloc ?_ _)); refine blk_far ?_ NB160_163.out _; (with_reducible repeat (first | refine blk_drewN ?_ _ | refine blk_drew ?_ | refine blk_alloc ?_ _)); refine blk_far ?_ NB160_163.out _; (with_reducible repeat (first | refine blk_drewN ?_ _ | refine blk_drew ?_ | refine blk_alloc ?_ _)); exact BK160.out⟩
          have n1_ : Aside0 (((w63.setCell ⟨gb163, 0, none⟩ (.string ((rd_T62 l0_1 x17_1).f0))).setCell ⟨gb163, 1, none⟩ (.string ((rd_T62 l0_1 x17_1).f1))).heap[gb163]? = some (.cells #[.string ((rd_T62 l0_1 x17_1).f0), .string ((rd_T62 l0_1 x17_1).f1)] 62 (0, 0))) := ⟨by (with_reducible repeat (first | refine blk_drewN ?_ _ | refine blk_drew ?_ | refine blk_alloc ?_ _)); refine blk_put (cs := #[.string ((rd_T62 l0_1 x17_1).f0), .string (⟨#[]⟩ : ByteArray)]) ?_ 1 _ rfl; (with_reducible repeat (first | refine blk_drewN ?_ _ | refine blk_drew ?_ | refine blk_alloc ?_ _)); refine blk_put (cs := #[.string (⟨#[]⟩ : ByteArray), .string (⟨#[]⟩ : ByteArray)]) ?_ 0 _ rfl; (with_reducible repeat (first | refine blk_drewN ?_ _ | refine blk_drew ?_ | refine blk_alloc ?_ _)); exact BK163.out⟩
          have n2_ : Aside0 (Below w.heap.size w ((w63.setCell ⟨gb163, 0, none⟩ (.string ((rd_T62 l0_1 x17_1).f0))).setCell ⟨gb163, 1, none⟩ (.string ((rd_T62 l0_1 x17_1).f1)))) := ⟨by repeat (first | (with_reducible first | exact HB.out | apply below_alloc | apply pw_below_drewN | apply below_drew1 | refine below_set ?_ GE160.out | refine below_set ?_ GE163.out) | exact HB.out)⟩
          (try clear BK160)
          (try clear BK163)
          (try clear HB)
          generalize ((w63.setCell ⟨gb163, 0, none⟩ (.string ((rd_T62 l0_1 x17_1).f0))).setCell ⟨gb163, 1, none⟩ (.string ((rd_T62 l0_1 x17_1).f1))) = w66 at n0_ n1_ n2_ ⊢
          have BK160 := n0_
          have BK163 := n1_
          have HB := n2_
          clear n0_ n1_ n2_
          have n0_ := Aside0.mk (blk_drew BK160.out)
          have n1_ := Aside0.mk (blk_drew BK163.out)
          have n2_ := Aside0.mk (below_drew1 HB.out)
          clear BK160
          clear BK163
          clear HB
          have BK160 := n0_
          have BK163 := n1_
          have HB := n2_
          clear n0_ n1_ n2_
          refine start_ (n := 28) (S := fun w' => w'.cell? ⟨gb163, 0, none⟩ = some (.string ((rd_T62 l0_1 x17_1).f0)) ∧ w'.cell? ⟨gb163, 1, none⟩ = some (.string ((rd_T62 l0_1 x17_1).f1))) (ds := []) (bm 28 0) (by kernel_rfl) rfl rfl ⟨(blk_cell BK163.out 0).trans rfl, (blk_cell BK163.out 1).trans rfl⟩ (fun hHeld => ?_); refine with_tabW http_printed.tab7 http_printed.bits7 (fun HT_ HW_ => ?_)
          generalize w66.drew = w67 at BK160 BK163 HB hHeld ⊢
          refine pv_ HT_ 0 (bm 28 1) ?_
          refine take_ (i := 1) (N := some 22) (v := ?_) (a' := ?_) (bm 28 3) rfl rfl (take_ofW HT_.out HW_.out (by kernel_rfl)) (fun _ _ _ h => h) (Or.inl ⟨by rfl, ?_⟩) hHeld ?_ ?_
          rotate_left
          ·rintro w' ⟨s0, s1⟩
           go_simp
           with_reducible rfl
          rotate_left
          ·simp only [Act.put, List.setIfInBounds_toArray, List.set_cons_zero, List.set_cons_succ, i64_w, i32_w]
           rfl
          refine one_ (i := 2) (N := some 23) (bm 28 7) rfl rfl (one_of HT_.out (by kernel_rfl)) (by decide) (fun K hK => ?_)
          refine goes_ Tryz.func41 (by kernel_rfl) rfl #[.string ((rd_T62 l0_1 x17_1).f0)] (by rfl) rfl rfl (by (try simp only [List.map_toArray, List.map_cons, List.map_nil]); first | done | rfl | (simp only [List.length_drop, List.length_take]; rfl)) ?_
          with_reducible refine (http_name.calls ((rd_T62 l0_1 x17_1).f0) true _ ?side1 A11.out).mono ?_
          (case side1 => exact LaidM.below HT.out (by repeat (first | (with_reducible first | exact HB.out | apply below_alloc | apply pw_below_drewN | apply below_drew1 | refine below_set ?_ GE160.out | refine below_set ?_ GE163.out) | exact HB.out)))
          rintro e w68 ⟨rfl, hb⟩
          refine ⟨_, rfl, ?_⟩
          have n0_ := Aside0.mk (blk_below (g := gb160) (o := .cells #[.string a0_0, .slice (some ad162) l0_1.length c0_1, .string a0_2] 50 (0, 0)) (by (with_reducible repeat (first | refine blk_drewN ?_ _ | refine blk_drew ?_ | refine blk_alloc ?_ _)); exact BK160.out) hb)
          have n1_ := Aside0.mk (blk_below (g := gb163) (o := .cells #[.string ((rd_T62 l0_1 x17_1).f0), .string ((rd_T62 l0_1 x17_1).f1)] 62 (0, 0)) (by (with_reducible repeat (first | refine blk_drewN ?_ _ | refine blk_drew ?_ | refine blk_alloc ?_ _)); exact BK163.out) hb)
          have n2_ := Aside0.mk (below_step (by repeat (first | (with_reducible first | exact HB.out | apply below_alloc | apply pw_below_drewN | apply below_drew1 | refine below_set ?_ GE160.out | refine below_set ?_ GE163.out) | exact HB.out)) hb)
          clear BK160
          clear BK163
          clear HB
          have BK160 := n0_
          have BK163 := n1_
          have HB := n2_
          clear n0_ n1_ n2_
          (try clear hb)
          (try clear hb2)
          (try clear hk)
          (try clear hi)
          refine hK.out _ _ ⟨(blk_cell BK163.out 0).trans rfl, (blk_cell BK163.out 1).trans rfl⟩ (fun hHeld => ?_)
          clear hK K
          refine norm_ (a' := ?_) ?_ ?_
          rotate_left
          ·show Act.put _ (some 23) _ = _
           simp only [Act.put, List.setIfInBounds_toArray, List.set_cons_zero, List.set_cons_succ, i64_w, i32_w]
           rfl
          refine pv_ HT_ 3 (bm 28 15) ?_
          refine pv_ HT_ 4 (bm 28 31) ?_
          refine pv_ HT_ 5 (bm 28 63) ?_
          refine take_ (i := 6) (N := some 27) (v := ?_) (a' := ?_) (bm 28 127) rfl rfl (take_ofW HT_.out HW_.out (by kernel_rfl)) (fun _ _ _ h => h) (Or.inl ⟨by rfl, ?_⟩) hHeld ?_ ?_
          rotate_left
          ·rintro w' ⟨s0, s1⟩
           go_simp
           with_reducible rfl
          rotate_left
          ·simp only [Act.put, List.setIfInBounds_toArray, List.set_cons_zero, List.set_cons_succ, i64_w, i32_w]
           rfl
          refine one_ (i := 7) (N := some 28) (bm 28 255) rfl rfl (one_of HT_.out (by kernel_rfl)) (by decide) (fun K hK => ?_)
          refine goes_ Tryz.func42 (by kernel_rfl) rfl #[.string ((rd_T62 l0_1 x17_1).f1)] (by rfl) rfl rfl (by (try simp only [List.map_toArray, List.map_cons, List.map_nil]); first | done | rfl | (simp only [List.length_drop, List.length_take]; rfl)) ?_
          with_reducible refine (http_content.calls k1 ((rd_T62 l0_1 x17_1).f1) false _ ?side1 A13.out).mono ?_
          (case side1 => exact LaidM.below HT.out (by repeat (first | (with_reducible first | exact HB.out | apply below_alloc | apply pw_below_drewN | apply below_drew1 | refine below_set ?_ GE160.out | refine below_set ?_ GE163.out) | exact HB.out)))
          rintro e w69 ⟨rfl, hb⟩
          refine ⟨_, rfl, ?_⟩
          have n0_ := Aside0.mk (blk_below (g := gb160) (o := .cells #[.string a0_0, .slice (some ad162) l0_1.length c0_1, .string a0_2] 50 (0, 0)) (by (with_reducible repeat (first | refine blk_drewN ?_ _ | refine blk_drew ?_ | refine blk_alloc ?_ _)); exact BK160.out) hb)
          have n1_ := Aside0.mk (blk_below (g := gb163) (o := .cells #[.string ((rd_T62 l0_1 x17_1).f0), .string ((rd_T62 l0_1 x17_1).f1)] 62 (0, 0)) (by (with_reducible repeat (first | refine blk_drewN ?_ _ | refine blk_drew ?_ | refine blk_alloc ?_ _)); exact BK163.out) hb)
          have n2_ := Aside0.mk (below_step (by repeat (first | (with_reducible first | exact HB.out | apply below_alloc | apply pw_below_drewN | apply below_drew1 | refine below_set ?_ GE160.out | refine below_set ?_ GE163.out) | exact HB.out)) hb)
          clear BK160
          clear BK163
          clear HB
          have BK160 := n0_
          have BK163 := n1_
          have HB := n2_
          clear n0_ n1_ n2_
          (try clear hb)
          (try clear hb2)
          (try clear hk)
          (try clear hi)
          refine hK.out _ _ ⟨(blk_cell BK163.out 0).trans rfl, (blk_cell BK163.out 1).trans rfl⟩ (fun hHeld => ?_)
          clear hK K
          refine norm_ (a' := ?_) ?_ ?_
          rotate_left
          ·show Act.put _ (some 28) _ = _
           simp only [Act.put, List.setIfInBounds_toArray, List.set_cons_zero, List.set_cons_succ, i64_w, i32_w]
           rfl
          refine pv_ HT_ 8 (bm 28 511) ?_
          refine pv_ HT_ 9 (bm 28 1023) ?_
          refine pv_ HT_ 10 (bm 28 2047) ?_
          refine pu_ HT_ 11 (bm 28 4095) ?_
          refine pu_ HT_ 12 (bm 28 8191) ?_
          refine pu_ HT_ 13 (bm 28 16383) ?_
          refine pu_ HT_ 14 (bm 28 32767) ?_
          refine pu_ HT_ 15 (bm 28 65535) ?_
          refine pu_ HT_ 16 (bm 28 131071) ?_
          refine pv_ HT_ 17 (bm 28 262143) ?_
          refine pv_ HT_ 18 (bm 28 524287) ?_
          refine pu_ HT_ 19 (bm 28 1048575) ?_
          refine pu_ HT_ 20 (bm 28 2097151) ?_
          refine pu_ HT_ 21 (bm 28 4194303) ?_
          refine pv_ HT_ 22 (bm 28 8388607) ?_
          refine pv_ HT_ 23 (bm 28 16777215) ?_
          refine pu_ HT_ 24 (bm 28 33554431) ?_
          refine pu_ HT_ 25 (bm 28 67108863) ?_
          refine pu_ HT_ 26 (bm 28 134217727) ?_
          refine pv_ HT_ 27 (bm 28 268435455) ?_
          refine done_ (done_of HT_.out (by kernel_rfl)) ?_
          try go_wp2
          go_ret2
          exact ⟨by first | rfl | (simp [errW_none, errW_some] <;> rfl) | (simp [*, errW_none, errW_some] <;> rfl), by repeat (first | (with_reducible first | exact HB.out | apply below_alloc | apply pw_below_drewN | apply below_drew1 | refine below_set ?_ GE160.out | refine below_set ?_ GE163.out) | exact HB.out)⟩
        ·replace c12 := Bool.eq_false_iff.mpr c12
         subst c12
         have H1 : (some ((⟨#[]⟩ : ByteArray), 80)) = some (r1, r2) := by rw [if_neg (show ¬ (false = true) by decide)] at H; exact H
         clear H
         have H := H1
         clear H1
         simp only [Option.some.injEq, Prod.mk.injEq] at H
         obtain ⟨rfl, rfl⟩ := H
         have p162 : 0 ≤ (x17_1 : Int) := of_decide_eq_true (by first | (with_reducible assumption) | assumption)
         have q162 : x17_1 < (l0_1.length : Int) := of_decide_eq_true (by first | (with_reducible assumption) | assumption)
         obtain ⟨ad162, e162, hx162_0, hx162_1⟩ := at_T62 HR0_1.out x17_1 p162 q162
         cases e162
         replace hx162_0 := (HB.out.cell (World.block_lt_of_cell? w _ hx162_0)).trans hx162_0
         replace hx162_1 := (HB.out.cell (World.block_lt_of_cell? w _ hx162_1)).trans hx162_1
         replace p162 := eq_true p162
         replace q162 := eq_true q162
         try go_wp2_with (first | ((with_reducible refine gate_dst (N := 6) rfl ?_); (try (refine gate_guard (by rfl) ?_; dsimp only)); refine box_event ?hg (N := 6) ?hd (cs := #[.string (⟨#[]⟩ : ByteArray), .string (⟨#[]⟩ : ByteArray)]) (t := 62) ?hr ?_; (case hd => rfl); (case hg => rfl); (case hr => first | (go_simp; done) | (go_simp; rfl)); intro gb163 hg w70 hbox hb; have n0_ := Aside0.mk (blk_below (g := gb160) (o := .cells #[.string a0_0, .slice (some ad162) l0_1.length c0_1, .string a0_2] 50 (0, 0)) (by (with_reducible repeat (first | refine blk_drewN ?_ _ | refine blk_drew ?_ | refine blk_alloc ?_ _)); exact BK160.out) hb); have n1_ := Aside0.mk (below_step (by repeat (first | (with_reducible first | exact HB.out | apply below_alloc | apply pw_below_drewN | apply below_drew1 | refine below_set ?_ GE160.out) | exact HB.out)) hb); have n2_ := Aside0.mk (hbox); have n3_ := Aside0.mk ((by rw [hg]; exact (below_size (by repeat (first | (with_reducible first | exact HB.out | apply below_alloc | apply pw_below_drewN | apply below_drew1 | refine below_set ?_ GE160.out) | exact HB.out))) : w.heap.size ≤ gb163)); have n4_ := Aside0.mk ((by rw [hg]; exact (below_size (by repeat (first | (with_reducible first | exact HB.out | apply below_alloc | apply pw_below_drewN | apply below_drew1 | refine below_set ?_ GE160.out) | exact HB.out))) : w.heap.size ≤ gb163)); have n5_ := Aside0.mk ((by rw [hg]; exact Nat.ne_of_lt (blk_lt (g := gb160) (o := .cells #[.string a0_0, .slice (some ad162) l0_1.length c0_1, .string a0_2] 50 (0, 0)) (by (with_reducible repeat (first | refine blk_drewN ?_ _ | refine blk_drew ?_ | refine blk_alloc ?_ _)); exact BK160.out)) : gb160 ≠ gb163)); have n6_ := Aside0.mk ((by rw [hg]; exact Nat.ne_of_gt (blk_lt (g := gb160) (o := .cells #[.string a0_0, .slice (some ad162) l0_1.length c0_1, .string a0_2] 50 (0, 0)) (by (with_reducible repeat (first | refine blk_drewN ?_ _ | refine blk_drew ?_ | refine blk_alloc ?_ _)); exact BK160.out)) : gb163 ≠ gb160)); clear BK160; clear HB; have BK160 := n0_; have HB := n1_; have BK163 := n2_; have GW163 := n3_; have GE163 := n4_; have NB160_163 := n5_; have NB163_160 := n6_; clear n0_ n1_ n2_ n3_ n4_ n5_ n6_; clear hb hbox hg; have hnb71 := NB163_160.out; have hnc71 := NB160_163.out; have hcz72_0 : w70.cell? ⟨gb163, 0, none⟩ = some (.string (⟨#[]⟩ : ByteArray)) := (blk_cell BK163.out 0).trans rfl; have hcz72_1 : w70.cell? ⟨gb163, 1, none⟩ = some (.string (⟨#[]⟩ : ByteArray)) := (blk_cell BK163.out 1).trans rfl; have hfz72_0 := blk_frozen BK163.out 0; have hfz72_1 := blk_frozen BK163.out 1))
         have n0_ : Aside0 (((w70.setCell ⟨gb163, 0, none⟩ (.string ((rd_T62 l0_1 x17_1).f0))).setCell ⟨gb163, 1, none⟩ (.string ((rd_T62 l0_1 x17_1).f1))).heap[gb160]? = some (.cells #[.string a0_0, .slice (some ad162) l0_1.length c0_1, .string a0_2] 50 (0, 0))) := ⟨by (with_reducible repeat (first | refine blk_drewN ?_ _ | refine blk_drew ?_ | refine blk_alloc ?_ _)); refine blk_far ?_ NB160_163.out _; (with_reducible repeat (first | refine blk_drewN ?_ _ | refine blk_drew ?_ | refine blk_alloc ?_ _)); refine blk_far ?_ NB160_163.out _; (with_reducible repeat (first | refine blk_drewN ?_ _ | refine blk_drew ?_ | refine blk_alloc ?_ _)); exact BK160.out⟩
         have n1_ : Aside0 (((w70.setCell ⟨gb163, 0, none⟩ (.string ((rd_T62 l0_1 x17_1).f0))).setCell ⟨gb163, 1, none⟩ (.string ((rd_T62 l0_1 x17_1).f1))).heap[gb163]? = some (.cells #[.string ((rd_T62 l0_1 x17_1).f0), .string ((rd_T62 l0_1 x17_1).f1)] 62 (0, 0))) := ⟨by (with_reducible repeat (first | refine blk_drewN ?_ _ | refine blk_drew ?_ | refine blk_alloc ?_ _)); refine blk_put (cs := #[.string ((rd_T62 l0_1 x17_1).f0), .string (⟨#[]⟩ : ByteArray)]) ?_ 1 _ rfl; (with_reducible repeat (first | refine blk_drewN ?_ _ | refine blk_drew ?_ | refine blk_alloc ?_ _)); refine blk_put (cs := #[.string (⟨#[]⟩ : ByteArray), .string (⟨#[]⟩ : ByteArray)]) ?_ 0 _ rfl; (with_reducible repeat (first | refine blk_drewN ?_ _ | refine blk_drew ?_ | refine blk_alloc ?_ _)); exact BK163.out⟩
         have n2_ : Aside0 (Below w.heap.size w ((w70.setCell ⟨gb163, 0, none⟩ (.string ((rd_T62 l0_1 x17_1).f0))).setCell ⟨gb163, 1, none⟩ (.string ((rd_T62 l0_1 x17_1).f1)))) := ⟨by repeat (first | (with_reducible first | exact HB.out | apply below_alloc | apply pw_below_drewN | apply below_drew1 | refine below_set ?_ GE160.out | refine below_set ?_ GE163.out) | exact HB.out)⟩
         (try clear BK160)
         (try clear BK163)
         (try clear HB)
         generalize ((w70.setCell ⟨gb163, 0, none⟩ (.string ((rd_T62 l0_1 x17_1).f0))).setCell ⟨gb163, 1, none⟩ (.string ((rd_T62 l0_1 x17_1).f1))) = w73 at n0_ n1_ n2_ ⊢
         have BK160 := n0_
         have BK163 := n1_
         have HB := n2_
         clear n0_ n1_ n2_
         have n0_ := Aside0.mk (blk_drew BK160.out)
         have n1_ := Aside0.mk (blk_drew BK163.out)
         have n2_ := Aside0.mk (below_drew1 HB.out)
         clear BK160
         clear BK163
         clear HB
         have BK160 := n0_
         have BK163 := n1_
         have HB := n2_
         clear n0_ n1_ n2_
         refine start_ (n := 28) (S := fun w' => w'.cell? ⟨gb163, 0, none⟩ = some (.string ((rd_T62 l0_1 x17_1).f0)) ∧ w'.cell? ⟨gb163, 1, none⟩ = some (.string ((rd_T62 l0_1 x17_1).f1))) (ds := []) (bm 28 0) (by kernel_rfl) rfl rfl ⟨(blk_cell BK163.out 0).trans rfl, (blk_cell BK163.out 1).trans rfl⟩ (fun hHeld => ?_); refine with_tabW http_printed.tab7 http_printed.bits7 (fun HT_ HW_ => ?_)
         generalize w73.drew = w74 at BK160 BK163 HB hHeld ⊢
         refine pv_ HT_ 0 (bm 28 1) ?_
         refine take_ (i := 1) (N := some 22) (v := ?_) (a' := ?_) (bm 28 3) rfl rfl (take_ofW HT_.out HW_.out (by kernel_rfl)) (fun _ _ _ h => h) (Or.inl ⟨by rfl, ?_⟩) hHeld ?_ ?_
         rotate_left
         ·rintro w' ⟨s0, s1⟩
          go_simp
          with_reducible rfl
         rotate_left
         ·simp only [Act.put, List.setIfInBounds_toArray, List.set_cons_zero, List.set_cons_succ, i64_w, i32_w]
          rfl
         refine one_ (i := 2) (N := some 23) (bm 28 7) rfl rfl (one_of HT_.out (by kernel_rfl)) (by decide) (fun K hK => ?_)
         refine goes_ Tryz.func41 (by kernel_rfl) rfl #[.string ((rd_T62 l0_1 x17_1).f0)] (by rfl) rfl rfl (by (try simp only [List.map_toArray, List.map_cons, List.map_nil]); first | done | rfl | (simp only [List.length_drop, List.length_take]; rfl)) ?_
         with_reducible refine (http_name.calls ((rd_T62 l0_1 x17_1).f0) false _ ?side1 A11.out).mono ?_
         (case side1 => exact LaidM.below HT.out (by repeat (first | (with_reducible first | exact HB.out | apply below_alloc | apply pw_below_drewN | apply below_drew1 | refine below_set ?_ GE160.out | refine below_set ?_ GE163.out) | exact HB.out)))
         rintro e w75 ⟨rfl, hb⟩
         refine ⟨_, rfl, ?_⟩
         have n0_ := Aside0.mk (blk_below (g := gb160) (o := .cells #[.string a0_0, .slice (some ad162) l0_1.length c0_1, .string a0_2] 50 (0, 0)) (by (with_reducible repeat (first | refine blk_drewN ?_ _ | refine blk_drew ?_ | refine blk_alloc ?_ _)); exact BK160.out) hb)
         have n1_ := Aside0.mk (blk_below (g := gb163) (o := .cells #[.string ((rd_T62 l0_1 x17_1).f0), .string ((rd_T62 l0_1 x17_1).f1)] 62 (0, 0)) (by (with_reducible repeat (first | refine blk_drewN ?_ _ | refine blk_drew ?_ | refine blk_alloc ?_ _)); exact BK163.out) hb)
         have n2_ := Aside0.mk (below_step (by repeat (first | (with_reducible first | exact HB.out | apply below_alloc | apply pw_below_drewN | apply below_drew1 | refine below_set ?_ GE160.out | refine below_set ?_ GE163.out) | exact HB.out)) hb)
         clear BK160
         clear BK163
         clear HB
         have BK160 := n0_
         have BK163 := n1_
         have HB := n2_
         clear n0_ n1_ n2_
         (try clear hb)
         (try clear hb2)
         (try clear hk)
         (try clear hi)
         refine hK.out _ _ ⟨(blk_cell BK163.out 0).trans rfl, (blk_cell BK163.out 1).trans rfl⟩ (fun hHeld => ?_)
         clear hK K
         refine norm_ (a' := ?_) ?_ ?_
         rotate_left
         ·show Act.put _ (some 23) _ = _
          simp only [Act.put, List.setIfInBounds_toArray, List.set_cons_zero, List.set_cons_succ, i64_w, i32_w]
          rfl
         refine pv_ HT_ 3 (bm 28 15) ?_
         refine pv_ HT_ 4 (bm 28 31) ?_
         refine pu_ HT_ 5 (bm 28 63) ?_
         refine pu_ HT_ 6 (bm 28 127) ?_
         refine pu_ HT_ 7 (bm 28 255) ?_
         refine pu_ HT_ 8 (bm 28 511) ?_
         refine pv_ HT_ 9 (bm 28 1023) ?_
         refine pv_ HT_ 10 (bm 28 2047) ?_
         refine pu_ HT_ 11 (bm 28 4095) ?_
         refine pu_ HT_ 12 (bm 28 8191) ?_
         refine pu_ HT_ 13 (bm 28 16383) ?_
         refine pu_ HT_ 14 (bm 28 32767) ?_
         refine pu_ HT_ 15 (bm 28 65535) ?_
         refine pu_ HT_ 16 (bm 28 131071) ?_
         refine pv_ HT_ 17 (bm 28 262143) ?_
         refine pv_ HT_ 18 (bm 28 524287) ?_
         refine pu_ HT_ 19 (bm 28 1048575) ?_
         refine pu_ HT_ 20 (bm 28 2097151) ?_
         refine pu_ HT_ 21 (bm 28 4194303) ?_
         refine pv_ HT_ 22 (bm 28 8388607) ?_
         refine pv_ HT_ 23 (bm 28 16777215) ?_
         refine pu_ HT_ 24 (bm 28 33554431) ?_
         refine pu_ HT_ 25 (bm 28 67108863) ?_
         refine pu_ HT_ 26 (bm 28 134217727) ?_
         refine pv_ HT_ 27 (bm 28 268435455) ?_
         refine done_ (done_of HT_.out (by kernel_rfl)) ?_
         try go_wp2
         go_ret2
         exact ⟨by first | rfl | (simp [errW_none, errW_some] <;> rfl) | (simp [*, errW_none, errW_some] <;> rfl), by repeat (first | (with_reducible first | exact HB.out | apply below_alloc | apply pw_below_drewN | apply below_drew1 | refine below_set ?_ GE160.out | refine below_set ?_ GE163.out) | exact HB.out)⟩
       ·rw [if_neg c10] at H
        exact absurd H (by simp)
      ·rw [if_neg c9] at H
       exact absurd H (by simp)
     ·rw [if_neg c8] at H
      have c8b0 : decide (x17_1 < (l0_1.length : Int)) = false := decide_eq_false c8
      clear c8
      replace H := Option.bind_eq_some_iff.mp H
      obtain ⟨t161, A760, H⟩ := H
      replace H : (if 16 + t161.size ≤ 9223372036854775807 then (if ((⟨#[67, 111, 110, 116, 101, 110, 116, 45, 76, 101, 110, 103, 116, 104, 58, 32]⟩ : ByteArray) ++ t161).size + 2 ≤ 9223372036854775807 then (if (((⟨#[67, 111, 110, 116, 101, 110, 116, 45, 76, 101, 110, 103, 116, 104, 58, 32]⟩ : ByteArray) ++ t161) ++ (⟨#[13, 10]⟩ : ByteArray)).size + 2 ≤ 9223372036854775807 then (if x4_1.size + ((((⟨#[67, 111, 110, 116, 101, 110, 116, 45, 76, 101, 110, 103, 116, 104, 58, 32]⟩ : ByteArray) ++ t161) ++ (⟨#[13, 10]⟩ : ByteArray)) ++ (⟨#[13, 10]⟩ : ByteArray)).size ≤ 9223372036854775807 then (if (a0_2.size : Int) > 65536 then (some ((⟨#[]⟩ : ByteArray), 11)) else (if ((x4_1 ++ ((((⟨#[67, 111, 110, 116, 101, 110, 116, 45, 76, 101, 110, 103, 116, 104, 58, 32]⟩ : ByteArray) ++ t161) ++ (⟨#[13, 10]⟩ : ByteArray)) ++ (⟨#[13, 10]⟩ : ByteArray))).size : Int) > 8192 then (some ((⟨#[]⟩ : ByteArray), 11)) else (if (x4_1 ++ ((((⟨#[67, 111, 110, 116, 101, 110, 116, 45, 76, 101, 110, 103, 116, 104, 58, 32]⟩ : ByteArray) ++ t161) ++ (⟨#[13, 10]⟩ : ByteArray)) ++ (⟨#[13, 10]⟩ : ByteArray))).size + a0_2.size ≤ 9223372036854775807 then (some ((x4_1 ++ ((((⟨#[67, 111, 110, 116, 101, 110, 116, 45, 76, 101, 110, 103, 116, 104, 58, 32]⟩ : ByteArray) ++ t161) ++ (⟨#[13, 10]⟩ : ByteArray)) ++ (⟨#[13, 10]⟩ : ByteArray))) ++ a0_2, 0)) else (none)))) else (none)) else (none)) else (none)) else (none)) = some (r1, r2) := H
      have A76 := Aside0.mk A760
      clear A760
      by_cases c77 : 16 + t161.size ≤ 9223372036854775807
      ·rw [if_pos c77] at H
       have c77b0 := eq_true c77
       have c77b1 : decide (16 + t161.size ≤ 9223372036854775807) = true := decide_eq_true c77
       try have c77b2 : (9223372036854775807 < 16 + t161.size) = False := eq_false (Nat.not_lt.2 c77)
       by_cases c78 : ((⟨#[67, 111, 110, 116, 101, 110, 116, 45, 76, 101, 110, 103, 116, 104, 58, 32]⟩ : ByteArray) ++ t161).size + 2 ≤ 9223372036854775807
       ·rw [if_pos c78] at H
        have c78e := c78
        (try simp only [ByteArray.size_append, gt_iff_lt, ge_iff_le, show (⟨#[67, 111, 110, 116, 101, 110, 116, 45, 76, 101, 110, 103, 116, 104, 58, 32]⟩ : ByteArray).size = 16 from rfl] at c78e)
        (try simp only [Int.natCast_add, Int.cast_ofNat_Int] at c78e)
        (try (have c78e2 := decide_eq_true c78e))
        (try replace c78e := eq_true c78e)
        have c78b0 := eq_true c78
        have c78b1 : decide (((⟨#[67, 111, 110, 116, 101, 110, 116, 45, 76, 101, 110, 103, 116, 104, 58, 32]⟩ : ByteArray) ++ t161).size + 2 ≤ 9223372036854775807) = true := decide_eq_true c78
        try have c78b2 : (9223372036854775807 < ((⟨#[67, 111, 110, 116, 101, 110, 116, 45, 76, 101, 110, 103, 116, 104, 58, 32]⟩ : ByteArray) ++ t161).size + 2) = False := eq_false (Nat.not_lt.2 c78)
        have c78b8 : (9223372036854775807 < 16 + t161.size + 2) = False := by have h_ := c78; simp only [ByteArray.size_append] at h_; exact eq_false (Nat.not_lt.2 h_)
        by_cases c79 : (((⟨#[67, 111, 110, 116, 101, 110, 116, 45, 76, 101, 110, 103, 116, 104, 58, 32]⟩ : ByteArray) ++ t161) ++ (⟨#[13, 10]⟩ : ByteArray)).size + 2 ≤ 9223372036854775807
        ·rw [if_pos c79] at H
         have c79e := c79
         (try simp only [ByteArray.size_append, gt_iff_lt, ge_iff_le, show (⟨#[13, 10]⟩ : ByteArray).size = 2 from rfl, show (⟨#[67, 111, 110, 116, 101, 110, 116, 45, 76, 101, 110, 103, 116, 104, 58, 32]⟩ : ByteArray).size = 16 from rfl] at c79e)
         (try simp only [Int.natCast_add, Int.cast_ofNat_Int] at c79e)
         (try (have c79e2 := decide_eq_true c79e))
         (try replace c79e := eq_true c79e)
         have c79b0 := eq_true c79
         have c79b1 : decide ((((⟨#[67, 111, 110, 116, 101, 110, 116, 45, 76, 101, 110, 103, 116, 104, 58, 32]⟩ : ByteArray) ++ t161) ++ (⟨#[13, 10]⟩ : ByteArray)).size + 2 ≤ 9223372036854775807) = true := decide_eq_true c79
         try have c79b2 : (9223372036854775807 < (((⟨#[67, 111, 110, 116, 101, 110, 116, 45, 76, 101, 110, 103, 116, 104, 58, 32]⟩ : ByteArray) ++ t161) ++ (⟨#[13, 10]⟩ : ByteArray)).size + 2) = False := eq_false (Nat.not_lt.2 c79)
         have c79b8 : (9223372036854775807 < 16 + t161.size + 2 + 2) = False := by have h_ := c79; simp only [ByteArray.size_append] at h_; exact eq_false (Nat.not_lt.2 h_)
         by_cases c80 : x4_1.size + ((((⟨#[67, 111, 110, 116, 101, 110, 116, 45, 76, 101, 110, 103, 116, 104, 58, 32]⟩ : ByteArray) ++ t161) ++ (⟨#[13, 10]⟩ : ByteArray)) ++ (⟨#[13, 10]⟩ : ByteArray)).size ≤ 9223372036854775807
         ·rw [if_pos c80] at H
          have c80e := c80
          (try simp only [ByteArray.size_append, gt_iff_lt, ge_iff_le, show (⟨#[13, 10]⟩ : ByteArray).size = 2 from rfl, show (⟨#[67, 111, 110, 116, 101, 110, 116, 45, 76, 101, 110, 103, 116, 104, 58, 32]⟩ : ByteArray).size = 16 from rfl] at c80e)
          (try simp only [Int.natCast_add, Int.cast_ofNat_Int] at c80e)
          (try (have c80e2 := decide_eq_true c80e))
          (try replace c80e := eq_true c80e)
          have c80b0 := eq_true c80
          have c80b1 : decide (x4_1.size + ((((⟨#[67, 111, 110, 116, 101, 110, 116, 45, 76, 101, 110, 103, 116, 104, 58, 32]⟩ : ByteArray) ++ t161) ++ (⟨#[13, 10]⟩ : ByteArray)) ++ (⟨#[13, 10]⟩ : ByteArray)).size ≤ 9223372036854775807) = true := decide_eq_true c80
          try have c80b2 : (9223372036854775807 < x4_1.size + ((((⟨#[67, 111, 110, 116, 101, 110, 116, 45, 76, 101, 110, 103, 116, 104, 58, 32]⟩ : ByteArray) ++ t161) ++ (⟨#[13, 10]⟩ : ByteArray)) ++ (⟨#[13, 10]⟩ : ByteArray)).size) = False := eq_false (Nat.not_lt.2 c80)
          have c80b8 : (9223372036854775807 < x4_1.size + (16 + t161.size + 2 + 2)) = False := by have h_ := c80; simp only [ByteArray.size_append] at h_; exact eq_false (Nat.not_lt.2 h_)
          by_cases c81 : (a0_2.size : Int) > 65536
          ·rw [if_pos c81] at H
           have c81b0 : decide (65536 < (a0_2.size : Int)) = true := decide_eq_true c81
           have c81b1 : decide (65536 < a0_2.size) = true := decide_eq_true (by omega)
           clear c81
           simp only [Option.some.injEq, Prod.mk.injEq] at H
           obtain ⟨rfl, rfl⟩ := H
           have hcz82_0 : wr.cell? ⟨gb160, 0, none⟩ = some (.string a0_0) := (blk_cell BK160.out 0).trans rfl
           have hcz82_1 : wr.cell? ⟨gb160, 1, none⟩ = some (.slice A0_1 l0_1.length c0_1) := (blk_cell BK160.out 1).trans rfl
           have hcz82_2 : wr.cell? ⟨gb160, 2, none⟩ = some (.string a0_2) := (blk_cell BK160.out 2).trans rfl
           have hfz82_0 := blk_frozen BK160.out 0
           have hfz82_1 := blk_frozen BK160.out 1
           have hfz82_2 := blk_frozen BK160.out 2
           go_wp2_with (first | ((with_reducible refine gate_callee (f := 34) rfl ?_); refine goesL_ (some 64) rfl rfl Tryz.func34 (by kernel_rfl) rfl #[.int .u64 (IntKind.u64.wrap ((a0_2.size : Int)))] rfl (by (try simp only [List.map_toArray, List.map_cons, List.map_nil]); first | done | rfl | (simp only [List.length_drop, List.length_take]; rfl)) ?_; (with_reducible refine (char_Decimal.calls (IntKind.u64.wrap ((a0_2.size : Int))) t161 _ ?side1 A76.out).mono ?_); (case side1 => exact LaidM.below HT.out (by repeat (first | (with_reducible first | exact HB.out | apply below_alloc | apply pw_below_drewN | apply below_drew1 | refine below_set ?_ GE160.out) | exact HB.out))); rintro e w83 ⟨rfl, hb⟩; refine ⟨_, rfl, ?_⟩; have n0_ := Aside0.mk (blk_below (g := gb160) (o := .cells #[.string a0_0, .slice A0_1 l0_1.length c0_1, .string a0_2] 50 (0, 0)) (by (with_reducible repeat (first | refine blk_drewN ?_ _ | refine blk_drew ?_ | refine blk_alloc ?_ _)); exact BK160.out) hb); have n1_ := Aside0.mk (below_step (by repeat (first | (with_reducible first | exact HB.out | apply below_alloc | apply pw_below_drewN | apply below_drew1 | refine below_set ?_ GE160.out) | exact HB.out)) hb); clear BK160; clear HB; have BK160 := n0_; have HB := n1_; clear n0_ n1_; (try clear hb); (try clear hb2); (try clear hk); (try clear hi); have hcz84_0 : w83.cell? ⟨gb160, 0, none⟩ = some (.string a0_0) := (blk_cell BK160.out 0).trans rfl; have hcz84_1 : w83.cell? ⟨gb160, 1, none⟩ = some (.slice A0_1 l0_1.length c0_1) := (blk_cell BK160.out 1).trans rfl; have hcz84_2 : w83.cell? ⟨gb160, 2, none⟩ = some (.string a0_2) := (blk_cell BK160.out 2).trans rfl; have hfz84_0 := blk_frozen BK160.out 0; have hfz84_1 := blk_frozen BK160.out 1; have hfz84_2 := blk_frozen BK160.out 2))
           go_ret2
           exact ⟨by first | rfl | (simp [errW_none, errW_some] <;> rfl) | (simp [*, errW_none, errW_some] <;> rfl), by repeat (first | (with_reducible first | exact HB.out | apply below_alloc | apply pw_below_drewN | apply below_drew1 | refine below_set ?_ GE160.out) | exact HB.out)⟩
          ·rw [if_neg c81] at H
           have c81b0 : decide (65536 < (a0_2.size : Int)) = false := decide_eq_false c81
           have c81b1 : decide (65536 < a0_2.size) = false := decide_eq_false (by omega)
           clear c81
           by_cases c85 : ((x4_1 ++ ((((⟨#[67, 111, 110, 116, 101, 110, 116, 45, 76, 101, 110, 103, 116, 104, 58, 32]⟩ : ByteArray) ++ t161) ++ (⟨#[13, 10]⟩ : ByteArray)) ++ (⟨#[13, 10]⟩ : ByteArray))).size : Int) > 8192
           ·rw [if_pos c85] at H
            have c85e := c85
            (try simp only [ByteArray.size_append, gt_iff_lt, ge_iff_le, show (⟨#[13, 10]⟩ : ByteArray).size = 2 from rfl, show (⟨#[67, 111, 110, 116, 101, 110, 116, 45, 76, 101, 110, 103, 116, 104, 58, 32]⟩ : ByteArray).size = 16 from rfl] at c85e)
            (try simp only [Int.natCast_add, Int.cast_ofNat_Int] at c85e)
            (try (have c85e2 := decide_eq_true c85e))
            (try replace c85e := eq_true c85e)
            have c85b0 : decide (8192 < ((x4_1 ++ ((((⟨#[67, 111, 110, 116, 101, 110, 116, 45, 76, 101, 110, 103, 116, 104, 58, 32]⟩ : ByteArray) ++ t161) ++ (⟨#[13, 10]⟩ : ByteArray)) ++ (⟨#[13, 10]⟩ : ByteArray))).size : Int)) = true := decide_eq_true c85
            have c85b8 : decide ((8192 : Int) < (x4_1.size : Int) + (16 + (t161.size : Int) + 2 + 2)) = true := by have h_ := c85; simp only [ByteArray.size_append] at h_; change ((x4_1.size + (16 + t161.size + 2 + 2) : Nat) : Int) > 8192 at h_; exact decide_eq_true (by omega)
            have c85b1 : decide (8192 < (x4_1 ++ ((((⟨#[67, 111, 110, 116, 101, 110, 116, 45, 76, 101, 110, 103, 116, 104, 58, 32]⟩ : ByteArray) ++ t161) ++ (⟨#[13, 10]⟩ : ByteArray)) ++ (⟨#[13, 10]⟩ : ByteArray))).size) = true := decide_eq_true (by omega)
            clear c85
            simp only [Option.some.injEq, Prod.mk.injEq] at H
            obtain ⟨rfl, rfl⟩ := H
            have hcz86_0 : wr.cell? ⟨gb160, 0, none⟩ = some (.string a0_0) := (blk_cell BK160.out 0).trans rfl
            have hcz86_1 : wr.cell? ⟨gb160, 1, none⟩ = some (.slice A0_1 l0_1.length c0_1) := (blk_cell BK160.out 1).trans rfl
            have hcz86_2 : wr.cell? ⟨gb160, 2, none⟩ = some (.string a0_2) := (blk_cell BK160.out 2).trans rfl
            have hfz86_0 := blk_frozen BK160.out 0
            have hfz86_1 := blk_frozen BK160.out 1
            have hfz86_2 := blk_frozen BK160.out 2
            go_wp2_with (first | ((with_reducible refine gate_callee (f := 34) rfl ?_); refine goesL_ (some 64) rfl rfl Tryz.func34 (by kernel_rfl) rfl #[.int .u64 (IntKind.u64.wrap ((a0_2.size : Int)))] rfl (by (try simp only [List.map_toArray, List.map_cons, List.map_nil]); first | done | rfl | (simp only [List.length_drop, List.length_take]; rfl)) ?_; (with_reducible refine (char_Decimal.calls (IntKind.u64.wrap ((a0_2.size : Int))) t161 _ ?side1 A76.out).mono ?_); (case side1 => exact LaidM.below HT.out (by repeat (first | (with_reducible first | exact HB.out | apply below_alloc | apply pw_below_drewN | apply below_drew1 | refine below_set ?_ GE160.out) | exact HB.out))); rintro e w87 ⟨rfl, hb⟩; refine ⟨_, rfl, ?_⟩; have n0_ := Aside0.mk (blk_below (g := gb160) (o := .cells #[.string a0_0, .slice A0_1 l0_1.length c0_1, .string a0_2] 50 (0, 0)) (by (with_reducible repeat (first | refine blk_drewN ?_ _ | refine blk_drew ?_ | refine blk_alloc ?_ _)); exact BK160.out) hb); have n1_ := Aside0.mk (below_step (by repeat (first | (with_reducible first | exact HB.out | apply below_alloc | apply pw_below_drewN | apply below_drew1 | refine below_set ?_ GE160.out) | exact HB.out)) hb); clear BK160; clear HB; have BK160 := n0_; have HB := n1_; clear n0_ n1_; (try clear hb); (try clear hb2); (try clear hk); (try clear hi); have hcz88_0 : w87.cell? ⟨gb160, 0, none⟩ = some (.string a0_0) := (blk_cell BK160.out 0).trans rfl; have hcz88_1 : w87.cell? ⟨gb160, 1, none⟩ = some (.slice A0_1 l0_1.length c0_1) := (blk_cell BK160.out 1).trans rfl; have hcz88_2 : w87.cell? ⟨gb160, 2, none⟩ = some (.string a0_2) := (blk_cell BK160.out 2).trans rfl; have hfz88_0 := blk_frozen BK160.out 0; have hfz88_1 := blk_frozen BK160.out 1; have hfz88_2 := blk_frozen BK160.out 2))
            go_ret2
            exact ⟨by first | rfl | (simp [errW_none, errW_some] <;> rfl) | (simp [*, errW_none, errW_some] <;> rfl), by repeat (first | (with_reducible first | exact HB.out | apply below_alloc | apply pw_below_drewN | apply below_drew1 | refine below_set ?_ GE160.out) | exact HB.out)⟩
           ·rw [if_neg c85] at H
            have c85e := c85
            (try simp only [ByteArray.size_append, gt_iff_lt, ge_iff_le, show (⟨#[13, 10]⟩ : ByteArray).size = 2 from rfl, show (⟨#[67, 111, 110, 116, 101, 110, 116, 45, 76, 101, 110, 103, 116, 104, 58, 32]⟩ : ByteArray).size = 16 from rfl] at c85e)
            (try simp only [Int.natCast_add, Int.cast_ofNat_Int] at c85e)
            (try (have c85e2 := decide_eq_false c85e))
            (try replace c85e := eq_false c85e)
            have c85b0 : decide (8192 < ((x4_1 ++ ((((⟨#[67, 111, 110, 116, 101, 110, 116, 45, 76, 101, 110, 103, 116, 104, 58, 32]⟩ : ByteArray) ++ t161) ++ (⟨#[13, 10]⟩ : ByteArray)) ++ (⟨#[13, 10]⟩ : ByteArray))).size : Int)) = false := decide_eq_false c85
            have c85b8 : decide ((8192 : Int) < (x4_1.size : Int) + (16 + (t161.size : Int) + 2 + 2)) = false := by have h_ := c85; simp only [ByteArray.size_append] at h_; change ¬ (((x4_1.size + (16 + t161.size + 2 + 2) : Nat) : Int) > 8192) at h_; exact decide_eq_false (by omega)
            have c85b1 : decide (8192 < (x4_1 ++ ((((⟨#[67, 111, 110, 116, 101, 110, 116, 45, 76, 101, 110, 103, 116, 104, 58, 32]⟩ : ByteArray) ++ t161) ++ (⟨#[13, 10]⟩ : ByteArray)) ++ (⟨#[13, 10]⟩ : ByteArray))).size) = false := decide_eq_false (by omega)
            clear c85
            by_cases c89 : (x4_1 ++ ((((⟨#[67, 111, 110, 116, 101, 110, 116, 45, 76, 101, 110, 103, 116, 104, 58, 32]⟩ : ByteArray) ++ t161) ++ (⟨#[13, 10]⟩ : ByteArray)) ++ (⟨#[13, 10]⟩ : ByteArray))).size + a0_2.size ≤ 9223372036854775807
            ·rw [if_pos c89] at H
             have c89e := c89
             (try simp only [ByteArray.size_append, gt_iff_lt, ge_iff_le, show (⟨#[13, 10]⟩ : ByteArray).size = 2 from rfl, show (⟨#[67, 111, 110, 116, 101, 110, 116, 45, 76, 101, 110, 103, 116, 104, 58, 32]⟩ : ByteArray).size = 16 from rfl] at c89e)
             (try simp only [Int.natCast_add, Int.cast_ofNat_Int] at c89e)
             (try (have c89e2 := decide_eq_true c89e))
             (try replace c89e := eq_true c89e)
             have c89b0 := eq_true c89
             have c89b1 : decide ((x4_1 ++ ((((⟨#[67, 111, 110, 116, 101, 110, 116, 45, 76, 101, 110, 103, 116, 104, 58, 32]⟩ : ByteArray) ++ t161) ++ (⟨#[13, 10]⟩ : ByteArray)) ++ (⟨#[13, 10]⟩ : ByteArray))).size + a0_2.size ≤ 9223372036854775807) = true := decide_eq_true c89
             try have c89b2 : (9223372036854775807 < (x4_1 ++ ((((⟨#[67, 111, 110, 116, 101, 110, 116, 45, 76, 101, 110, 103, 116, 104, 58, 32]⟩ : ByteArray) ++ t161) ++ (⟨#[13, 10]⟩ : ByteArray)) ++ (⟨#[13, 10]⟩ : ByteArray))).size + a0_2.size) = False := eq_false (Nat.not_lt.2 c89)
             have c89b8 : (9223372036854775807 < x4_1.size + (16 + t161.size + 2 + 2) + a0_2.size) = False := by have h_ := c89; simp only [ByteArray.size_append] at h_; exact eq_false (Nat.not_lt.2 h_)
             simp only [Option.some.injEq, Prod.mk.injEq] at H
             obtain ⟨rfl, rfl⟩ := H
             have hcz90_0 : wr.cell? ⟨gb160, 0, none⟩ = some (.string a0_0) := (blk_cell BK160.out 0).trans rfl
             have hcz90_1 : wr.cell? ⟨gb160, 1, none⟩ = some (.slice A0_1 l0_1.length c0_1) := (blk_cell BK160.out 1).trans rfl
             have hcz90_2 : wr.cell? ⟨gb160, 2, none⟩ = some (.string a0_2) := (blk_cell BK160.out 2).trans rfl
             have hfz90_0 := blk_frozen BK160.out 0
             have hfz90_1 := blk_frozen BK160.out 1
             have hfz90_2 := blk_frozen BK160.out 2
             have hw_ : IntKind.u64.wrap ((a0_2.size : Int)) = (a0_2.size : Int) := by have h_ := of_decide_eq_false c81b1; rw [IntKind.wrap_u64]; omega
             have hn_ : char_Decimal.f (a0_2.size : Int) = some t161 := by rw [← hw_]; exact A76.out
             have HN_ := Aside0.mk hn_
             clear hw_ hn_
             go_wp2_with (first | ((with_reducible refine gate_callee (f := 34) rfl ?_); refine goesL_ (some 64) rfl rfl Tryz.func34 (by kernel_rfl) rfl #[.int .u64 ((a0_2.size : Int))] rfl (by (try simp only [List.map_toArray, List.map_cons, List.map_nil]); first | done | rfl | (simp only [List.length_drop, List.length_take]; rfl)) ?_; (with_reducible refine (char_Decimal.calls (a0_2.size : Int) t161 _ ?side1 HN_.out).mono ?_); (case side1 => exact LaidM.below HT.out (by repeat (first | (with_reducible first | exact HB.out | apply below_alloc | apply pw_below_drewN | apply below_drew1 | refine below_set ?_ GE160.out) | exact HB.out))); rintro e w91 ⟨rfl, hb⟩; refine ⟨_, rfl, ?_⟩; have n0_ := Aside0.mk (blk_below (g := gb160) (o := .cells #[.string a0_0, .slice A0_1 l0_1.length c0_1, .string a0_2] 50 (0, 0)) (by (with_reducible repeat (first | refine blk_drewN ?_ _ | refine blk_drew ?_ | refine blk_alloc ?_ _)); exact BK160.out) hb); have n1_ := Aside0.mk (below_step (by repeat (first | (with_reducible first | exact HB.out | apply below_alloc | apply pw_below_drewN | apply below_drew1 | refine below_set ?_ GE160.out) | exact HB.out)) hb); clear BK160; clear HB; have BK160 := n0_; have HB := n1_; clear n0_ n1_; (try clear hb); (try clear hb2); (try clear hk); (try clear hi); have hcz92_0 : w91.cell? ⟨gb160, 0, none⟩ = some (.string a0_0) := (blk_cell BK160.out 0).trans rfl; have hcz92_1 : w91.cell? ⟨gb160, 1, none⟩ = some (.slice A0_1 l0_1.length c0_1) := (blk_cell BK160.out 1).trans rfl; have hcz92_2 : w91.cell? ⟨gb160, 2, none⟩ = some (.string a0_2) := (blk_cell BK160.out 2).trans rfl; have hfz92_0 := blk_frozen BK160.out 0; have hfz92_1 := blk_frozen BK160.out 1; have hfz92_2 := blk_frozen BK160.out 2))
             go_ret2
             exact ⟨by first | rfl | (simp [errW_none, errW_some] <;> rfl) | (simp [*, errW_none, errW_some] <;> rfl), by repeat (first | (with_reducible first | exact HB.out | apply below_alloc | apply pw_below_drewN | apply below_drew1 | refine below_set ?_ GE160.out) | exact HB.out)⟩
            ·rw [if_neg c89] at H
             have c89e := c89
             (try simp only [ByteArray.size_append, gt_iff_lt, ge_iff_le, show (⟨#[13, 10]⟩ : ByteArray).size = 2 from rfl, show (⟨#[67, 111, 110, 116, 101, 110, 116, 45, 76, 101, 110, 103, 116, 104, 58, 32]⟩ : ByteArray).size = 16 from rfl] at c89e)
             (try simp only [Int.natCast_add, Int.cast_ofNat_Int] at c89e)
             (try (have c89e2 := decide_eq_false c89e))
             (try replace c89e := eq_false c89e)
             exact absurd H (by simp)
         ·rw [if_neg c80] at H
          have c80e := c80
          (try simp only [ByteArray.size_append, gt_iff_lt, ge_iff_le, show (⟨#[13, 10]⟩ : ByteArray).size = 2 from rfl, show (⟨#[67, 111, 110, 116, 101, 110, 116, 45, 76, 101, 110, 103, 116, 104, 58, 32]⟩ : ByteArray).size = 16 from rfl] at c80e)
          (try simp only [Int.natCast_add, Int.cast_ofNat_Int] at c80e)
          (try (have c80e2 := decide_eq_false c80e))
          (try replace c80e := eq_false c80e)
          exact absurd H (by simp)
        ·rw [if_neg c79] at H
         have c79e := c79
         (try simp only [ByteArray.size_append, gt_iff_lt, ge_iff_le, show (⟨#[13, 10]⟩ : ByteArray).size = 2 from rfl, show (⟨#[67, 111, 110, 116, 101, 110, 116, 45, 76, 101, 110, 103, 116, 104, 58, 32]⟩ : ByteArray).size = 16 from rfl] at c79e)
         (try simp only [Int.natCast_add, Int.cast_ofNat_Int] at c79e)
         (try (have c79e2 := decide_eq_false c79e))
         (try replace c79e := eq_false c79e)
         exact absurd H (by simp)
       ·rw [if_neg c78] at H
        have c78e := c78
        (try simp only [ByteArray.size_append, gt_iff_lt, ge_iff_le, show (⟨#[67, 111, 110, 116, 101, 110, 116, 45, 76, 101, 110, 103, 116, 104, 58, 32]⟩ : ByteArray).size = 16 from rfl] at c78e)
        (try simp only [Int.natCast_add, Int.cast_ofNat_Int] at c78e)
        (try (have c78e2 := decide_eq_false c78e))
        (try replace c78e := eq_false c78e)
        exact absurd H (by simp)
      ·rw [if_neg c77] at H
       exact absurd H (by simp)
  ·rw [if_neg c5] at H
   exact absurd H (by simp)

end Go.Proofs.YtipfekjmcddelaaGreatDoor.XHttpReads
