-- written by wip/xprint.py: the kit's print with functions walked by hand
import Derived.Test.YtipfekjmcddelaaGreatDoorPk
import Derived.Test.YtipfekjmcddelaaGreatDoorXHttpWritesx0
import Derived.Test.YtipfekjmcddelaaGreatDoorXHttpWritesx2
import Derived.Test.YtipfekjmcddelaaGreatDoorXHttpWritesx3
namespace Go.Proofs.YtipfekjmcddelaaGreatDoor.XHttpWrites
open Go.RowKit Go.Proofs.YtipfekjmcddelaaGreatDoorW.zgo Go.Proofs.YtipfekjmcddelaaGreatDoorW.zgp Go.Proofs.YtipfekjmcddelaaGreatDoorW.zgq
attribute [local go_sem] zdk zdi zdx zdw zdc zdb zdj zdh   -- for this text's walks alone
set_option linter.unusedVariables false
set_option linter.unusedSimpArgs false
def zaz.l0 : Nat → ByteArray → List (S62) → Int → Int → ByteArray → List (S62) → ByteArray → Option (ByteArray × Int)
 | 0, _, _, _, _, _, _, _ => none
 | k + 1, x4, x15, x16, x17, x161000, x161001, x161002 => if x17 < x16 then (if 0 ≤ x17 then (if x17 < (x15.length : Int) then ((zct.f ((zak x15 x17).f0)).bind fun t164 => (if t164 = true then ((zbt.f k ((zak x15 x17).f1)).bind fun t165 => (if t165 = true then ((zcj.f ((zak x15 x17).f1) (⟨#[32, 9]⟩ : ByteArray)).bind fun t166 => (if t166.toList = ((zak x15 x17).f1).toList then ((zce.f ((zak x15 x17).f0) (⟨#[67, 111, 110, 116, 101, 110, 116, 45, 76, 101, 110, 103, 116, 104]⟩ : ByteArray)).bind fun t167 => (if t167 = true then (some ((⟨#[]⟩ : ByteArray), 80)) else ((zce.f ((zak x15 x17).f0) (⟨#[84, 114, 97, 110, 115, 102, 101, 114, 45, 69, 110, 99, 111, 100, 105, 110, 103]⟩ : ByteArray)).bind fun t168 => (if t168 = true then (some ((⟨#[]⟩ : ByteArray), 80)) else (if ((zak x15 x17).f0).size + 2 ≤ 9223372036854775807 then (if (((zak x15 x17).f0) ++ (⟨#[58, 32]⟩ : ByteArray)).size + ((zak x15 x17).f1).size ≤ 9223372036854775807 then (if ((((zak x15 x17).f0) ++ (⟨#[58, 32]⟩ : ByteArray)) ++ ((zak x15 x17).f1)).size + 2 ≤ 9223372036854775807 then (if x4.size + (((((zak x15 x17).f0) ++ (⟨#[58, 32]⟩ : ByteArray)) ++ ((zak x15 x17).f1)) ++ (⟨#[13, 10]⟩ : ByteArray)).size ≤ 9223372036854775807 then (zaz.l0 k (x4 ++ (((((zak x15 x17).f0) ++ (⟨#[58, 32]⟩ : ByteArray)) ++ ((zak x15 x17).f1)) ++ (⟨#[13, 10]⟩ : ByteArray))) x15 x16 (wrap64 (x17 + 1)) x161000 x161001 x161002) else (none)) else (none)) else (none)) else (none)))))) else (some ((⟨#[]⟩ : ByteArray), 80)))) else (some ((⟨#[]⟩ : ByteArray), 80)))) else (some ((⟨#[]⟩ : ByteArray), 80)))) else (none)) else (none)) else ((zcm.f (IntKind.u64.wrap ((x161002.size : Int)))).bind fun t161 => (if 16 + t161.size ≤ 9223372036854775807 then (if ((⟨#[67, 111, 110, 116, 101, 110, 116, 45, 76, 101, 110, 103, 116, 104, 58, 32]⟩ : ByteArray) ++ t161).size + 2 ≤ 9223372036854775807 then (if (((⟨#[67, 111, 110, 116, 101, 110, 116, 45, 76, 101, 110, 103, 116, 104, 58, 32]⟩ : ByteArray) ++ t161) ++ (⟨#[13, 10]⟩ : ByteArray)).size + 2 ≤ 9223372036854775807 then (if x4.size + ((((⟨#[67, 111, 110, 116, 101, 110, 116, 45, 76, 101, 110, 103, 116, 104, 58, 32]⟩ : ByteArray) ++ t161) ++ (⟨#[13, 10]⟩ : ByteArray)) ++ (⟨#[13, 10]⟩ : ByteArray)).size ≤ 9223372036854775807 then (if (x161002.size : Int) > 65536 then (some ((⟨#[]⟩ : ByteArray), 11)) else (if ((x4 ++ ((((⟨#[67, 111, 110, 116, 101, 110, 116, 45, 76, 101, 110, 103, 116, 104, 58, 32]⟩ : ByteArray) ++ t161) ++ (⟨#[13, 10]⟩ : ByteArray)) ++ (⟨#[13, 10]⟩ : ByteArray))).size : Int) > 8192 then (some ((⟨#[]⟩ : ByteArray), 11)) else (if (x4 ++ ((((⟨#[67, 111, 110, 116, 101, 110, 116, 45, 76, 101, 110, 103, 116, 104, 58, 32]⟩ : ByteArray) ++ t161) ++ (⟨#[13, 10]⟩ : ByteArray)) ++ (⟨#[13, 10]⟩ : ByteArray))).size + x161002.size ≤ 9223372036854775807 then (some ((x4 ++ ((((⟨#[67, 111, 110, 116, 101, 110, 116, 45, 76, 101, 110, 103, 116, 104, 58, 32]⟩ : ByteArray) ++ t161) ++ (⟨#[13, 10]⟩ : ByteArray)) ++ (⟨#[13, 10]⟩ : ByteArray))) ++ x161002, 0)) else (none)))) else (none)) else (none)) else (none)) else (none)))
def zaz.f (k : Nat) (a0_0 : ByteArray) (l0_1 : List (S62)) (a0_2 : ByteArray) : Option (ByteArray × Int) := if (l0_1.length : Int) ≥ 32 then (some ((⟨#[]⟩ : ByteArray), 80)) else (if a0_0.size + 2 ≤ 9223372036854775807 then (zaz.l0 k (a0_0 ++ (⟨#[13, 10]⟩ : ByteArray)) l0_1 (l0_1.length : Int) 0 a0_0 l0_1 a0_2) else (none))
theorem zaz.zdz : ∀ k, (∀ y0 y1 y2 y3 y4 y5 y6, LeO (zaz.l0 k y0 y1 y2 y3 y4 y5 y6) (zaz.l0 (k + 1) y0 y1 y2 y3 y4 y5 y6))
 | 0 => fun _ _ _ _ _ _ _ r h => by simp [zaz.l0] at h
 | k + 1 => by
  have ih0 := zaz.zdz k
  ·intro y0 y1 y2 y3 y4 y5 y6
   unfold zaz.l0
   repeat' first
   | (with_reducible exact ih0 _ _ _ _ _ _ _)
   | (with_reducible exact zbt.mono _ _)
   | (with_reducible exact LeO.refl _)
   | (with_reducible exact LeO.none _)
   | (with_reducible refine LeO.ite ?_ ?_)
   | (with_reducible refine LeO.bind ?_ (fun _ => ?_))
   | exact ih0 _ _ _ _ _ _ _
   | exact zbt.mono _ _
   | exact LeO.none _
   | refine LeO.ite ?_ ?_
   | refine LeO.bind ?_ (fun _ => ?_)
theorem zaz.mono : ∀ a0 a1 a2 k, LeO (zaz.f k a0 a1 a2) (zaz.f (k + 1) a0 a1 a2) := by
 intro a0 a1 a2 k
 have ih0 := zaz.zdz k
 unfold zaz.f
 repeat' first
   | (with_reducible exact ih0 _ _ _ _ _ _ _)
   | (with_reducible exact zbt.mono _ _)
   | (with_reducible exact LeO.refl _)
   | (with_reducible exact LeO.none _)
   | (with_reducible refine LeO.ite ?_ ?_)
   | (with_reducible refine LeO.bind ?_ (fun _ => ?_))
   | exact ih0 _ _ _ _ _ _ _
   | exact zbt.mono _ _
   | exact LeO.none _
   | refine LeO.ite ?_ ?_
   | refine LeO.bind ?_ (fun _ => ?_)
def zaz.T7 : Bool × List (List Nat × List Nat) := (true, [([], []), ([0], [0]), ([1], [1]), ([2], [2]), ([3, 2], [3]), ([4], [4]), ([5, 4], [4, 5]), ([6, 4, 4], [4, 6]), ([7, 4], [4, 7]), ([4, 8], [4, 8]), ([9, 7], [9]), ([10], [10]), ([11, 10], [10, 11]), ([12, 10, 10], [10, 12]), ([10], [10]), ([14, 10], [10, 14]), ([13, 15, 10], [10, 13, 15]), ([10, 16], [10, 16]), ([17, 13], [17]), ([18], [18]), ([19, 18], [18, 19]), ([20, 18, 18], [18, 20]), ([18, 21], [18, 21]), ([22, 21], [22]), ([23], [23]), ([24, 23], [23, 24]), ([25, 23, 23], [23, 25]), ([23, 26], [23, 26])])
def zaz.B7 : List Nat := [0, 1, 3, 7, 15, 31, 63, 127, 255, 511, 1023, 2047, 4095, 8191, 2047, 18431, 65535, 131071, 262143, 524287, 1048575, 2097151, 4194303, 8388607, 16777215, 33554431, 67108863, 134217727]
theorem zaz.tab7 : rtab .any (opsOf Tryz.f30 7) = zaz.T7 := by kernel_rfl
theorem zaz.bits7 : waitsOk zaz.T7.2 zaz.B7 = true := by kernel_rfl
set_option maxHeartbeats 8000000 in
set_option maxRecDepth 100000 in
theorem zaz.calls (k : Nat) (a0_0 : ByteArray) (A0_1 : Option Addr) (c0_1 : Nat) (l0_1 : List (S62)) (a0_2 : ByteArray) (r1 : ByteArray) (r2 : Int) (w : World) (hr0_1 : Kd.C k62 w A0_1 l0_1.length l0_1) (hc0_1 : l0_1.length ≤ c0_1) (hT : LaidM w) (h : zaz.f k a0_0 l0_1 a0_2 = some (r1, r2)) :
  Calls Tryz.prog 30 #[.agg #[.string a0_0, .slice A0_1 l0_1.length c0_1, .string a0_2]] w fun e w' => e = .returned (.tuple #[.string r1, .int .i64 r2]) ∧ Below w.heap.size w w' := by
 have hu50 := Tryz.underlying50
 have hu62 := Tryz.underlying62
 have HR0_1 := Aside0.mk hr0_1
 have HC0_1 := Aside0.mk hc0_1
 clear hr0_1 hc0_1
 have HB := Aside0.mk (Below.refl w.heap.size w)
 have HT := Aside0.mk hT
 clear hT
 have H : (if (l0_1.length : Int) ≥ 32 then (some ((⟨#[]⟩ : ByteArray), 80)) else (if a0_0.size + 2 ≤ 9223372036854775807 then (zaz.l0 k (a0_0 ++ (⟨#[13, 10]⟩ : ByteArray)) l0_1 (l0_1.length : Int) 0 a0_0 l0_1 a0_2) else (none))) = some (r1, r2) := h
 clear h
 by_cases c2 : (l0_1.length : Int) ≥ 32
 ·rw [if_pos c2] at H
  have c2b0 := decide_eq_true c2
  have c2b1 : decide (32 ≤ l0_1.length) = true := decide_eq_true (by omega)
  clear c2
  simp only [Option.some.injEq, Prod.mk.injEq] at H
  obtain ⟨rfl, rfl⟩ := H
  go_enter Tryz.func30, Tryz.ntmps30
  go_wp2_with (first | ((with_reducible refine zbj (N := 1) rfl ?_); (try (refine zbi (by rfl) ?_; dsimp only)); refine zbf ?hg (N := 1) ?hd (cs := #[.string a0_0, .slice A0_1 l0_1.length c0_1, .string a0_2]) (t := 50) ?hr ?_; (case hd => rfl); (case hg => rfl); (case hr => first | (go_simp; done) | (go_simp; rfl)); intro gb160 hg w3 hbox hb; have n0_ := Aside0.mk (zam (by repeat (first | (with_reducible first | exact HB.out | apply zac | apply zaa | apply zab) | exact HB.out)) hb); have n1_ := Aside0.mk (hbox); have n2_ := Aside0.mk ((by rw [hg]; exact (zan (by repeat (first | (with_reducible first | exact HB.out | apply zac | apply zaa | apply zab) | exact HB.out))) : w.heap.size ≤ gb160)); have n3_ := Aside0.mk ((by rw [hg]; exact (zan (by repeat (first | (with_reducible first | exact HB.out | apply zac | apply zaa | apply zab) | exact HB.out))) : w.heap.size ≤ gb160)); clear HB; have HB := n0_; have BK160 := n1_; have GW160 := n2_; have GE160 := n3_; clear n0_ n1_ n2_ n3_; clear hb hbox hg; have hcz4_0 : w3.cell? ⟨gb160, 0, none⟩ = some (.string a0_0) := (zah BK160.out 0).trans rfl; have hcz4_1 : w3.cell? ⟨gb160, 1, none⟩ = some (.slice A0_1 l0_1.length c0_1) := (zah BK160.out 1).trans rfl; have hcz4_2 : w3.cell? ⟨gb160, 2, none⟩ = some (.string a0_2) := (zah BK160.out 2).trans rfl; have hfz4_0 := zai BK160.out 0; have hfz4_1 := zai BK160.out 1; have hfz4_2 := zai BK160.out 2))
  go_ret2
  exact ⟨by first | rfl | (simp [zaq, zap] <;> rfl) | (simp [*, zaq, zap] <;> rfl), by repeat (first | (with_reducible first | exact HB.out | apply zac | apply zaa | apply zab | refine zad ?_ GE160.out) | exact HB.out)⟩
 ·rw [if_neg c2] at H
  have c2b0 : decide (32 ≤ (l0_1.length : Int)) = false := decide_eq_false c2
  have c2b1 : decide (32 ≤ l0_1.length) = false := decide_eq_false (by omega)
  clear c2
  by_cases c5 : a0_0.size + 2 ≤ 9223372036854775807
  ·rw [if_pos c5] at H
   have c5b0 := eq_true c5
   have c5b1 := decide_eq_true c5
   try have c5b2 := eq_false (Nat.not_lt.2 c5)
   have H' := Aside0.mk H
   clear H
   go_enter Tryz.func30, Tryz.ntmps30
   go_wp2_with (first | ((with_reducible refine zbj (N := 1) rfl ?_); (try (refine zbi (by rfl) ?_; dsimp only)); refine zbf ?hg (N := 1) ?hd (cs := #[.string a0_0, .slice A0_1 l0_1.length c0_1, .string a0_2]) (t := 50) ?hr ?_; (case hd => rfl); (case hg => rfl); (case hr => first | (go_simp; done) | (go_simp; rfl)); intro gb160 hg w6 hbox hb; have n0_ := Aside0.mk (zam (by repeat (first | (with_reducible first | exact HB.out | apply zac | apply zaa | apply zab) | exact HB.out)) hb); have n1_ := Aside0.mk (hbox); have n2_ := Aside0.mk ((by rw [hg]; exact (zan (by repeat (first | (with_reducible first | exact HB.out | apply zac | apply zaa | apply zab) | exact HB.out))) : w.heap.size ≤ gb160)); have n3_ := Aside0.mk ((by rw [hg]; exact (zan (by repeat (first | (with_reducible first | exact HB.out | apply zac | apply zaa | apply zab) | exact HB.out))) : w.heap.size ≤ gb160)); clear HB; have HB := n0_; have BK160 := n1_; have GW160 := n2_; have GE160 := n3_; clear n0_ n1_ n2_ n3_; clear hb hbox hg; have hcz7_0 : w6.cell? ⟨gb160, 0, none⟩ = some (.string a0_0) := (zah BK160.out 0).trans rfl; have hcz7_1 : w6.cell? ⟨gb160, 1, none⟩ = some (.slice A0_1 l0_1.length c0_1) := (zah BK160.out 1).trans rfl; have hcz7_2 : w6.cell? ⟨gb160, 2, none⟩ = some (.string a0_2) := (zah BK160.out 2).trans rfl; have hfz7_0 := zai BK160.out 0; have hfz7_1 := zai BK160.out 1; have hfz7_2 := zai BK160.out 2))
   go_loopg [4, 17] k (fun kq v4 v17 w' => ∃ (x4_1 : ByteArray) (x17_1 : Int), v4 = .string x4_1 ∧ v17 = .int .i64 x17_1 ∧ Aside0 (zaz.l0 kq x4_1 l0_1 (l0_1.length : Int) x17_1 a0_0 l0_1 a0_2 = some (r1, r2)) ∧ Aside0 (kq ≤ k) ∧ Aside0 (w'.heap[gb160]? = some (.cells #[.string a0_0, (.slice A0_1 l0_1.length c0_1), .string a0_2] 50 (0, 0))) ∧ Aside0 (Below w.heap.size w w'))
   case atStart => exact ⟨(a0_0 ++ (⟨#[13, 10]⟩ : ByteArray)), (0), (by first | rfl | (simp; done) | (simp [*]; done)), (by first | rfl | (simp; done) | (simp [*]; done)), H', ⟨Nat.le_refl _⟩, ⟨by (with_reducible repeat (first | refine zae ?_ _ | refine zag ?_ | refine zaf ?_ _)); exact BK160.out⟩, ⟨by repeat (first | (with_reducible first | exact HB.out | apply zac | apply zaa | apply zab | refine zad ?_ GE160.out) | exact HB.out)⟩⟩
   case round =>
    clear H'
    try clear c2
    try clear c2b0
    try clear c2b1
    try clear p2
    try clear c3
    try clear c5
    try clear c5b0
    try clear c5b1
    try clear c5b2
    try clear hcz4_0
    try clear hcz4_1
    try clear hcz4_2
    try clear hcz7_0
    try clear hcz7_1
    try clear hcz7_2
    try clear hfz4_0
    try clear hfz4_1
    try clear hfz4_2
    try clear hfz7_0
    try clear hfz7_1
    try clear hfz7_2
    obtain ⟨x4_1, x17_1, rfl, rfl, HA, HK1, BK160, HB⟩ := hrel
    cases gk with
    | zero => exact absurd HA.out (by simp [zaz.l0])
    | succ k1 =>
     have H := HA.out
     clear HA
     simp only [zaz.l0] at H
     by_cases c8 : x17_1 < (l0_1.length : Int)
     ·rw [if_pos c8] at H
      have c8b0 := decide_eq_true c8
      clear c8
      by_cases c9 : 0 ≤ x17_1
      ·rw [if_pos c9] at H
       have c9b0 := decide_eq_true c9
       clear c9
       by_cases c10 : x17_1 < (l0_1.length : Int)
       ·rw [if_pos c10] at H
        have c10b0 := decide_eq_true c10
        clear c10
        replace H := Option.bind_eq_some_iff.mp H
        obtain ⟨t164, A110, H⟩ := H
        try dsimp only at H
        have A11 := Aside0.mk A110
        clear A110
        by_cases c12 : t164 = true
        ·subst c12
         have H1 : ((zbt.f k1 ((zak l0_1 x17_1).f1)).bind fun t165 => (if t165 = true then ((zcj.f ((zak l0_1 x17_1).f1) (⟨#[32, 9]⟩ : ByteArray)).bind fun t166 => (if t166.toList = ((zak l0_1 x17_1).f1).toList then ((zce.f ((zak l0_1 x17_1).f0) (⟨#[67, 111, 110, 116, 101, 110, 116, 45, 76, 101, 110, 103, 116, 104]⟩ : ByteArray)).bind fun t167 => (if t167 = true then (some ((⟨#[]⟩ : ByteArray), 80)) else ((zce.f ((zak l0_1 x17_1).f0) (⟨#[84, 114, 97, 110, 115, 102, 101, 114, 45, 69, 110, 99, 111, 100, 105, 110, 103]⟩ : ByteArray)).bind fun t168 => (if t168 = true then (some ((⟨#[]⟩ : ByteArray), 80)) else (if ((zak l0_1 x17_1).f0).size + 2 ≤ 9223372036854775807 then (if (((zak l0_1 x17_1).f0) ++ (⟨#[58, 32]⟩ : ByteArray)).size + ((zak l0_1 x17_1).f1).size ≤ 9223372036854775807 then (if ((((zak l0_1 x17_1).f0) ++ (⟨#[58, 32]⟩ : ByteArray)) ++ ((zak l0_1 x17_1).f1)).size + 2 ≤ 9223372036854775807 then (if x4_1.size + (((((zak l0_1 x17_1).f0) ++ (⟨#[58, 32]⟩ : ByteArray)) ++ ((zak l0_1 x17_1).f1)) ++ (⟨#[13, 10]⟩ : ByteArray)).size ≤ 9223372036854775807 then (zaz.l0 k1 (x4_1 ++ (((((zak l0_1 x17_1).f0) ++ (⟨#[58, 32]⟩ : ByteArray)) ++ ((zak l0_1 x17_1).f1)) ++ (⟨#[13, 10]⟩ : ByteArray))) l0_1 (l0_1.length : Int) (wrap64 (x17_1 + 1)) a0_0 l0_1 a0_2) else (none)) else (none)) else (none)) else (none)))))) else (some ((⟨#[]⟩ : ByteArray), 80)))) else (some ((⟨#[]⟩ : ByteArray), 80)))) = some (r1, r2) := by rw [if_pos rfl] at H; exact H
         clear H
         have H := H1
         clear H1
         replace H := Option.bind_eq_some_iff.mp H
         obtain ⟨t165, A130, H⟩ := H
         try dsimp only at H
         have A13 := Aside0.mk A130
         clear A130
         by_cases c14 : t165 = true
         ·subst c14
          have H1 : ((zcj.f ((zak l0_1 x17_1).f1) (⟨#[32, 9]⟩ : ByteArray)).bind fun t166 => (if t166.toList = ((zak l0_1 x17_1).f1).toList then ((zce.f ((zak l0_1 x17_1).f0) (⟨#[67, 111, 110, 116, 101, 110, 116, 45, 76, 101, 110, 103, 116, 104]⟩ : ByteArray)).bind fun t167 => (if t167 = true then (some ((⟨#[]⟩ : ByteArray), 80)) else ((zce.f ((zak l0_1 x17_1).f0) (⟨#[84, 114, 97, 110, 115, 102, 101, 114, 45, 69, 110, 99, 111, 100, 105, 110, 103]⟩ : ByteArray)).bind fun t168 => (if t168 = true then (some ((⟨#[]⟩ : ByteArray), 80)) else (if ((zak l0_1 x17_1).f0).size + 2 ≤ 9223372036854775807 then (if (((zak l0_1 x17_1).f0) ++ (⟨#[58, 32]⟩ : ByteArray)).size + ((zak l0_1 x17_1).f1).size ≤ 9223372036854775807 then (if ((((zak l0_1 x17_1).f0) ++ (⟨#[58, 32]⟩ : ByteArray)) ++ ((zak l0_1 x17_1).f1)).size + 2 ≤ 9223372036854775807 then (if x4_1.size + (((((zak l0_1 x17_1).f0) ++ (⟨#[58, 32]⟩ : ByteArray)) ++ ((zak l0_1 x17_1).f1)) ++ (⟨#[13, 10]⟩ : ByteArray)).size ≤ 9223372036854775807 then (zaz.l0 k1 (x4_1 ++ (((((zak l0_1 x17_1).f0) ++ (⟨#[58, 32]⟩ : ByteArray)) ++ ((zak l0_1 x17_1).f1)) ++ (⟨#[13, 10]⟩ : ByteArray))) l0_1 (l0_1.length : Int) (wrap64 (x17_1 + 1)) a0_0 l0_1 a0_2) else (none)) else (none)) else (none)) else (none)))))) else (some ((⟨#[]⟩ : ByteArray), 80)))) = some (r1, r2) := by rw [if_pos rfl] at H; exact H
          clear H
          have H := H1
          clear H1
          replace H := Option.bind_eq_some_iff.mp H
          obtain ⟨t166, A150, H⟩ := H
          try dsimp only at H
          have A15 := Aside0.mk A150
          clear A150
          by_cases c16 : t166.toList = ((zak l0_1 x17_1).f1).toList
          ·rw [if_pos c16] at H
           have c16b0 : (t166.toList == ((zak l0_1 x17_1).f1).toList) = true := beq_iff_eq.mpr c16
           have c16b1 : (t166.toList != ((zak l0_1 x17_1).f1).toList) = false := bne_eq_false_iff_eq.mpr c16
           clear c16
           replace H := Option.bind_eq_some_iff.mp H
           obtain ⟨t167, A170, H⟩ := H
           try dsimp only at H
           have A17 := Aside0.mk A170
           clear A170
           by_cases c18 : t167 = true
           ·subst c18
            have H1 : (some ((⟨#[]⟩ : ByteArray), 80)) = some (r1, r2) := by rw [if_pos rfl] at H; exact H
            clear H
            have H := H1
            clear H1
            simp only [Option.some.injEq, Prod.mk.injEq] at H
            obtain ⟨rfl, rfl⟩ := H
            have p162 : 0 ≤ (x17_1 : Int) := of_decide_eq_true (by first | (with_reducible assumption) | assumption)
            have q162 : x17_1 < (l0_1.length : Int) := of_decide_eq_true (by first | (with_reducible assumption) | assumption)
            obtain ⟨ad162, e162, hx162_0, hx162_1⟩ := zdg HR0_1.out x17_1 p162 q162
            cases e162
            replace hx162_0 := (HB.out.cell (World.block_lt_of_cell? w _ hx162_0)).trans hx162_0
            replace hx162_1 := (HB.out.cell (World.block_lt_of_cell? w _ hx162_1)).trans hx162_1
            replace p162 := eq_true p162
            replace q162 := eq_true q162
            try go_wp2_with (first | ((with_reducible refine zbj (N := 6) rfl ?_); (try (refine zbi (by rfl) ?_; dsimp only)); refine zbf ?hg (N := 6) ?hd (cs := #[.string ⟨#[]⟩, .string ⟨#[]⟩]) (t := 62) ?hr ?_; (case hd => rfl); (case hg => rfl); (case hr => first | (go_simp; done) | (go_simp; rfl)); intro gb163 hg w19 hbox hb; have n0_ := Aside0.mk (zao (g := gb160) (o := .cells #[.string a0_0, .slice (some ad162) l0_1.length c0_1, .string a0_2] 50 (0, 0)) (by (with_reducible repeat (first | refine zae ?_ _ | refine zag ?_ | refine zaf ?_ _)); exact BK160.out) hb); have n1_ := Aside0.mk (zam (by repeat (first | (with_reducible first | exact HB.out | apply zac | apply zaa | apply zab | refine zad ?_ GE160.out) | exact HB.out)) hb); have n2_ := Aside0.mk (hbox); have n3_ := Aside0.mk ((by rw [hg]; exact (zan (by repeat (first | (with_reducible first | exact HB.out | apply zac | apply zaa | apply zab | refine zad ?_ GE160.out) | exact HB.out))) : w.heap.size ≤ gb163)); have n4_ := Aside0.mk ((by rw [hg]; exact (zan (by repeat (first | (with_reducible first | exact HB.out | apply zac | apply zaa | apply zab | refine zad ?_ GE160.out) | exact HB.out))) : w.heap.size ≤ gb163)); have n5_ := Aside0.mk ((by rw [hg]; exact Nat.ne_of_lt (zbv (g := gb160) (o := .cells #[.string a0_0, .slice (some ad162) l0_1.length c0_1, .string a0_2] 50 (0, 0)) (by (with_reducible repeat (first | refine zae ?_ _ | refine zag ?_ | refine zaf ?_ _)); exact BK160.out)) : gb160 ≠ gb163)); have n6_ := Aside0.mk ((by rw [hg]; exact Nat.ne_of_gt (zbv (g := gb160) (o := .cells #[.string a0_0, .slice (some ad162) l0_1.length c0_1, .string a0_2] 50 (0, 0)) (by (with_reducible repeat (first | refine zae ?_ _ | refine zag ?_ | refine zaf ?_ _)); exact BK160.out)) : gb163 ≠ gb160)); clear BK160; clear HB; have BK160 := n0_; have HB := n1_; have BK163 := n2_; have GW163 := n3_; have GE163 := n4_; have NB160_163 := n5_; have NB163_160 := n6_; clear n0_ n1_ n2_ n3_ n4_ n5_ n6_; clear hb hbox hg; have hnb20 := NB163_160.out; have hnc20 := NB160_163.out; have hcz21_0 : w19.cell? ⟨gb163, 0, none⟩ = some (.string ⟨#[]⟩) := (zah BK163.out 0).trans rfl; have hcz21_1 : w19.cell? ⟨gb163, 1, none⟩ = some (.string ⟨#[]⟩) := (zah BK163.out 1).trans rfl; have hfz21_0 := zai BK163.out 0; have hfz21_1 := zai BK163.out 1))
            have n0_ : Aside0 (((w19.setCell ⟨gb163, 0, none⟩ (.string ((zak l0_1 x17_1).f0))).setCell ⟨gb163, 1, none⟩ (.string ((zak l0_1 x17_1).f1))).heap[gb160]? = some (.cells #[.string a0_0, .slice (some ad162) l0_1.length c0_1, .string a0_2] 50 (0, 0))) := ⟨by (with_reducible repeat (first | refine zae ?_ _ | refine zag ?_ | refine zaf ?_ _)); refine zbx ?_ NB160_163.out _; (with_reducible repeat (first | refine zae ?_ _ | refine zag ?_ | refine zaf ?_ _)); refine zbx ?_ NB160_163.out _; (with_reducible repeat (first | refine zae ?_ _ | refine zag ?_ | refine zaf ?_ _)); exact BK160.out⟩
            have n1_ : Aside0 (((w19.setCell ⟨gb163, 0, none⟩ (.string ((zak l0_1 x17_1).f0))).setCell ⟨gb163, 1, none⟩ (.string ((zak l0_1 x17_1).f1))).heap[gb163]? = some (.cells #[.string ((zak l0_1 x17_1).f0), .string ((zak l0_1 x17_1).f1)] 62 (0, 0))) := ⟨by (with_reducible repeat (first | refine zae ?_ _ | refine zag ?_ | refine zaf ?_ _)); refine zav (cs := #[.string ((zak l0_1 x17_1).f0), .string ⟨#[]⟩]) ?_ 1 _ rfl; (with_reducible repeat (first | refine zae ?_ _ | refine zag ?_ | refine zaf ?_ _)); refine zav (cs := #[.string ⟨#[]⟩, .string ⟨#[]⟩]) ?_ 0 _ rfl; (with_reducible repeat (first | refine zae ?_ _ | refine zag ?_ | refine zaf ?_ _)); exact BK163.out⟩
            have n2_ : Aside0 (Below w.heap.size w ((w19.setCell ⟨gb163, 0, none⟩ (.string ((zak l0_1 x17_1).f0))).setCell ⟨gb163, 1, none⟩ (.string ((zak l0_1 x17_1).f1)))) := ⟨by repeat (first | (with_reducible first | exact HB.out | apply zac | apply zaa | apply zab | refine zad ?_ GE160.out | refine zad ?_ GE163.out) | exact HB.out)⟩
            (try clear BK160)
            (try clear BK163)
            (try clear HB)
            generalize ((w19.setCell ⟨gb163, 0, none⟩ (.string ((zak l0_1 x17_1).f0))).setCell ⟨gb163, 1, none⟩ (.string ((zak l0_1 x17_1).f1))) = w22 at n0_ n1_ n2_ ⊢
            have BK160 := n0_
            have BK163 := n1_
            have HB := n2_
            clear n0_ n1_ n2_
            have n0_ := Aside0.mk (zag BK160.out)
            have n1_ := Aside0.mk (zag BK163.out)
            have n2_ := Aside0.mk (zab HB.out)
            clear BK160
            clear BK163
            clear HB
            have BK160 := n0_
            have BK163 := n1_
            have HB := n2_
            clear n0_ n1_ n2_
            refine zda (n := 28) (S := fun w' => w'.cell? ⟨gb163, 0, none⟩ = some (.string ((zak l0_1 x17_1).f0)) ∧ w'.cell? ⟨gb163, 1, none⟩ = some (.string ((zak l0_1 x17_1).f1))) (ds := []) (bm 28 0) (by kernel_rfl) rfl rfl ⟨(zah BK163.out 0).trans rfl, (zah BK163.out 1).trans rfl⟩ (fun hHeld => ?_); refine zci zaz.tab7 zaz.bits7 (fun HT_ HW_ => ?_)
            generalize w22.drew = w23 at BK160 BK163 HB hHeld ⊢
            refine pv_ HT_ 0 (bm 28 1) ?_
            refine zcn (i := 1) (N := some 22) (v := ?_) (a' := ?_) (bm 28 3) rfl rfl (zbk HT_.out HW_.out (by kernel_rfl)) (fun _ _ _ h => h) (Or.inl ⟨by rfl, ?_⟩) hHeld ?_ ?_
            rotate_left
            ·rintro w' ⟨s0, s1⟩
             go_simp
             with_reducible rfl
            rotate_left
            ·simp only [Act.put, List.setIfInBounds_toArray, List.set_cons_zero, List.set_cons_succ, zbq, zbs]
             rfl
            refine one_ (i := 2) (N := some 23) (bm 28 7) rfl rfl (zcg HT_.out (by kernel_rfl)) (by decide) (fun K hK => ?_)
            refine zcw Tryz.func41 (by kernel_rfl) rfl #[.string ((zak l0_1 x17_1).f0)] (by rfl) rfl rfl (by (try simp only [List.map_toArray, List.map_cons, List.map_nil]); first | done | rfl | (simp only [List.length_drop, List.length_take]; rfl)) ?_
            with_reducible refine (zct.calls ((zak l0_1 x17_1).f0) true _ ?side1 A11.out).mono ?_
            (case side1 => exact LaidM.below HT.out (by repeat (first | (with_reducible first | exact HB.out | apply zac | apply zaa | apply zab | refine zad ?_ GE160.out | refine zad ?_ GE163.out) | exact HB.out)))
            rintro e w24 ⟨rfl, hb⟩
            refine ⟨_, rfl, ?_⟩
            have n0_ := Aside0.mk (zao (g := gb160) (o := .cells #[.string a0_0, .slice (some ad162) l0_1.length c0_1, .string a0_2] 50 (0, 0)) (by (with_reducible repeat (first | refine zae ?_ _ | refine zag ?_ | refine zaf ?_ _)); exact BK160.out) hb)
            have n1_ := Aside0.mk (zao (g := gb163) (o := .cells #[.string ((zak l0_1 x17_1).f0), .string ((zak l0_1 x17_1).f1)] 62 (0, 0)) (by (with_reducible repeat (first | refine zae ?_ _ | refine zag ?_ | refine zaf ?_ _)); exact BK163.out) hb)
            have n2_ := Aside0.mk (zam (by repeat (first | (with_reducible first | exact HB.out | apply zac | apply zaa | apply zab | refine zad ?_ GE160.out | refine zad ?_ GE163.out) | exact HB.out)) hb)
            clear BK160
            clear BK163
            clear HB
            have BK160 := n0_
            have BK163 := n1_
            have HB := n2_
            clear n0_ n1_ n2_
            (try clear hb)
            (try clear hb2)
            (try clear hk)
            (try clear hi)
            refine hK.out _ _ ⟨(zah BK163.out 0).trans rfl, (zah BK163.out 1).trans rfl⟩ (fun hHeld => ?_)
            clear hK K
            refine zcv (a' := ?_) ?_ ?_
            rotate_left
            ·show Act.put _ (some 23) _ = _
             simp only [Act.put, List.setIfInBounds_toArray, List.set_cons_zero, List.set_cons_succ, zbq, zbs]
             rfl
            refine pv_ HT_ 3 (bm 28 15) ?_
            refine pv_ HT_ 4 (bm 28 31) ?_
            refine pv_ HT_ 5 (bm 28 63) ?_
            refine zcn (i := 6) (N := some 27) (v := ?_) (a' := ?_) (bm 28 127) rfl rfl (zbk HT_.out HW_.out (by kernel_rfl)) (fun _ _ _ h => h) (Or.inl ⟨by rfl, ?_⟩) hHeld ?_ ?_
            rotate_left
            ·rintro w' ⟨s0, s1⟩
             go_simp
             with_reducible rfl
            rotate_left
            ·simp only [Act.put, List.setIfInBounds_toArray, List.set_cons_zero, List.set_cons_succ, zbq, zbs]
             rfl
            refine one_ (i := 7) (N := some 28) (bm 28 255) rfl rfl (zcg HT_.out (by kernel_rfl)) (by decide) (fun K hK => ?_)
            refine zcw Tryz.func42 (by kernel_rfl) rfl #[.string ((zak l0_1 x17_1).f1)] (by rfl) rfl rfl (by (try simp only [List.map_toArray, List.map_cons, List.map_nil]); first | done | rfl | (simp only [List.length_drop, List.length_take]; rfl)) ?_
            with_reducible refine (zbt.calls k1 ((zak l0_1 x17_1).f1) true _ ?side1 A13.out).mono ?_
            (case side1 => exact LaidM.below HT.out (by repeat (first | (with_reducible first | exact HB.out | apply zac | apply zaa | apply zab | refine zad ?_ GE160.out | refine zad ?_ GE163.out) | exact HB.out)))
            rintro e w25 ⟨rfl, hb⟩
            refine ⟨_, rfl, ?_⟩
            have n0_ := Aside0.mk (zao (g := gb160) (o := .cells #[.string a0_0, .slice (some ad162) l0_1.length c0_1, .string a0_2] 50 (0, 0)) (by (with_reducible repeat (first | refine zae ?_ _ | refine zag ?_ | refine zaf ?_ _)); exact BK160.out) hb)
            have n1_ := Aside0.mk (zao (g := gb163) (o := .cells #[.string ((zak l0_1 x17_1).f0), .string ((zak l0_1 x17_1).f1)] 62 (0, 0)) (by (with_reducible repeat (first | refine zae ?_ _ | refine zag ?_ | refine zaf ?_ _)); exact BK163.out) hb)
            have n2_ := Aside0.mk (zam (by repeat (first | (with_reducible first | exact HB.out | apply zac | apply zaa | apply zab | refine zad ?_ GE160.out | refine zad ?_ GE163.out) | exact HB.out)) hb)
            clear BK160
            clear BK163
            clear HB
            have BK160 := n0_
            have BK163 := n1_
            have HB := n2_
            clear n0_ n1_ n2_
            (try clear hb)
            (try clear hb2)
            (try clear hk)
            (try clear hi)
            refine hK.out _ _ ⟨(zah BK163.out 0).trans rfl, (zah BK163.out 1).trans rfl⟩ (fun hHeld => ?_)
            clear hK K
            refine zcv (a' := ?_) ?_ ?_
            rotate_left
            ·show Act.put _ (some 28) _ = _
             simp only [Act.put, List.setIfInBounds_toArray, List.set_cons_zero, List.set_cons_succ, zbq, zbs]
             rfl
            refine pv_ HT_ 8 (bm 28 511) ?_
            refine pv_ HT_ 9 (bm 28 1023) ?_
            refine pv_ HT_ 10 (bm 28 2047) ?_
            refine pv_ HT_ 11 (bm 28 4095) ?_
            refine pv_ HT_ 14 (bm 28 20479) ?_
            refine zcn (i := 12) (N := some 33) (v := ?_) (a' := ?_) (bm 28 24575) rfl rfl (zbk HT_.out HW_.out (by kernel_rfl)) (fun _ _ _ h => h) (Or.inl ⟨by rfl, ?_⟩) hHeld ?_ ?_
            rotate_left
            ·rintro w' ⟨s0, s1⟩
             go_simp
             with_reducible rfl
            rotate_left
            ·simp only [Act.put, List.setIfInBounds_toArray, List.set_cons_zero, List.set_cons_succ, zbq, zbs]
             rfl
            refine zcn (i := 15) (N := some 36) (v := ?_) (a' := ?_) (bm 28 57343) rfl rfl (zbk HT_.out HW_.out (by kernel_rfl)) (fun _ _ _ h => h) (Or.inl ⟨by rfl, ?_⟩) hHeld ?_ ?_
            rotate_left
            ·rintro w' ⟨s0, s1⟩
             go_simp
             with_reducible rfl
            rotate_left
            ·simp only [Act.put, List.setIfInBounds_toArray, List.set_cons_zero, List.set_cons_succ, zbq, zbs]
             rfl
            refine one_ (i := 13) (N := some 34) (bm 28 65535) rfl rfl (zcg HT_.out (by kernel_rfl)) (by decide) (fun K hK => ?_)
            refine zcw Tryz.func39 (by kernel_rfl) rfl #[.string ((zak l0_1 x17_1).f1), .string (⟨#[32, 9]⟩ : ByteArray)] (by rfl) rfl rfl (by (try simp only [List.map_toArray, List.map_cons, List.map_nil]); first | done | rfl | (simp only [List.length_drop, List.length_take]; rfl)) ?_
            with_reducible refine (zcj.calls ((zak l0_1 x17_1).f1) (⟨#[32, 9]⟩ : ByteArray) t166 _ ?side1 A15.out).mono ?_
            (case side1 => exact LaidM.below HT.out (by repeat (first | (with_reducible first | exact HB.out | apply zac | apply zaa | apply zab | refine zad ?_ GE160.out | refine zad ?_ GE163.out) | exact HB.out)))
            rintro e w26 ⟨rfl, hb⟩
            refine ⟨_, rfl, ?_⟩
            have n0_ := Aside0.mk (zao (g := gb160) (o := .cells #[.string a0_0, .slice (some ad162) l0_1.length c0_1, .string a0_2] 50 (0, 0)) (by (with_reducible repeat (first | refine zae ?_ _ | refine zag ?_ | refine zaf ?_ _)); exact BK160.out) hb)
            have n1_ := Aside0.mk (zao (g := gb163) (o := .cells #[.string ((zak l0_1 x17_1).f0), .string ((zak l0_1 x17_1).f1)] 62 (0, 0)) (by (with_reducible repeat (first | refine zae ?_ _ | refine zag ?_ | refine zaf ?_ _)); exact BK163.out) hb)
            have n2_ := Aside0.mk (zam (by repeat (first | (with_reducible first | exact HB.out | apply zac | apply zaa | apply zab | refine zad ?_ GE160.out | refine zad ?_ GE163.out) | exact HB.out)) hb)
            clear BK160
            clear BK163
            clear HB
            have BK160 := n0_
            have BK163 := n1_
            have HB := n2_
            clear n0_ n1_ n2_
            (try clear hb)
            (try clear hb2)
            (try clear hk)
            (try clear hi)
            refine hK.out _ _ ⟨(zah BK163.out 0).trans rfl, (zah BK163.out 1).trans rfl⟩ (fun hHeld => ?_)
            clear hK K
            refine zcv (a' := ?_) ?_ ?_
            rotate_left
            ·show Act.put _ (some 34) _ = _
             simp only [Act.put, List.setIfInBounds_toArray, List.set_cons_zero, List.set_cons_succ, zbq, zbs]
             rfl
            refine pv_ HT_ 16 (bm 28 131071) ?_
            refine pv_ HT_ 17 (bm 28 262143) ?_
            refine pv_ HT_ 18 (bm 28 524287) ?_
            refine pv_ HT_ 19 (bm 28 1048575) ?_
            refine zcn (i := 20) (N := some 41) (v := ?_) (a' := ?_) (bm 28 2097151) rfl rfl (zbk HT_.out HW_.out (by kernel_rfl)) (fun _ _ _ h => h) (Or.inl ⟨by rfl, ?_⟩) hHeld ?_ ?_
            rotate_left
            ·rintro w' ⟨s0, s1⟩
             go_simp
             with_reducible rfl
            rotate_left
            ·simp only [Act.put, List.setIfInBounds_toArray, List.set_cons_zero, List.set_cons_succ, zbq, zbs]
             rfl
            refine one_ (i := 21) (N := some 42) (bm 28 4194303) rfl rfl (zcg HT_.out (by kernel_rfl)) (by decide) (fun K hK => ?_)
            refine zcw Tryz.func43 (by kernel_rfl) rfl #[.string ((zak l0_1 x17_1).f0), .string (⟨#[67, 111, 110, 116, 101, 110, 116, 45, 76, 101, 110, 103, 116, 104]⟩ : ByteArray)] (by rfl) rfl rfl (by (try simp only [List.map_toArray, List.map_cons, List.map_nil]); first | done | rfl | (simp only [List.length_drop, List.length_take]; rfl)) ?_
            with_reducible refine (zce.calls ((zak l0_1 x17_1).f0) (⟨#[67, 111, 110, 116, 101, 110, 116, 45, 76, 101, 110, 103, 116, 104]⟩ : ByteArray) true _ ?side1 A17.out).mono ?_
            (case side1 => exact LaidM.below HT.out (by repeat (first | (with_reducible first | exact HB.out | apply zac | apply zaa | apply zab | refine zad ?_ GE160.out | refine zad ?_ GE163.out) | exact HB.out)))
            rintro e w27 ⟨rfl, hb⟩
            refine ⟨_, rfl, ?_⟩
            have n0_ := Aside0.mk (zao (g := gb160) (o := .cells #[.string a0_0, .slice (some ad162) l0_1.length c0_1, .string a0_2] 50 (0, 0)) (by (with_reducible repeat (first | refine zae ?_ _ | refine zag ?_ | refine zaf ?_ _)); exact BK160.out) hb)
            have n1_ := Aside0.mk (zao (g := gb163) (o := .cells #[.string ((zak l0_1 x17_1).f0), .string ((zak l0_1 x17_1).f1)] 62 (0, 0)) (by (with_reducible repeat (first | refine zae ?_ _ | refine zag ?_ | refine zaf ?_ _)); exact BK163.out) hb)
            have n2_ := Aside0.mk (zam (by repeat (first | (with_reducible first | exact HB.out | apply zac | apply zaa | apply zab | refine zad ?_ GE160.out | refine zad ?_ GE163.out) | exact HB.out)) hb)
            clear BK160
            clear BK163
            clear HB
            have BK160 := n0_
            have BK163 := n1_
            have HB := n2_
            clear n0_ n1_ n2_
            (try clear hb)
            (try clear hb2)
            (try clear hk)
            (try clear hi)
            refine hK.out _ _ ⟨(zah BK163.out 0).trans rfl, (zah BK163.out 1).trans rfl⟩ (fun hHeld => ?_)
            clear hK K
            refine zcv (a' := ?_) ?_ ?_
            rotate_left
            ·show Act.put _ (some 42) _ = _
             simp only [Act.put, List.setIfInBounds_toArray, List.set_cons_zero, List.set_cons_succ, zbq, zbs]
             rfl
            refine pv_ HT_ 22 (bm 28 8388607) ?_
            refine pv_ HT_ 23 (bm 28 16777215) ?_
            refine pu_ HT_ 24 (bm 28 33554431) ?_
            refine pu_ HT_ 25 (bm 28 67108863) ?_
            refine pu_ HT_ 26 (bm 28 134217727) ?_
            refine pv_ HT_ 27 (bm 28 268435455) ?_
            refine zdu (zcu HT_.out (by kernel_rfl)) ?_
            try go_wp2
            go_ret2
            exact ⟨by first | rfl | (simp [zaq, zap] <;> rfl) | (simp [*, zaq, zap] <;> rfl), by repeat (first | (with_reducible first | exact HB.out | apply zac | apply zaa | apply zab | refine zad ?_ GE160.out | refine zad ?_ GE163.out) | exact HB.out)⟩
           ·replace c18 := Bool.eq_false_iff.mpr c18
            subst c18
            have H1 : ((zce.f ((zak l0_1 x17_1).f0) (⟨#[84, 114, 97, 110, 115, 102, 101, 114, 45, 69, 110, 99, 111, 100, 105, 110, 103]⟩ : ByteArray)).bind fun t168 => (if t168 = true then (some ((⟨#[]⟩ : ByteArray), 80)) else (if ((zak l0_1 x17_1).f0).size + 2 ≤ 9223372036854775807 then (if (((zak l0_1 x17_1).f0) ++ (⟨#[58, 32]⟩ : ByteArray)).size + ((zak l0_1 x17_1).f1).size ≤ 9223372036854775807 then (if ((((zak l0_1 x17_1).f0) ++ (⟨#[58, 32]⟩ : ByteArray)) ++ ((zak l0_1 x17_1).f1)).size + 2 ≤ 9223372036854775807 then (if x4_1.size + (((((zak l0_1 x17_1).f0) ++ (⟨#[58, 32]⟩ : ByteArray)) ++ ((zak l0_1 x17_1).f1)) ++ (⟨#[13, 10]⟩ : ByteArray)).size ≤ 9223372036854775807 then (zaz.l0 k1 (x4_1 ++ (((((zak l0_1 x17_1).f0) ++ (⟨#[58, 32]⟩ : ByteArray)) ++ ((zak l0_1 x17_1).f1)) ++ (⟨#[13, 10]⟩ : ByteArray))) l0_1 (l0_1.length : Int) (wrap64 (x17_1 + 1)) a0_0 l0_1 a0_2) else (none)) else (none)) else (none)) else (none)))) = some (r1, r2) := by rw [if_neg (show ¬ (false = true) by decide)] at H; exact H
            clear H
            have H := H1
            clear H1
            replace H := Option.bind_eq_some_iff.mp H
            obtain ⟨t168, A280, H⟩ := H
            try dsimp only at H
            have A28 := Aside0.mk A280
            clear A280
            by_cases c29 : t168 = true
            ·subst c29
             have H1 : (some ((⟨#[]⟩ : ByteArray), 80)) = some (r1, r2) := by rw [if_pos rfl] at H; exact H
             clear H
             have H := H1
             clear H1
             simp only [Option.some.injEq, Prod.mk.injEq] at H
             obtain ⟨rfl, rfl⟩ := H
             have p162 : 0 ≤ (x17_1 : Int) := of_decide_eq_true (by first | (with_reducible assumption) | assumption)
             have q162 : x17_1 < (l0_1.length : Int) := of_decide_eq_true (by first | (with_reducible assumption) | assumption)
             obtain ⟨ad162, e162, hx162_0, hx162_1⟩ := zdg HR0_1.out x17_1 p162 q162
             cases e162
             replace hx162_0 := (HB.out.cell (World.block_lt_of_cell? w _ hx162_0)).trans hx162_0
             replace hx162_1 := (HB.out.cell (World.block_lt_of_cell? w _ hx162_1)).trans hx162_1
             replace p162 := eq_true p162
             replace q162 := eq_true q162
             try go_wp2_with (first | ((with_reducible refine zbj (N := 6) rfl ?_); (try (refine zbi (by rfl) ?_; dsimp only)); refine zbf ?hg (N := 6) ?hd (cs := #[.string ⟨#[]⟩, .string ⟨#[]⟩]) (t := 62) ?hr ?_; (case hd => rfl); (case hg => rfl); (case hr => first | (go_simp; done) | (go_simp; rfl)); intro gb163 hg w30 hbox hb; have n0_ := Aside0.mk (zao (g := gb160) (o := .cells #[.string a0_0, .slice (some ad162) l0_1.length c0_1, .string a0_2] 50 (0, 0)) (by (with_reducible repeat (first | refine zae ?_ _ | refine zag ?_ | refine zaf ?_ _)); exact BK160.out) hb); have n1_ := Aside0.mk (zam (by repeat (first | (with_reducible first | exact HB.out | apply zac | apply zaa | apply zab | refine zad ?_ GE160.out) | exact HB.out)) hb); have n2_ := Aside0.mk (hbox); have n3_ := Aside0.mk ((by rw [hg]; exact (zan (by repeat (first | (with_reducible first | exact HB.out | apply zac | apply zaa | apply zab | refine zad ?_ GE160.out) | exact HB.out))) : w.heap.size ≤ gb163)); have n4_ := Aside0.mk ((by rw [hg]; exact (zan (by repeat (first | (with_reducible first | exact HB.out | apply zac | apply zaa | apply zab | refine zad ?_ GE160.out) | exact HB.out))) : w.heap.size ≤ gb163)); have n5_ := Aside0.mk ((by rw [hg]; exact Nat.ne_of_lt (zbv (g := gb160) (o := .cells #[.string a0_0, .slice (some ad162) l0_1.length c0_1, .string a0_2] 50 (0, 0)) (by (with_reducible repeat (first | refine zae ?_ _ | refine zag ?_ | refine zaf ?_ _)); exact BK160.out)) : gb160 ≠ gb163)); have n6_ := Aside0.mk ((by rw [hg]; exact Nat.ne_of_gt (zbv (g := gb160) (o := .cells #[.string a0_0, .slice (some ad162) l0_1.length c0_1, .string a0_2] 50 (0, 0)) (by (with_reducible repeat (first | refine zae ?_ _ | refine zag ?_ | refine zaf ?_ _)); exact BK160.out)) : gb163 ≠ gb160)); clear BK160; clear HB; have BK160 := n0_; have HB := n1_; have BK163 := n2_; have GW163 := n3_; have GE163 := n4_; have NB160_163 := n5_; have NB163_160 := n6_; clear n0_ n1_ n2_ n3_ n4_ n5_ n6_; clear hb hbox hg; have hnb31 := NB163_160.out; have hnc31 := NB160_163.out; have hcz32_0 : w30.cell? ⟨gb163, 0, none⟩ = some (.string ⟨#[]⟩) := (zah BK163.out 0).trans rfl; have hcz32_1 : w30.cell? ⟨gb163, 1, none⟩ = some (.string ⟨#[]⟩) := (zah BK163.out 1).trans rfl; have hfz32_0 := zai BK163.out 0; have hfz32_1 := zai BK163.out 1))
             have n0_ : Aside0 (((w30.setCell ⟨gb163, 0, none⟩ (.string ((zak l0_1 x17_1).f0))).setCell ⟨gb163, 1, none⟩ (.string ((zak l0_1 x17_1).f1))).heap[gb160]? = some (.cells #[.string a0_0, .slice (some ad162) l0_1.length c0_1, .string a0_2] 50 (0, 0))) := ⟨by (with_reducible repeat (first | refine zae ?_ _ | refine zag ?_ | refine zaf ?_ _)); refine zbx ?_ NB160_163.out _; (with_reducible repeat (first | refine zae ?_ _ | refine zag ?_ | refine zaf ?_ _)); refine zbx ?_ NB160_163.out _; (with_reducible repeat (first | refine zae ?_ _ | refine zag ?_ | refine zaf ?_ _)); exact BK160.out⟩
             have n1_ : Aside0 (((w30.setCell ⟨gb163, 0, none⟩ (.string ((zak l0_1 x17_1).f0))).setCell ⟨gb163, 1, none⟩ (.string ((zak l0_1 x17_1).f1))).heap[gb163]? = some (.cells #[.string ((zak l0_1 x17_1).f0), .string ((zak l0_1 x17_1).f1)] 62 (0, 0))) := ⟨by (with_reducible repeat (first | refine zae ?_ _ | refine zag ?_ | refine zaf ?_ _)); refine zav (cs := #[.string ((zak l0_1 x17_1).f0), .string ⟨#[]⟩]) ?_ 1 _ rfl; (with_reducible repeat (first | refine zae ?_ _ | refine zag ?_ | refine zaf ?_ _)); refine zav (cs := #[.string ⟨#[]⟩, .string ⟨#[]⟩]) ?_ 0 _ rfl; (with_reducible repeat (first | refine zae ?_ _ | refine zag ?_ | refine zaf ?_ _)); exact BK163.out⟩
             have n2_ : Aside0 (Below w.heap.size w ((w30.setCell ⟨gb163, 0, none⟩ (.string ((zak l0_1 x17_1).f0))).setCell ⟨gb163, 1, none⟩ (.string ((zak l0_1 x17_1).f1)))) := ⟨by repeat (first | (with_reducible first | exact HB.out | apply zac | apply zaa | apply zab | refine zad ?_ GE160.out | refine zad ?_ GE163.out) | exact HB.out)⟩
             (try clear BK160)
             (try clear BK163)
             (try clear HB)
             generalize ((w30.setCell ⟨gb163, 0, none⟩ (.string ((zak l0_1 x17_1).f0))).setCell ⟨gb163, 1, none⟩ (.string ((zak l0_1 x17_1).f1))) = w33 at n0_ n1_ n2_ ⊢
             have BK160 := n0_
             have BK163 := n1_
             have HB := n2_
             clear n0_ n1_ n2_
             have n0_ := Aside0.mk (zag BK160.out)
             have n1_ := Aside0.mk (zag BK163.out)
             have n2_ := Aside0.mk (zab HB.out)
             clear BK160
             clear BK163
             clear HB
             have BK160 := n0_
             have BK163 := n1_
             have HB := n2_
             clear n0_ n1_ n2_
             refine zda (n := 28) (S := fun w' => w'.cell? ⟨gb163, 0, none⟩ = some (.string ((zak l0_1 x17_1).f0)) ∧ w'.cell? ⟨gb163, 1, none⟩ = some (.string ((zak l0_1 x17_1).f1))) (ds := []) (bm 28 0) (by kernel_rfl) rfl rfl ⟨(zah BK163.out 0).trans rfl, (zah BK163.out 1).trans rfl⟩ (fun hHeld => ?_); refine zci zaz.tab7 zaz.bits7 (fun HT_ HW_ => ?_)
             generalize w33.drew = w34 at BK160 BK163 HB hHeld ⊢
             refine pv_ HT_ 0 (bm 28 1) ?_
             refine zcn (i := 1) (N := some 22) (v := ?_) (a' := ?_) (bm 28 3) rfl rfl (zbk HT_.out HW_.out (by kernel_rfl)) (fun _ _ _ h => h) (Or.inl ⟨by rfl, ?_⟩) hHeld ?_ ?_
             rotate_left
             ·rintro w' ⟨s0, s1⟩
              go_simp
              with_reducible rfl
             rotate_left
             ·simp only [Act.put, List.setIfInBounds_toArray, List.set_cons_zero, List.set_cons_succ, zbq, zbs]
              rfl
             refine one_ (i := 2) (N := some 23) (bm 28 7) rfl rfl (zcg HT_.out (by kernel_rfl)) (by decide) (fun K hK => ?_)
             refine zcw Tryz.func41 (by kernel_rfl) rfl #[.string ((zak l0_1 x17_1).f0)] (by rfl) rfl rfl (by (try simp only [List.map_toArray, List.map_cons, List.map_nil]); first | done | rfl | (simp only [List.length_drop, List.length_take]; rfl)) ?_
             with_reducible refine (zct.calls ((zak l0_1 x17_1).f0) true _ ?side1 A11.out).mono ?_
             (case side1 => exact LaidM.below HT.out (by repeat (first | (with_reducible first | exact HB.out | apply zac | apply zaa | apply zab | refine zad ?_ GE160.out | refine zad ?_ GE163.out) | exact HB.out)))
             rintro e w35 ⟨rfl, hb⟩
             refine ⟨_, rfl, ?_⟩
             have n0_ := Aside0.mk (zao (g := gb160) (o := .cells #[.string a0_0, .slice (some ad162) l0_1.length c0_1, .string a0_2] 50 (0, 0)) (by (with_reducible repeat (first | refine zae ?_ _ | refine zag ?_ | refine zaf ?_ _)); exact BK160.out) hb)
             have n1_ := Aside0.mk (zao (g := gb163) (o := .cells #[.string ((zak l0_1 x17_1).f0), .string ((zak l0_1 x17_1).f1)] 62 (0, 0)) (by (with_reducible repeat (first | refine zae ?_ _ | refine zag ?_ | refine zaf ?_ _)); exact BK163.out) hb)
             have n2_ := Aside0.mk (zam (by repeat (first | (with_reducible first | exact HB.out | apply zac | apply zaa | apply zab | refine zad ?_ GE160.out | refine zad ?_ GE163.out) | exact HB.out)) hb)
             clear BK160
             clear BK163
             clear HB
             have BK160 := n0_
             have BK163 := n1_
             have HB := n2_
             clear n0_ n1_ n2_
             (try clear hb)
             (try clear hb2)
             (try clear hk)
             (try clear hi)
             refine hK.out _ _ ⟨(zah BK163.out 0).trans rfl, (zah BK163.out 1).trans rfl⟩ (fun hHeld => ?_)
             clear hK K
             refine zcv (a' := ?_) ?_ ?_
             rotate_left
             ·show Act.put _ (some 23) _ = _
              simp only [Act.put, List.setIfInBounds_toArray, List.set_cons_zero, List.set_cons_succ, zbq, zbs]
              rfl
             refine pv_ HT_ 3 (bm 28 15) ?_
             refine pv_ HT_ 4 (bm 28 31) ?_
             refine pv_ HT_ 5 (bm 28 63) ?_
             refine zcn (i := 6) (N := some 27) (v := ?_) (a' := ?_) (bm 28 127) rfl rfl (zbk HT_.out HW_.out (by kernel_rfl)) (fun _ _ _ h => h) (Or.inl ⟨by rfl, ?_⟩) hHeld ?_ ?_
             rotate_left
             ·rintro w' ⟨s0, s1⟩
              go_simp
              with_reducible rfl
             rotate_left
             ·simp only [Act.put, List.setIfInBounds_toArray, List.set_cons_zero, List.set_cons_succ, zbq, zbs]
              rfl
             refine one_ (i := 7) (N := some 28) (bm 28 255) rfl rfl (zcg HT_.out (by kernel_rfl)) (by decide) (fun K hK => ?_)
             refine zcw Tryz.func42 (by kernel_rfl) rfl #[.string ((zak l0_1 x17_1).f1)] (by rfl) rfl rfl (by (try simp only [List.map_toArray, List.map_cons, List.map_nil]); first | done | rfl | (simp only [List.length_drop, List.length_take]; rfl)) ?_
             with_reducible refine (zbt.calls k1 ((zak l0_1 x17_1).f1) true _ ?side1 A13.out).mono ?_
             (case side1 => exact LaidM.below HT.out (by repeat (first | (with_reducible first | exact HB.out | apply zac | apply zaa | apply zab | refine zad ?_ GE160.out | refine zad ?_ GE163.out) | exact HB.out)))
             rintro e w36 ⟨rfl, hb⟩
             refine ⟨_, rfl, ?_⟩
             have n0_ := Aside0.mk (zao (g := gb160) (o := .cells #[.string a0_0, .slice (some ad162) l0_1.length c0_1, .string a0_2] 50 (0, 0)) (by (with_reducible repeat (first | refine zae ?_ _ | refine zag ?_ | refine zaf ?_ _)); exact BK160.out) hb)
             have n1_ := Aside0.mk (zao (g := gb163) (o := .cells #[.string ((zak l0_1 x17_1).f0), .string ((zak l0_1 x17_1).f1)] 62 (0, 0)) (by (with_reducible repeat (first | refine zae ?_ _ | refine zag ?_ | refine zaf ?_ _)); exact BK163.out) hb)
             have n2_ := Aside0.mk (zam (by repeat (first | (with_reducible first | exact HB.out | apply zac | apply zaa | apply zab | refine zad ?_ GE160.out | refine zad ?_ GE163.out) | exact HB.out)) hb)
             clear BK160
             clear BK163
             clear HB
             have BK160 := n0_
             have BK163 := n1_
             have HB := n2_
             clear n0_ n1_ n2_
             (try clear hb)
             (try clear hb2)
             (try clear hk)
             (try clear hi)
             refine hK.out _ _ ⟨(zah BK163.out 0).trans rfl, (zah BK163.out 1).trans rfl⟩ (fun hHeld => ?_)
             clear hK K
             refine zcv (a' := ?_) ?_ ?_
             rotate_left
             ·show Act.put _ (some 28) _ = _
              simp only [Act.put, List.setIfInBounds_toArray, List.set_cons_zero, List.set_cons_succ, zbq, zbs]
              rfl
             refine pv_ HT_ 8 (bm 28 511) ?_
             refine pv_ HT_ 9 (bm 28 1023) ?_
             refine pv_ HT_ 10 (bm 28 2047) ?_
             refine pv_ HT_ 11 (bm 28 4095) ?_
             refine pv_ HT_ 14 (bm 28 20479) ?_
             refine zcn (i := 12) (N := some 33) (v := ?_) (a' := ?_) (bm 28 24575) rfl rfl (zbk HT_.out HW_.out (by kernel_rfl)) (fun _ _ _ h => h) (Or.inl ⟨by rfl, ?_⟩) hHeld ?_ ?_
             rotate_left
             ·rintro w' ⟨s0, s1⟩
              go_simp
              with_reducible rfl
             rotate_left
             ·simp only [Act.put, List.setIfInBounds_toArray, List.set_cons_zero, List.set_cons_succ, zbq, zbs]
              rfl
             refine zcn (i := 15) (N := some 36) (v := ?_) (a' := ?_) (bm 28 57343) rfl rfl (zbk HT_.out HW_.out (by kernel_rfl)) (fun _ _ _ h => h) (Or.inl ⟨by rfl, ?_⟩) hHeld ?_ ?_
             rotate_left
             ·rintro w' ⟨s0, s1⟩
              go_simp
              with_reducible rfl
             rotate_left
             ·simp only [Act.put, List.setIfInBounds_toArray, List.set_cons_zero, List.set_cons_succ, zbq, zbs]
              rfl
             refine one_ (i := 13) (N := some 34) (bm 28 65535) rfl rfl (zcg HT_.out (by kernel_rfl)) (by decide) (fun K hK => ?_)
             refine zcw Tryz.func39 (by kernel_rfl) rfl #[.string ((zak l0_1 x17_1).f1), .string (⟨#[32, 9]⟩ : ByteArray)] (by rfl) rfl rfl (by (try simp only [List.map_toArray, List.map_cons, List.map_nil]); first | done | rfl | (simp only [List.length_drop, List.length_take]; rfl)) ?_
             with_reducible refine (zcj.calls ((zak l0_1 x17_1).f1) (⟨#[32, 9]⟩ : ByteArray) t166 _ ?side1 A15.out).mono ?_
             (case side1 => exact LaidM.below HT.out (by repeat (first | (with_reducible first | exact HB.out | apply zac | apply zaa | apply zab | refine zad ?_ GE160.out | refine zad ?_ GE163.out) | exact HB.out)))
             rintro e w37 ⟨rfl, hb⟩
             refine ⟨_, rfl, ?_⟩
             have n0_ := Aside0.mk (zao (g := gb160) (o := .cells #[.string a0_0, .slice (some ad162) l0_1.length c0_1, .string a0_2] 50 (0, 0)) (by (with_reducible repeat (first | refine zae ?_ _ | refine zag ?_ | refine zaf ?_ _)); exact BK160.out) hb)
             have n1_ := Aside0.mk (zao (g := gb163) (o := .cells #[.string ((zak l0_1 x17_1).f0), .string ((zak l0_1 x17_1).f1)] 62 (0, 0)) (by (with_reducible repeat (first | refine zae ?_ _ | refine zag ?_ | refine zaf ?_ _)); exact BK163.out) hb)
             have n2_ := Aside0.mk (zam (by repeat (first | (with_reducible first | exact HB.out | apply zac | apply zaa | apply zab | refine zad ?_ GE160.out | refine zad ?_ GE163.out) | exact HB.out)) hb)
             clear BK160
             clear BK163
             clear HB
             have BK160 := n0_
             have BK163 := n1_
             have HB := n2_
             clear n0_ n1_ n2_
             (try clear hb)
             (try clear hb2)
             (try clear hk)
             (try clear hi)
             refine hK.out _ _ ⟨(zah BK163.out 0).trans rfl, (zah BK163.out 1).trans rfl⟩ (fun hHeld => ?_)
             clear hK K
             refine zcv (a' := ?_) ?_ ?_
             rotate_left
             ·show Act.put _ (some 34) _ = _
              simp only [Act.put, List.setIfInBounds_toArray, List.set_cons_zero, List.set_cons_succ, zbq, zbs]
              rfl
             refine pv_ HT_ 16 (bm 28 131071) ?_
             refine pv_ HT_ 17 (bm 28 262143) ?_
             refine pv_ HT_ 18 (bm 28 524287) ?_
             refine pv_ HT_ 19 (bm 28 1048575) ?_
             refine zcn (i := 20) (N := some 41) (v := ?_) (a' := ?_) (bm 28 2097151) rfl rfl (zbk HT_.out HW_.out (by kernel_rfl)) (fun _ _ _ h => h) (Or.inl ⟨by rfl, ?_⟩) hHeld ?_ ?_
             rotate_left
             ·rintro w' ⟨s0, s1⟩
              go_simp
              with_reducible rfl
             rotate_left
             ·simp only [Act.put, List.setIfInBounds_toArray, List.set_cons_zero, List.set_cons_succ, zbq, zbs]
              rfl
             refine one_ (i := 21) (N := some 42) (bm 28 4194303) rfl rfl (zcg HT_.out (by kernel_rfl)) (by decide) (fun K hK => ?_)
             refine zcw Tryz.func43 (by kernel_rfl) rfl #[.string ((zak l0_1 x17_1).f0), .string (⟨#[67, 111, 110, 116, 101, 110, 116, 45, 76, 101, 110, 103, 116, 104]⟩ : ByteArray)] (by rfl) rfl rfl (by (try simp only [List.map_toArray, List.map_cons, List.map_nil]); first | done | rfl | (simp only [List.length_drop, List.length_take]; rfl)) ?_
             with_reducible refine (zce.calls ((zak l0_1 x17_1).f0) (⟨#[67, 111, 110, 116, 101, 110, 116, 45, 76, 101, 110, 103, 116, 104]⟩ : ByteArray) false _ ?side1 A17.out).mono ?_
             (case side1 => exact LaidM.below HT.out (by repeat (first | (with_reducible first | exact HB.out | apply zac | apply zaa | apply zab | refine zad ?_ GE160.out | refine zad ?_ GE163.out) | exact HB.out)))
             rintro e w38 ⟨rfl, hb⟩
             refine ⟨_, rfl, ?_⟩
             have n0_ := Aside0.mk (zao (g := gb160) (o := .cells #[.string a0_0, .slice (some ad162) l0_1.length c0_1, .string a0_2] 50 (0, 0)) (by (with_reducible repeat (first | refine zae ?_ _ | refine zag ?_ | refine zaf ?_ _)); exact BK160.out) hb)
             have n1_ := Aside0.mk (zao (g := gb163) (o := .cells #[.string ((zak l0_1 x17_1).f0), .string ((zak l0_1 x17_1).f1)] 62 (0, 0)) (by (with_reducible repeat (first | refine zae ?_ _ | refine zag ?_ | refine zaf ?_ _)); exact BK163.out) hb)
             have n2_ := Aside0.mk (zam (by repeat (first | (with_reducible first | exact HB.out | apply zac | apply zaa | apply zab | refine zad ?_ GE160.out | refine zad ?_ GE163.out) | exact HB.out)) hb)
             clear BK160
             clear BK163
             clear HB
             have BK160 := n0_
             have BK163 := n1_
             have HB := n2_
             clear n0_ n1_ n2_
             (try clear hb)
             (try clear hb2)
             (try clear hk)
             (try clear hi)
             refine hK.out _ _ ⟨(zah BK163.out 0).trans rfl, (zah BK163.out 1).trans rfl⟩ (fun hHeld => ?_)
             clear hK K
             refine zcv (a' := ?_) ?_ ?_
             rotate_left
             ·show Act.put _ (some 42) _ = _
              simp only [Act.put, List.setIfInBounds_toArray, List.set_cons_zero, List.set_cons_succ, zbq, zbs]
              rfl
             refine pv_ HT_ 22 (bm 28 8388607) ?_
             refine pv_ HT_ 23 (bm 28 16777215) ?_
             refine pv_ HT_ 24 (bm 28 33554431) ?_
             refine zcn (i := 25) (N := some 46) (v := ?_) (a' := ?_) (bm 28 67108863) rfl rfl (zbk HT_.out HW_.out (by kernel_rfl)) (fun _ _ _ h => h) (Or.inl ⟨by rfl, ?_⟩) hHeld ?_ ?_
             rotate_left
             ·rintro w' ⟨s0, s1⟩
              go_simp
              with_reducible rfl
             rotate_left
             ·simp only [Act.put, List.setIfInBounds_toArray, List.set_cons_zero, List.set_cons_succ, zbq, zbs]
              rfl
             refine one_ (i := 26) (N := some 47) (bm 28 134217727) rfl rfl (zcg HT_.out (by kernel_rfl)) (by decide) (fun K hK => ?_)
             refine zcw Tryz.func43 (by kernel_rfl) rfl #[.string ((zak l0_1 x17_1).f0), .string (⟨#[84, 114, 97, 110, 115, 102, 101, 114, 45, 69, 110, 99, 111, 100, 105, 110, 103]⟩ : ByteArray)] (by rfl) rfl rfl (by (try simp only [List.map_toArray, List.map_cons, List.map_nil]); first | done | rfl | (simp only [List.length_drop, List.length_take]; rfl)) ?_
             with_reducible refine (zce.calls ((zak l0_1 x17_1).f0) (⟨#[84, 114, 97, 110, 115, 102, 101, 114, 45, 69, 110, 99, 111, 100, 105, 110, 103]⟩ : ByteArray) true _ ?side1 A28.out).mono ?_
             (case side1 => exact LaidM.below HT.out (by repeat (first | (with_reducible first | exact HB.out | apply zac | apply zaa | apply zab | refine zad ?_ GE160.out | refine zad ?_ GE163.out) | exact HB.out)))
             rintro e w39 ⟨rfl, hb⟩
             refine ⟨_, rfl, ?_⟩
             have n0_ := Aside0.mk (zao (g := gb160) (o := .cells #[.string a0_0, .slice (some ad162) l0_1.length c0_1, .string a0_2] 50 (0, 0)) (by (with_reducible repeat (first | refine zae ?_ _ | refine zag ?_ | refine zaf ?_ _)); exact BK160.out) hb)
             have n1_ := Aside0.mk (zao (g := gb163) (o := .cells #[.string ((zak l0_1 x17_1).f0), .string ((zak l0_1 x17_1).f1)] 62 (0, 0)) (by (with_reducible repeat (first | refine zae ?_ _ | refine zag ?_ | refine zaf ?_ _)); exact BK163.out) hb)
             have n2_ := Aside0.mk (zam (by repeat (first | (with_reducible first | exact HB.out | apply zac | apply zaa | apply zab | refine zad ?_ GE160.out | refine zad ?_ GE163.out) | exact HB.out)) hb)
             clear BK160
             clear BK163
             clear HB
             have BK160 := n0_
             have BK163 := n1_
             have HB := n2_
             clear n0_ n1_ n2_
             (try clear hb)
             (try clear hb2)
             (try clear hk)
             (try clear hi)
             refine hK.out _ _ ⟨(zah BK163.out 0).trans rfl, (zah BK163.out 1).trans rfl⟩ (fun hHeld => ?_)
             clear hK K
             refine zcv (a' := ?_) ?_ ?_
             rotate_left
             ·show Act.put _ (some 47) _ = _
              simp only [Act.put, List.setIfInBounds_toArray, List.set_cons_zero, List.set_cons_succ, zbq, zbs]
              rfl
             refine pv_ HT_ 27 (bm 28 268435455) ?_
             refine zdu (zcu HT_.out (by kernel_rfl)) ?_
             try go_wp2
             go_ret2
             exact ⟨by first | rfl | (simp [zaq, zap] <;> rfl) | (simp [*, zaq, zap] <;> rfl), by repeat (first | (with_reducible first | exact HB.out | apply zac | apply zaa | apply zab | refine zad ?_ GE160.out | refine zad ?_ GE163.out) | exact HB.out)⟩
            ·replace c29 := Bool.eq_false_iff.mpr c29
             subst c29
             have H1 : (if ((zak l0_1 x17_1).f0).size + 2 ≤ 9223372036854775807 then (if (((zak l0_1 x17_1).f0) ++ (⟨#[58, 32]⟩ : ByteArray)).size + ((zak l0_1 x17_1).f1).size ≤ 9223372036854775807 then (if ((((zak l0_1 x17_1).f0) ++ (⟨#[58, 32]⟩ : ByteArray)) ++ ((zak l0_1 x17_1).f1)).size + 2 ≤ 9223372036854775807 then (if x4_1.size + (((((zak l0_1 x17_1).f0) ++ (⟨#[58, 32]⟩ : ByteArray)) ++ ((zak l0_1 x17_1).f1)) ++ (⟨#[13, 10]⟩ : ByteArray)).size ≤ 9223372036854775807 then (zaz.l0 k1 (x4_1 ++ (((((zak l0_1 x17_1).f0) ++ (⟨#[58, 32]⟩ : ByteArray)) ++ ((zak l0_1 x17_1).f1)) ++ (⟨#[13, 10]⟩ : ByteArray))) l0_1 (l0_1.length : Int) (wrap64 (x17_1 + 1)) a0_0 l0_1 a0_2) else (none)) else (none)) else (none)) else (none)) = some (r1, r2) := by rw [if_neg (show ¬ (false = true) by decide)] at H; exact H
             clear H
             have H := H1
             clear H1
             by_cases c40 : ((zak l0_1 x17_1).f0).size + 2 ≤ 9223372036854775807
             ·rw [if_pos c40] at H
              have c40b0 := eq_true c40
              have c40b1 := decide_eq_true c40
              try have c40b2 := eq_false (Nat.not_lt.2 c40)
              by_cases c41 : (((zak l0_1 x17_1).f0) ++ (⟨#[58, 32]⟩ : ByteArray)).size + ((zak l0_1 x17_1).f1).size ≤ 9223372036854775807
              ·rw [if_pos c41] at H
               have c41e := c41
               (try simp only [ByteArray.size_append, gt_iff_lt, ge_iff_le, show (⟨#[58, 32]⟩ : ByteArray).size = 2 from rfl] at c41e)
               (try simp only [Int.natCast_add, Int.cast_ofNat_Int] at c41e)
               (try (have c41e2 := decide_eq_true c41e))
               (try replace c41e := eq_true c41e)
               have c41b0 := eq_true c41
               have c41b1 := decide_eq_true c41
               try have c41b2 := eq_false (Nat.not_lt.2 c41)
               have c41b8 : (9223372036854775807 < ((zak l0_1 x17_1).f0).size + 2 + ((zak l0_1 x17_1).f1).size) = False := by have h_ := c41; simp only [ByteArray.size_append] at h_; exact eq_false (Nat.not_lt.2 h_)
               by_cases c42 : ((((zak l0_1 x17_1).f0) ++ (⟨#[58, 32]⟩ : ByteArray)) ++ ((zak l0_1 x17_1).f1)).size + 2 ≤ 9223372036854775807
               ·rw [if_pos c42] at H
                have c42e := c42
                (try simp only [ByteArray.size_append, gt_iff_lt, ge_iff_le, show (⟨#[58, 32]⟩ : ByteArray).size = 2 from rfl] at c42e)
                (try simp only [Int.natCast_add, Int.cast_ofNat_Int] at c42e)
                (try (have c42e2 := decide_eq_true c42e))
                (try replace c42e := eq_true c42e)
                have c42b0 := eq_true c42
                have c42b1 := decide_eq_true c42
                try have c42b2 := eq_false (Nat.not_lt.2 c42)
                have c42b8 : (9223372036854775807 < ((zak l0_1 x17_1).f0).size + 2 + ((zak l0_1 x17_1).f1).size + 2) = False := by have h_ := c42; simp only [ByteArray.size_append] at h_; exact eq_false (Nat.not_lt.2 h_)
                by_cases c43 : x4_1.size + (((((zak l0_1 x17_1).f0) ++ (⟨#[58, 32]⟩ : ByteArray)) ++ ((zak l0_1 x17_1).f1)) ++ (⟨#[13, 10]⟩ : ByteArray)).size ≤ 9223372036854775807
                ·rw [if_pos c43] at H
                 have c43e := c43
                 (try simp only [ByteArray.size_append, gt_iff_lt, ge_iff_le, show (⟨#[13, 10]⟩ : ByteArray).size = 2 from rfl, show (⟨#[58, 32]⟩ : ByteArray).size = 2 from rfl] at c43e)
                 (try simp only [Int.natCast_add, Int.cast_ofNat_Int] at c43e)
                 (try (have c43e2 := decide_eq_true c43e))
                 (try replace c43e := eq_true c43e)
                 have c43b0 := eq_true c43
                 have c43b1 := decide_eq_true c43
                 try have c43b2 := eq_false (Nat.not_lt.2 c43)
                 have c43b8 : (9223372036854775807 < x4_1.size + (((zak l0_1 x17_1).f0).size + 2 + ((zak l0_1 x17_1).f1).size + 2)) = False := by have h_ := c43; simp only [ByteArray.size_append] at h_; exact eq_false (Nat.not_lt.2 h_)
                 have H' := Aside0.mk H
                 clear H
                 have p162 : 0 ≤ (x17_1 : Int) := of_decide_eq_true (by first | (with_reducible assumption) | assumption)
                 have q162 : x17_1 < (l0_1.length : Int) := of_decide_eq_true (by first | (with_reducible assumption) | assumption)
                 obtain ⟨ad162, e162, hx162_0, hx162_1⟩ := zdg HR0_1.out x17_1 p162 q162
                 cases e162
                 replace hx162_0 := (HB.out.cell (World.block_lt_of_cell? w _ hx162_0)).trans hx162_0
                 replace hx162_1 := (HB.out.cell (World.block_lt_of_cell? w _ hx162_1)).trans hx162_1
                 replace p162 := eq_true p162
                 replace q162 := eq_true q162
                 try go_wp2_with (first | ((with_reducible refine zbj (N := 6) rfl ?_); (try (refine zbi (by rfl) ?_; dsimp only)); refine zbf ?hg (N := 6) ?hd (cs := #[.string ⟨#[]⟩, .string ⟨#[]⟩]) (t := 62) ?hr ?_; (case hd => rfl); (case hg => rfl); (case hr => first | (go_simp; done) | (go_simp; rfl)); intro gb163 hg w44 hbox hb; have n0_ := Aside0.mk (zao (g := gb160) (o := .cells #[.string a0_0, .slice (some ad162) l0_1.length c0_1, .string a0_2] 50 (0, 0)) (by (with_reducible repeat (first | refine zae ?_ _ | refine zag ?_ | refine zaf ?_ _)); exact BK160.out) hb); have n1_ := Aside0.mk (zam (by repeat (first | (with_reducible first | exact HB.out | apply zac | apply zaa | apply zab | refine zad ?_ GE160.out) | exact HB.out)) hb); have n2_ := Aside0.mk (hbox); have n3_ := Aside0.mk ((by rw [hg]; exact (zan (by repeat (first | (with_reducible first | exact HB.out | apply zac | apply zaa | apply zab | refine zad ?_ GE160.out) | exact HB.out))) : w.heap.size ≤ gb163)); have n4_ := Aside0.mk ((by rw [hg]; exact (zan (by repeat (first | (with_reducible first | exact HB.out | apply zac | apply zaa | apply zab | refine zad ?_ GE160.out) | exact HB.out))) : w.heap.size ≤ gb163)); have n5_ := Aside0.mk ((by rw [hg]; exact Nat.ne_of_lt (zbv (g := gb160) (o := .cells #[.string a0_0, .slice (some ad162) l0_1.length c0_1, .string a0_2] 50 (0, 0)) (by (with_reducible repeat (first | refine zae ?_ _ | refine zag ?_ | refine zaf ?_ _)); exact BK160.out)) : gb160 ≠ gb163)); have n6_ := Aside0.mk ((by rw [hg]; exact Nat.ne_of_gt (zbv (g := gb160) (o := .cells #[.string a0_0, .slice (some ad162) l0_1.length c0_1, .string a0_2] 50 (0, 0)) (by (with_reducible repeat (first | refine zae ?_ _ | refine zag ?_ | refine zaf ?_ _)); exact BK160.out)) : gb163 ≠ gb160)); clear BK160; clear HB; have BK160 := n0_; have HB := n1_; have BK163 := n2_; have GW163 := n3_; have GE163 := n4_; have NB160_163 := n5_; have NB163_160 := n6_; clear n0_ n1_ n2_ n3_ n4_ n5_ n6_; clear hb hbox hg; have hnb45 := NB163_160.out; have hnc45 := NB160_163.out; have hcz46_0 : w44.cell? ⟨gb163, 0, none⟩ = some (.string ⟨#[]⟩) := (zah BK163.out 0).trans rfl; have hcz46_1 : w44.cell? ⟨gb163, 1, none⟩ = some (.string ⟨#[]⟩) := (zah BK163.out 1).trans rfl; have hfz46_0 := zai BK163.out 0; have hfz46_1 := zai BK163.out 1))
                 have n0_ : Aside0 (((w44.setCell ⟨gb163, 0, none⟩ (.string ((zak l0_1 x17_1).f0))).setCell ⟨gb163, 1, none⟩ (.string ((zak l0_1 x17_1).f1))).heap[gb160]? = some (.cells #[.string a0_0, .slice (some ad162) l0_1.length c0_1, .string a0_2] 50 (0, 0))) := ⟨by (with_reducible repeat (first | refine zae ?_ _ | refine zag ?_ | refine zaf ?_ _)); refine zbx ?_ NB160_163.out _; (with_reducible repeat (first | refine zae ?_ _ | refine zag ?_ | refine zaf ?_ _)); refine zbx ?_ NB160_163.out _; (with_reducible repeat (first | refine zae ?_ _ | refine zag ?_ | refine zaf ?_ _)); exact BK160.out⟩
                 have n1_ : Aside0 (((w44.setCell ⟨gb163, 0, none⟩ (.string ((zak l0_1 x17_1).f0))).setCell ⟨gb163, 1, none⟩ (.string ((zak l0_1 x17_1).f1))).heap[gb163]? = some (.cells #[.string ((zak l0_1 x17_1).f0), .string ((zak l0_1 x17_1).f1)] 62 (0, 0))) := ⟨by (with_reducible repeat (first | refine zae ?_ _ | refine zag ?_ | refine zaf ?_ _)); refine zav (cs := #[.string ((zak l0_1 x17_1).f0), .string ⟨#[]⟩]) ?_ 1 _ rfl; (with_reducible repeat (first | refine zae ?_ _ | refine zag ?_ | refine zaf ?_ _)); refine zav (cs := #[.string ⟨#[]⟩, .string ⟨#[]⟩]) ?_ 0 _ rfl; (with_reducible repeat (first | refine zae ?_ _ | refine zag ?_ | refine zaf ?_ _)); exact BK163.out⟩
                 have n2_ : Aside0 (Below w.heap.size w ((w44.setCell ⟨gb163, 0, none⟩ (.string ((zak l0_1 x17_1).f0))).setCell ⟨gb163, 1, none⟩ (.string ((zak l0_1 x17_1).f1)))) := ⟨by repeat (first | (with_reducible first | exact HB.out | apply zac | apply zaa | apply zab | refine zad ?_ GE160.out | refine zad ?_ GE163.out) | exact HB.out)⟩
                 (try clear BK160)
                 (try clear BK163)
                 (try clear HB)
                 generalize ((w44.setCell ⟨gb163, 0, none⟩ (.string ((zak l0_1 x17_1).f0))).setCell ⟨gb163, 1, none⟩ (.string ((zak l0_1 x17_1).f1))) = w47 at n0_ n1_ n2_ ⊢
                 have BK160 := n0_
                 have BK163 := n1_
                 have HB := n2_
                 clear n0_ n1_ n2_
                 have n0_ := Aside0.mk (zag BK160.out)
                 have n1_ := Aside0.mk (zag BK163.out)
                 have n2_ := Aside0.mk (zab HB.out)
                 clear BK160
                 clear BK163
                 clear HB
                 have BK160 := n0_
                 have BK163 := n1_
                 have HB := n2_
                 clear n0_ n1_ n2_
                 refine zda (n := 28) (S := fun w' => w'.cell? ⟨gb163, 0, none⟩ = some (.string ((zak l0_1 x17_1).f0)) ∧ w'.cell? ⟨gb163, 1, none⟩ = some (.string ((zak l0_1 x17_1).f1))) (ds := []) (bm 28 0) (by kernel_rfl) rfl rfl ⟨(zah BK163.out 0).trans rfl, (zah BK163.out 1).trans rfl⟩ (fun hHeld => ?_); refine zci zaz.tab7 zaz.bits7 (fun HT_ HW_ => ?_)
                 generalize w47.drew = w48 at BK160 BK163 HB hHeld ⊢
                 refine pv_ HT_ 0 (bm 28 1) ?_
                 refine zcn (i := 1) (N := some 22) (v := ?_) (a' := ?_) (bm 28 3) rfl rfl (zbk HT_.out HW_.out (by kernel_rfl)) (fun _ _ _ h => h) (Or.inl ⟨by rfl, ?_⟩) hHeld ?_ ?_
                 rotate_left
                 ·rintro w' ⟨s0, s1⟩
                  go_simp
                  with_reducible rfl
                 rotate_left
                 ·simp only [Act.put, List.setIfInBounds_toArray, List.set_cons_zero, List.set_cons_succ, zbq, zbs]
                  rfl
                 refine one_ (i := 2) (N := some 23) (bm 28 7) rfl rfl (zcg HT_.out (by kernel_rfl)) (by decide) (fun K hK => ?_)
                 refine zcw Tryz.func41 (by kernel_rfl) rfl #[.string ((zak l0_1 x17_1).f0)] (by rfl) rfl rfl (by (try simp only [List.map_toArray, List.map_cons, List.map_nil]); first | done | rfl | (simp only [List.length_drop, List.length_take]; rfl)) ?_
                 with_reducible refine (zct.calls ((zak l0_1 x17_1).f0) true _ ?side1 A11.out).mono ?_
                 (case side1 => exact LaidM.below HT.out (by repeat (first | (with_reducible first | exact HB.out | apply zac | apply zaa | apply zab | refine zad ?_ GE160.out | refine zad ?_ GE163.out) | exact HB.out)))
                 rintro e w49 ⟨rfl, hb⟩
                 refine ⟨_, rfl, ?_⟩
                 have n0_ := Aside0.mk (zao (g := gb160) (o := .cells #[.string a0_0, .slice (some ad162) l0_1.length c0_1, .string a0_2] 50 (0, 0)) (by (with_reducible repeat (first | refine zae ?_ _ | refine zag ?_ | refine zaf ?_ _)); exact BK160.out) hb)
                 have n1_ := Aside0.mk (zao (g := gb163) (o := .cells #[.string ((zak l0_1 x17_1).f0), .string ((zak l0_1 x17_1).f1)] 62 (0, 0)) (by (with_reducible repeat (first | refine zae ?_ _ | refine zag ?_ | refine zaf ?_ _)); exact BK163.out) hb)
                 have n2_ := Aside0.mk (zam (by repeat (first | (with_reducible first | exact HB.out | apply zac | apply zaa | apply zab | refine zad ?_ GE160.out | refine zad ?_ GE163.out) | exact HB.out)) hb)
                 clear BK160
                 clear BK163
                 clear HB
                 have BK160 := n0_
                 have BK163 := n1_
                 have HB := n2_
                 clear n0_ n1_ n2_
                 (try clear hb)
                 (try clear hb2)
                 (try clear hk)
                 (try clear hi)
                 refine hK.out _ _ ⟨(zah BK163.out 0).trans rfl, (zah BK163.out 1).trans rfl⟩ (fun hHeld => ?_)
                 clear hK K
                 refine zcv (a' := ?_) ?_ ?_
                 rotate_left
                 ·show Act.put _ (some 23) _ = _
                  simp only [Act.put, List.setIfInBounds_toArray, List.set_cons_zero, List.set_cons_succ, zbq, zbs]
                  rfl
                 refine pv_ HT_ 3 (bm 28 15) ?_
                 refine pv_ HT_ 4 (bm 28 31) ?_
                 refine pv_ HT_ 5 (bm 28 63) ?_
                 refine zcn (i := 6) (N := some 27) (v := ?_) (a' := ?_) (bm 28 127) rfl rfl (zbk HT_.out HW_.out (by kernel_rfl)) (fun _ _ _ h => h) (Or.inl ⟨by rfl, ?_⟩) hHeld ?_ ?_
                 rotate_left
                 ·rintro w' ⟨s0, s1⟩
                  go_simp
                  with_reducible rfl
                 rotate_left
                 ·simp only [Act.put, List.setIfInBounds_toArray, List.set_cons_zero, List.set_cons_succ, zbq, zbs]
                  rfl
                 refine one_ (i := 7) (N := some 28) (bm 28 255) rfl rfl (zcg HT_.out (by kernel_rfl)) (by decide) (fun K hK => ?_)
                 refine zcw Tryz.func42 (by kernel_rfl) rfl #[.string ((zak l0_1 x17_1).f1)] (by rfl) rfl rfl (by (try simp only [List.map_toArray, List.map_cons, List.map_nil]); first | done | rfl | (simp only [List.length_drop, List.length_take]; rfl)) ?_
                 with_reducible refine (zbt.calls k1 ((zak l0_1 x17_1).f1) true _ ?side1 A13.out).mono ?_
                 (case side1 => exact LaidM.below HT.out (by repeat (first | (with_reducible first | exact HB.out | apply zac | apply zaa | apply zab | refine zad ?_ GE160.out | refine zad ?_ GE163.out) | exact HB.out)))
                 rintro e w50 ⟨rfl, hb⟩
                 refine ⟨_, rfl, ?_⟩
                 have n0_ := Aside0.mk (zao (g := gb160) (o := .cells #[.string a0_0, .slice (some ad162) l0_1.length c0_1, .string a0_2] 50 (0, 0)) (by (with_reducible repeat (first | refine zae ?_ _ | refine zag ?_ | refine zaf ?_ _)); exact BK160.out) hb)
                 have n1_ := Aside0.mk (zao (g := gb163) (o := .cells #[.string ((zak l0_1 x17_1).f0), .string ((zak l0_1 x17_1).f1)] 62 (0, 0)) (by (with_reducible repeat (first | refine zae ?_ _ | refine zag ?_ | refine zaf ?_ _)); exact BK163.out) hb)
                 have n2_ := Aside0.mk (zam (by repeat (first | (with_reducible first | exact HB.out | apply zac | apply zaa | apply zab | refine zad ?_ GE160.out | refine zad ?_ GE163.out) | exact HB.out)) hb)
                 clear BK160
                 clear BK163
                 clear HB
                 have BK160 := n0_
                 have BK163 := n1_
                 have HB := n2_
                 clear n0_ n1_ n2_
                 (try clear hb)
                 (try clear hb2)
                 (try clear hk)
                 (try clear hi)
                 refine hK.out _ _ ⟨(zah BK163.out 0).trans rfl, (zah BK163.out 1).trans rfl⟩ (fun hHeld => ?_)
                 clear hK K
                 refine zcv (a' := ?_) ?_ ?_
                 rotate_left
                 ·show Act.put _ (some 28) _ = _
                  simp only [Act.put, List.setIfInBounds_toArray, List.set_cons_zero, List.set_cons_succ, zbq, zbs]
                  rfl
                 refine pv_ HT_ 8 (bm 28 511) ?_
                 refine pv_ HT_ 9 (bm 28 1023) ?_
                 refine pv_ HT_ 10 (bm 28 2047) ?_
                 refine pv_ HT_ 11 (bm 28 4095) ?_
                 refine pv_ HT_ 14 (bm 28 20479) ?_
                 refine zcn (i := 12) (N := some 33) (v := ?_) (a' := ?_) (bm 28 24575) rfl rfl (zbk HT_.out HW_.out (by kernel_rfl)) (fun _ _ _ h => h) (Or.inl ⟨by rfl, ?_⟩) hHeld ?_ ?_
                 rotate_left
                 ·rintro w' ⟨s0, s1⟩
                  go_simp
                  with_reducible rfl
                 rotate_left
                 ·simp only [Act.put, List.setIfInBounds_toArray, List.set_cons_zero, List.set_cons_succ, zbq, zbs]
                  rfl
                 refine zcn (i := 15) (N := some 36) (v := ?_) (a' := ?_) (bm 28 57343) rfl rfl (zbk HT_.out HW_.out (by kernel_rfl)) (fun _ _ _ h => h) (Or.inl ⟨by rfl, ?_⟩) hHeld ?_ ?_
                 rotate_left
                 ·rintro w' ⟨s0, s1⟩
                  go_simp
                  with_reducible rfl
                 rotate_left
                 ·simp only [Act.put, List.setIfInBounds_toArray, List.set_cons_zero, List.set_cons_succ, zbq, zbs]
                  rfl
                 refine one_ (i := 13) (N := some 34) (bm 28 65535) rfl rfl (zcg HT_.out (by kernel_rfl)) (by decide) (fun K hK => ?_)
                 refine zcw Tryz.func39 (by kernel_rfl) rfl #[.string ((zak l0_1 x17_1).f1), .string (⟨#[32, 9]⟩ : ByteArray)] (by rfl) rfl rfl (by (try simp only [List.map_toArray, List.map_cons, List.map_nil]); first | done | rfl | (simp only [List.length_drop, List.length_take]; rfl)) ?_
                 with_reducible refine (zcj.calls ((zak l0_1 x17_1).f1) (⟨#[32, 9]⟩ : ByteArray) t166 _ ?side1 A15.out).mono ?_
                 (case side1 => exact LaidM.below HT.out (by repeat (first | (with_reducible first | exact HB.out | apply zac | apply zaa | apply zab | refine zad ?_ GE160.out | refine zad ?_ GE163.out) | exact HB.out)))
                 rintro e w51 ⟨rfl, hb⟩
                 refine ⟨_, rfl, ?_⟩
                 have n0_ := Aside0.mk (zao (g := gb160) (o := .cells #[.string a0_0, .slice (some ad162) l0_1.length c0_1, .string a0_2] 50 (0, 0)) (by (with_reducible repeat (first | refine zae ?_ _ | refine zag ?_ | refine zaf ?_ _)); exact BK160.out) hb)
                 have n1_ := Aside0.mk (zao (g := gb163) (o := .cells #[.string ((zak l0_1 x17_1).f0), .string ((zak l0_1 x17_1).f1)] 62 (0, 0)) (by (with_reducible repeat (first | refine zae ?_ _ | refine zag ?_ | refine zaf ?_ _)); exact BK163.out) hb)
                 have n2_ := Aside0.mk (zam (by repeat (first | (with_reducible first | exact HB.out | apply zac | apply zaa | apply zab | refine zad ?_ GE160.out | refine zad ?_ GE163.out) | exact HB.out)) hb)
                 clear BK160
                 clear BK163
                 clear HB
                 have BK160 := n0_
                 have BK163 := n1_
                 have HB := n2_
                 clear n0_ n1_ n2_
                 (try clear hb)
                 (try clear hb2)
                 (try clear hk)
                 (try clear hi)
                 refine hK.out _ _ ⟨(zah BK163.out 0).trans rfl, (zah BK163.out 1).trans rfl⟩ (fun hHeld => ?_)
                 clear hK K
                 refine zcv (a' := ?_) ?_ ?_
                 rotate_left
                 ·show Act.put _ (some 34) _ = _
                  simp only [Act.put, List.setIfInBounds_toArray, List.set_cons_zero, List.set_cons_succ, zbq, zbs]
                  rfl
                 refine pv_ HT_ 16 (bm 28 131071) ?_
                 refine pv_ HT_ 17 (bm 28 262143) ?_
                 refine pv_ HT_ 18 (bm 28 524287) ?_
                 refine pv_ HT_ 19 (bm 28 1048575) ?_
                 refine zcn (i := 20) (N := some 41) (v := ?_) (a' := ?_) (bm 28 2097151) rfl rfl (zbk HT_.out HW_.out (by kernel_rfl)) (fun _ _ _ h => h) (Or.inl ⟨by rfl, ?_⟩) hHeld ?_ ?_
                 rotate_left
                 ·rintro w' ⟨s0, s1⟩
                  go_simp
                  with_reducible rfl
                 rotate_left
                 ·simp only [Act.put, List.setIfInBounds_toArray, List.set_cons_zero, List.set_cons_succ, zbq, zbs]
                  rfl
                 refine one_ (i := 21) (N := some 42) (bm 28 4194303) rfl rfl (zcg HT_.out (by kernel_rfl)) (by decide) (fun K hK => ?_)
                 refine zcw Tryz.func43 (by kernel_rfl) rfl #[.string ((zak l0_1 x17_1).f0), .string (⟨#[67, 111, 110, 116, 101, 110, 116, 45, 76, 101, 110, 103, 116, 104]⟩ : ByteArray)] (by rfl) rfl rfl (by (try simp only [List.map_toArray, List.map_cons, List.map_nil]); first | done | rfl | (simp only [List.length_drop, List.length_take]; rfl)) ?_
                 with_reducible refine (zce.calls ((zak l0_1 x17_1).f0) (⟨#[67, 111, 110, 116, 101, 110, 116, 45, 76, 101, 110, 103, 116, 104]⟩ : ByteArray) false _ ?side1 A17.out).mono ?_
                 (case side1 => exact LaidM.below HT.out (by repeat (first | (with_reducible first | exact HB.out | apply zac | apply zaa | apply zab | refine zad ?_ GE160.out | refine zad ?_ GE163.out) | exact HB.out)))
                 rintro e w52 ⟨rfl, hb⟩
                 refine ⟨_, rfl, ?_⟩
                 have n0_ := Aside0.mk (zao (g := gb160) (o := .cells #[.string a0_0, .slice (some ad162) l0_1.length c0_1, .string a0_2] 50 (0, 0)) (by (with_reducible repeat (first | refine zae ?_ _ | refine zag ?_ | refine zaf ?_ _)); exact BK160.out) hb)
                 have n1_ := Aside0.mk (zao (g := gb163) (o := .cells #[.string ((zak l0_1 x17_1).f0), .string ((zak l0_1 x17_1).f1)] 62 (0, 0)) (by (with_reducible repeat (first | refine zae ?_ _ | refine zag ?_ | refine zaf ?_ _)); exact BK163.out) hb)
                 have n2_ := Aside0.mk (zam (by repeat (first | (with_reducible first | exact HB.out | apply zac | apply zaa | apply zab | refine zad ?_ GE160.out | refine zad ?_ GE163.out) | exact HB.out)) hb)
                 clear BK160
                 clear BK163
                 clear HB
                 have BK160 := n0_
                 have BK163 := n1_
                 have HB := n2_
                 clear n0_ n1_ n2_
                 (try clear hb)
                 (try clear hb2)
                 (try clear hk)
                 (try clear hi)
                 refine hK.out _ _ ⟨(zah BK163.out 0).trans rfl, (zah BK163.out 1).trans rfl⟩ (fun hHeld => ?_)
                 clear hK K
                 refine zcv (a' := ?_) ?_ ?_
                 rotate_left
                 ·show Act.put _ (some 42) _ = _
                  simp only [Act.put, List.setIfInBounds_toArray, List.set_cons_zero, List.set_cons_succ, zbq, zbs]
                  rfl
                 refine pv_ HT_ 22 (bm 28 8388607) ?_
                 refine pv_ HT_ 23 (bm 28 16777215) ?_
                 refine pv_ HT_ 24 (bm 28 33554431) ?_
                 refine zcn (i := 25) (N := some 46) (v := ?_) (a' := ?_) (bm 28 67108863) rfl rfl (zbk HT_.out HW_.out (by kernel_rfl)) (fun _ _ _ h => h) (Or.inl ⟨by rfl, ?_⟩) hHeld ?_ ?_
                 rotate_left
                 ·rintro w' ⟨s0, s1⟩
                  go_simp
                  with_reducible rfl
                 rotate_left
                 ·simp only [Act.put, List.setIfInBounds_toArray, List.set_cons_zero, List.set_cons_succ, zbq, zbs]
                  rfl
                 refine one_ (i := 26) (N := some 47) (bm 28 134217727) rfl rfl (zcg HT_.out (by kernel_rfl)) (by decide) (fun K hK => ?_)
                 refine zcw Tryz.func43 (by kernel_rfl) rfl #[.string ((zak l0_1 x17_1).f0), .string (⟨#[84, 114, 97, 110, 115, 102, 101, 114, 45, 69, 110, 99, 111, 100, 105, 110, 103]⟩ : ByteArray)] (by rfl) rfl rfl (by (try simp only [List.map_toArray, List.map_cons, List.map_nil]); first | done | rfl | (simp only [List.length_drop, List.length_take]; rfl)) ?_
                 with_reducible refine (zce.calls ((zak l0_1 x17_1).f0) (⟨#[84, 114, 97, 110, 115, 102, 101, 114, 45, 69, 110, 99, 111, 100, 105, 110, 103]⟩ : ByteArray) false _ ?side1 A28.out).mono ?_
                 (case side1 => exact LaidM.below HT.out (by repeat (first | (with_reducible first | exact HB.out | apply zac | apply zaa | apply zab | refine zad ?_ GE160.out | refine zad ?_ GE163.out) | exact HB.out)))
                 rintro e w53 ⟨rfl, hb⟩
                 refine ⟨_, rfl, ?_⟩
                 have n0_ := Aside0.mk (zao (g := gb160) (o := .cells #[.string a0_0, .slice (some ad162) l0_1.length c0_1, .string a0_2] 50 (0, 0)) (by (with_reducible repeat (first | refine zae ?_ _ | refine zag ?_ | refine zaf ?_ _)); exact BK160.out) hb)
                 have n1_ := Aside0.mk (zao (g := gb163) (o := .cells #[.string ((zak l0_1 x17_1).f0), .string ((zak l0_1 x17_1).f1)] 62 (0, 0)) (by (with_reducible repeat (first | refine zae ?_ _ | refine zag ?_ | refine zaf ?_ _)); exact BK163.out) hb)
                 have n2_ := Aside0.mk (zam (by repeat (first | (with_reducible first | exact HB.out | apply zac | apply zaa | apply zab | refine zad ?_ GE160.out | refine zad ?_ GE163.out) | exact HB.out)) hb)
                 clear BK160
                 clear BK163
                 clear HB
                 have BK160 := n0_
                 have BK163 := n1_
                 have HB := n2_
                 clear n0_ n1_ n2_
                 (try clear hb)
                 (try clear hb2)
                 (try clear hk)
                 (try clear hi)
                 refine hK.out _ _ ⟨(zah BK163.out 0).trans rfl, (zah BK163.out 1).trans rfl⟩ (fun hHeld => ?_)
                 clear hK K
                 refine zcv (a' := ?_) ?_ ?_
                 rotate_left
                 ·show Act.put _ (some 47) _ = _
                  simp only [Act.put, List.setIfInBounds_toArray, List.set_cons_zero, List.set_cons_succ, zbq, zbs]
                  rfl
                 refine pv_ HT_ 27 (bm 28 268435455) ?_
                 refine zdu (zcu HT_.out (by kernel_rfl)) ?_
                 have hcz54_0 : w53.cell? ⟨gb163, 0, none⟩ = some (.string ((zak l0_1 x17_1).f0)) := (zah BK163.out 0).trans rfl
                 have hcz54_1 : w53.cell? ⟨gb163, 1, none⟩ = some (.string ((zak l0_1 x17_1).f1)) := (zah BK163.out 1).trans rfl
                 have hfz54_0 := zai BK163.out 0
                 have hfz54_1 := zai BK163.out 1
                 try go_wp2
                 go_roundg k1
                 case measure => have := HK1.out; omega
                 case rel => exact ⟨(x4_1 ++ (((((zak l0_1 x17_1).f0) ++ (⟨#[58, 32]⟩ : ByteArray)) ++ ((zak l0_1 x17_1).f1)) ++ (⟨#[13, 10]⟩ : ByteArray))), (wrap64 (x17_1 + 1)), (by first | rfl | (simp; done) | (simp [*]; done)), (by first | rfl | (simp; done) | (simp [*]; done)), H', ⟨by have := HK1.out; omega⟩, ⟨by (with_reducible repeat (first | refine zae ?_ _ | refine zag ?_ | refine zaf ?_ _)); exact BK160.out⟩, ⟨by repeat (first | (with_reducible first | exact HB.out | apply zac | apply zaa | apply zab | refine zad ?_ GE160.out | refine zad ?_ GE163.out) | exact HB.out)⟩⟩
                ·rw [if_neg c43] at H
                 have c43e := c43
                 (try simp only [ByteArray.size_append, gt_iff_lt, ge_iff_le, show (⟨#[13, 10]⟩ : ByteArray).size = 2 from rfl, show (⟨#[58, 32]⟩ : ByteArray).size = 2 from rfl] at c43e)
                 (try simp only [Int.natCast_add, Int.cast_ofNat_Int] at c43e)
                 (try (have c43e2 := decide_eq_false c43e))
                 (try replace c43e := eq_false c43e)
                 exact absurd H (by simp)
               ·rw [if_neg c42] at H
                have c42e := c42
                (try simp only [ByteArray.size_append, gt_iff_lt, ge_iff_le, show (⟨#[58, 32]⟩ : ByteArray).size = 2 from rfl] at c42e)
                (try simp only [Int.natCast_add, Int.cast_ofNat_Int] at c42e)
                (try (have c42e2 := decide_eq_false c42e))
                (try replace c42e := eq_false c42e)
                exact absurd H (by simp)
              ·rw [if_neg c41] at H
               have c41e := c41
               (try simp only [ByteArray.size_append, gt_iff_lt, ge_iff_le, show (⟨#[58, 32]⟩ : ByteArray).size = 2 from rfl] at c41e)
               (try simp only [Int.natCast_add, Int.cast_ofNat_Int] at c41e)
               (try (have c41e2 := decide_eq_false c41e))
               (try replace c41e := eq_false c41e)
               exact absurd H (by simp)
             ·rw [if_neg c40] at H
              exact absurd H (by simp)
          ·rw [if_neg c16] at H
           have c16b0 : (t166.toList == ((zak l0_1 x17_1).f1).toList) = false := beq_eq_false_iff_ne.mpr c16
           have c16b1 : (t166.toList != ((zak l0_1 x17_1).f1).toList) = true := bne_iff_ne.mpr c16
           simp only [Option.some.injEq, Prod.mk.injEq] at H
           obtain ⟨rfl, rfl⟩ := H
           have p162 : 0 ≤ (x17_1 : Int) := of_decide_eq_true (by first | (with_reducible assumption) | assumption)
           have q162 : x17_1 < (l0_1.length : Int) := of_decide_eq_true (by first | (with_reducible assumption) | assumption)
           obtain ⟨ad162, e162, hx162_0, hx162_1⟩ := zdg HR0_1.out x17_1 p162 q162
           cases e162
           replace hx162_0 := (HB.out.cell (World.block_lt_of_cell? w _ hx162_0)).trans hx162_0
           replace hx162_1 := (HB.out.cell (World.block_lt_of_cell? w _ hx162_1)).trans hx162_1
           replace p162 := eq_true p162
           replace q162 := eq_true q162
           try go_wp2_with (first | ((with_reducible refine zbj (N := 6) rfl ?_); (try (refine zbi (by rfl) ?_; dsimp only)); refine zbf ?hg (N := 6) ?hd (cs := #[.string ⟨#[]⟩, .string ⟨#[]⟩]) (t := 62) ?hr ?_; (case hd => rfl); (case hg => rfl); (case hr => first | (go_simp; done) | (go_simp; rfl)); intro gb163 hg w55 hbox hb; have n0_ := Aside0.mk (zao (g := gb160) (o := .cells #[.string a0_0, .slice (some ad162) l0_1.length c0_1, .string a0_2] 50 (0, 0)) (by (with_reducible repeat (first | refine zae ?_ _ | refine zag ?_ | refine zaf ?_ _)); exact BK160.out) hb); have n1_ := Aside0.mk (zam (by repeat (first | (with_reducible first | exact HB.out | apply zac | apply zaa | apply zab | refine zad ?_ GE160.out) | exact HB.out)) hb); have n2_ := Aside0.mk (hbox); have n3_ := Aside0.mk ((by rw [hg]; exact (zan (by repeat (first | (with_reducible first | exact HB.out | apply zac | apply zaa | apply zab | refine zad ?_ GE160.out) | exact HB.out))) : w.heap.size ≤ gb163)); have n4_ := Aside0.mk ((by rw [hg]; exact (zan (by repeat (first | (with_reducible first | exact HB.out | apply zac | apply zaa | apply zab | refine zad ?_ GE160.out) | exact HB.out))) : w.heap.size ≤ gb163)); have n5_ := Aside0.mk ((by rw [hg]; exact Nat.ne_of_lt (zbv (g := gb160) (o := .cells #[.string a0_0, .slice (some ad162) l0_1.length c0_1, .string a0_2] 50 (0, 0)) (by (with_reducible repeat (first | refine zae ?_ _ | refine zag ?_ | refine zaf ?_ _)); exact BK160.out)) : gb160 ≠ gb163)); have n6_ := Aside0.mk ((by rw [hg]; exact Nat.ne_of_gt (zbv (g := gb160) (o := .cells #[.string a0_0, .slice (some ad162) l0_1.length c0_1, .string a0_2] 50 (0, 0)) (by (with_reducible repeat (first | refine zae ?_ _ | refine zag ?_ | refine zaf ?_ _)); exact BK160.out)) : gb163 ≠ gb160)); clear BK160; clear HB; have BK160 := n0_; have HB := n1_; have BK163 := n2_; have GW163 := n3_; have GE163 := n4_; have NB160_163 := n5_; have NB163_160 := n6_; clear n0_ n1_ n2_ n3_ n4_ n5_ n6_; clear hb hbox hg; have hnb56 := NB163_160.out; have hnc56 := NB160_163.out; have hcz57_0 : w55.cell? ⟨gb163, 0, none⟩ = some (.string ⟨#[]⟩) := (zah BK163.out 0).trans rfl; have hcz57_1 : w55.cell? ⟨gb163, 1, none⟩ = some (.string ⟨#[]⟩) := (zah BK163.out 1).trans rfl; have hfz57_0 := zai BK163.out 0; have hfz57_1 := zai BK163.out 1))
           have n0_ : Aside0 (((w55.setCell ⟨gb163, 0, none⟩ (.string ((zak l0_1 x17_1).f0))).setCell ⟨gb163, 1, none⟩ (.string ((zak l0_1 x17_1).f1))).heap[gb160]? = some (.cells #[.string a0_0, .slice (some ad162) l0_1.length c0_1, .string a0_2] 50 (0, 0))) := ⟨by (with_reducible repeat (first | refine zae ?_ _ | refine zag ?_ | refine zaf ?_ _)); refine zbx ?_ NB160_163.out _; (with_reducible repeat (first | refine zae ?_ _ | refine zag ?_ | refine zaf ?_ _)); refine zbx ?_ NB160_163.out _; (with_reducible repeat (first | refine zae ?_ _ | refine zag ?_ | refine zaf ?_ _)); exact BK160.out⟩
           have n1_ : Aside0 (((w55.setCell ⟨gb163, 0, none⟩ (.string ((zak l0_1 x17_1).f0))).setCell ⟨gb163, 1, none⟩ (.string ((zak l0_1 x17_1).f1))).heap[gb163]? = some (.cells #[.string ((zak l0_1 x17_1).f0), .string ((zak l0_1 x17_1).f1)] 62 (0, 0))) := ⟨by (with_reducible repeat (first | refine zae ?_ _ | refine zag ?_ | refine zaf ?_ _)); refine zav (cs := #[.string ((zak l0_1 x17_1).f0), .string ⟨#[]⟩]) ?_ 1 _ rfl; (with_reducible repeat (first | refine zae ?_ _ | refine zag ?_ | refine zaf ?_ _)); refine zav (cs := #[.string ⟨#[]⟩, .string ⟨#[]⟩]) ?_ 0 _ rfl; (with_reducible repeat (first | refine zae ?_ _ | refine zag ?_ | refine zaf ?_ _)); exact BK163.out⟩
           have n2_ : Aside0 (Below w.heap.size w ((w55.setCell ⟨gb163, 0, none⟩ (.string ((zak l0_1 x17_1).f0))).setCell ⟨gb163, 1, none⟩ (.string ((zak l0_1 x17_1).f1)))) := ⟨by repeat (first | (with_reducible first | exact HB.out | apply zac | apply zaa | apply zab | refine zad ?_ GE160.out | refine zad ?_ GE163.out) | exact HB.out)⟩
           (try clear BK160)
           (try clear BK163)
           (try clear HB)
           generalize ((w55.setCell ⟨gb163, 0, none⟩ (.string ((zak l0_1 x17_1).f0))).setCell ⟨gb163, 1, none⟩ (.string ((zak l0_1 x17_1).f1))) = w58 at n0_ n1_ n2_ ⊢
           have BK160 := n0_
           have BK163 := n1_
           have HB := n2_
           clear n0_ n1_ n2_
           have n0_ := Aside0.mk (zag BK160.out)
           have n1_ := Aside0.mk (zag BK163.out)
           have n2_ := Aside0.mk (zab HB.out)
           clear BK160
           clear BK163
           clear HB
           have BK160 := n0_
           have BK163 := n1_
           have HB := n2_
           clear n0_ n1_ n2_
           refine zda (n := 28) (S := fun w' => w'.cell? ⟨gb163, 0, none⟩ = some (.string ((zak l0_1 x17_1).f0)) ∧ w'.cell? ⟨gb163, 1, none⟩ = some (.string ((zak l0_1 x17_1).f1))) (ds := []) (bm 28 0) (by kernel_rfl) rfl rfl ⟨(zah BK163.out 0).trans rfl, (zah BK163.out 1).trans rfl⟩ (fun hHeld => ?_); refine zci zaz.tab7 zaz.bits7 (fun HT_ HW_ => ?_)
           generalize w58.drew = w59 at BK160 BK163 HB hHeld ⊢
           refine pv_ HT_ 0 (bm 28 1) ?_
           refine zcn (i := 1) (N := some 22) (v := ?_) (a' := ?_) (bm 28 3) rfl rfl (zbk HT_.out HW_.out (by kernel_rfl)) (fun _ _ _ h => h) (Or.inl ⟨by rfl, ?_⟩) hHeld ?_ ?_
           rotate_left
           ·rintro w' ⟨s0, s1⟩
            go_simp
            with_reducible rfl
           rotate_left
           ·simp only [Act.put, List.setIfInBounds_toArray, List.set_cons_zero, List.set_cons_succ, zbq, zbs]
            rfl
           refine one_ (i := 2) (N := some 23) (bm 28 7) rfl rfl (zcg HT_.out (by kernel_rfl)) (by decide) (fun K hK => ?_)
           refine zcw Tryz.func41 (by kernel_rfl) rfl #[.string ((zak l0_1 x17_1).f0)] (by rfl) rfl rfl (by (try simp only [List.map_toArray, List.map_cons, List.map_nil]); first | done | rfl | (simp only [List.length_drop, List.length_take]; rfl)) ?_
           with_reducible refine (zct.calls ((zak l0_1 x17_1).f0) true _ ?side1 A11.out).mono ?_
           (case side1 => exact LaidM.below HT.out (by repeat (first | (with_reducible first | exact HB.out | apply zac | apply zaa | apply zab | refine zad ?_ GE160.out | refine zad ?_ GE163.out) | exact HB.out)))
           rintro e w60 ⟨rfl, hb⟩
           refine ⟨_, rfl, ?_⟩
           have n0_ := Aside0.mk (zao (g := gb160) (o := .cells #[.string a0_0, .slice (some ad162) l0_1.length c0_1, .string a0_2] 50 (0, 0)) (by (with_reducible repeat (first | refine zae ?_ _ | refine zag ?_ | refine zaf ?_ _)); exact BK160.out) hb)
           have n1_ := Aside0.mk (zao (g := gb163) (o := .cells #[.string ((zak l0_1 x17_1).f0), .string ((zak l0_1 x17_1).f1)] 62 (0, 0)) (by (with_reducible repeat (first | refine zae ?_ _ | refine zag ?_ | refine zaf ?_ _)); exact BK163.out) hb)
           have n2_ := Aside0.mk (zam (by repeat (first | (with_reducible first | exact HB.out | apply zac | apply zaa | apply zab | refine zad ?_ GE160.out | refine zad ?_ GE163.out) | exact HB.out)) hb)
           clear BK160
           clear BK163
           clear HB
           have BK160 := n0_
           have BK163 := n1_
           have HB := n2_
           clear n0_ n1_ n2_
           (try clear hb)
           (try clear hb2)
           (try clear hk)
           (try clear hi)
           refine hK.out _ _ ⟨(zah BK163.out 0).trans rfl, (zah BK163.out 1).trans rfl⟩ (fun hHeld => ?_)
           clear hK K
           refine zcv (a' := ?_) ?_ ?_
           rotate_left
           ·show Act.put _ (some 23) _ = _
            simp only [Act.put, List.setIfInBounds_toArray, List.set_cons_zero, List.set_cons_succ, zbq, zbs]
            rfl
           refine pv_ HT_ 3 (bm 28 15) ?_
           refine pv_ HT_ 4 (bm 28 31) ?_
           refine pv_ HT_ 5 (bm 28 63) ?_
           refine zcn (i := 6) (N := some 27) (v := ?_) (a' := ?_) (bm 28 127) rfl rfl (zbk HT_.out HW_.out (by kernel_rfl)) (fun _ _ _ h => h) (Or.inl ⟨by rfl, ?_⟩) hHeld ?_ ?_
           rotate_left
           ·rintro w' ⟨s0, s1⟩
            go_simp
            with_reducible rfl
           rotate_left
           ·simp only [Act.put, List.setIfInBounds_toArray, List.set_cons_zero, List.set_cons_succ, zbq, zbs]
            rfl
           refine one_ (i := 7) (N := some 28) (bm 28 255) rfl rfl (zcg HT_.out (by kernel_rfl)) (by decide) (fun K hK => ?_)
           refine zcw Tryz.func42 (by kernel_rfl) rfl #[.string ((zak l0_1 x17_1).f1)] (by rfl) rfl rfl (by (try simp only [List.map_toArray, List.map_cons, List.map_nil]); first | done | rfl | (simp only [List.length_drop, List.length_take]; rfl)) ?_
           with_reducible refine (zbt.calls k1 ((zak l0_1 x17_1).f1) true _ ?side1 A13.out).mono ?_
           (case side1 => exact LaidM.below HT.out (by repeat (first | (with_reducible first | exact HB.out | apply zac | apply zaa | apply zab | refine zad ?_ GE160.out | refine zad ?_ GE163.out) | exact HB.out)))
           rintro e w61 ⟨rfl, hb⟩
           refine ⟨_, rfl, ?_⟩
           have n0_ := Aside0.mk (zao (g := gb160) (o := .cells #[.string a0_0, .slice (some ad162) l0_1.length c0_1, .string a0_2] 50 (0, 0)) (by (with_reducible repeat (first | refine zae ?_ _ | refine zag ?_ | refine zaf ?_ _)); exact BK160.out) hb)
           have n1_ := Aside0.mk (zao (g := gb163) (o := .cells #[.string ((zak l0_1 x17_1).f0), .string ((zak l0_1 x17_1).f1)] 62 (0, 0)) (by (with_reducible repeat (first | refine zae ?_ _ | refine zag ?_ | refine zaf ?_ _)); exact BK163.out) hb)
           have n2_ := Aside0.mk (zam (by repeat (first | (with_reducible first | exact HB.out | apply zac | apply zaa | apply zab | refine zad ?_ GE160.out | refine zad ?_ GE163.out) | exact HB.out)) hb)
           clear BK160
           clear BK163
           clear HB
           have BK160 := n0_
           have BK163 := n1_
           have HB := n2_
           clear n0_ n1_ n2_
           (try clear hb)
           (try clear hb2)
           (try clear hk)
           (try clear hi)
           refine hK.out _ _ ⟨(zah BK163.out 0).trans rfl, (zah BK163.out 1).trans rfl⟩ (fun hHeld => ?_)
           clear hK K
           refine zcv (a' := ?_) ?_ ?_
           rotate_left
           ·show Act.put _ (some 28) _ = _
            simp only [Act.put, List.setIfInBounds_toArray, List.set_cons_zero, List.set_cons_succ, zbq, zbs]
            rfl
           refine pv_ HT_ 8 (bm 28 511) ?_
           refine pv_ HT_ 9 (bm 28 1023) ?_
           refine pv_ HT_ 10 (bm 28 2047) ?_
           refine pv_ HT_ 11 (bm 28 4095) ?_
           refine pv_ HT_ 14 (bm 28 20479) ?_
           refine zcn (i := 12) (N := some 33) (v := ?_) (a' := ?_) (bm 28 24575) rfl rfl (zbk HT_.out HW_.out (by kernel_rfl)) (fun _ _ _ h => h) (Or.inl ⟨by rfl, ?_⟩) hHeld ?_ ?_
           rotate_left
           ·rintro w' ⟨s0, s1⟩
            go_simp
            with_reducible rfl
           rotate_left
           ·simp only [Act.put, List.setIfInBounds_toArray, List.set_cons_zero, List.set_cons_succ, zbq, zbs]
            rfl
           refine zcn (i := 15) (N := some 36) (v := ?_) (a' := ?_) (bm 28 57343) rfl rfl (zbk HT_.out HW_.out (by kernel_rfl)) (fun _ _ _ h => h) (Or.inl ⟨by rfl, ?_⟩) hHeld ?_ ?_
           rotate_left
           ·rintro w' ⟨s0, s1⟩
            go_simp
            with_reducible rfl
           rotate_left
           ·simp only [Act.put, List.setIfInBounds_toArray, List.set_cons_zero, List.set_cons_succ, zbq, zbs]
            rfl
           refine one_ (i := 13) (N := some 34) (bm 28 65535) rfl rfl (zcg HT_.out (by kernel_rfl)) (by decide) (fun K hK => ?_)
           refine zcw Tryz.func39 (by kernel_rfl) rfl #[.string ((zak l0_1 x17_1).f1), .string (⟨#[32, 9]⟩ : ByteArray)] (by rfl) rfl rfl (by (try simp only [List.map_toArray, List.map_cons, List.map_nil]); first | done | rfl | (simp only [List.length_drop, List.length_take]; rfl)) ?_
           with_reducible refine (zcj.calls ((zak l0_1 x17_1).f1) (⟨#[32, 9]⟩ : ByteArray) t166 _ ?side1 A15.out).mono ?_
           (case side1 => exact LaidM.below HT.out (by repeat (first | (with_reducible first | exact HB.out | apply zac | apply zaa | apply zab | refine zad ?_ GE160.out | refine zad ?_ GE163.out) | exact HB.out)))
           rintro e w62 ⟨rfl, hb⟩
           refine ⟨_, rfl, ?_⟩
           have n0_ := Aside0.mk (zao (g := gb160) (o := .cells #[.string a0_0, .slice (some ad162) l0_1.length c0_1, .string a0_2] 50 (0, 0)) (by (with_reducible repeat (first | refine zae ?_ _ | refine zag ?_ | refine zaf ?_ _)); exact BK160.out) hb)
           have n1_ := Aside0.mk (zao (g := gb163) (o := .cells #[.string ((zak l0_1 x17_1).f0), .string ((zak l0_1 x17_1).f1)] 62 (0, 0)) (by (with_reducible repeat (first | refine zae ?_ _ | refine zag ?_ | refine zaf ?_ _)); exact BK163.out) hb)
           have n2_ := Aside0.mk (zam (by repeat (first | (with_reducible first | exact HB.out | apply zac | apply zaa | apply zab | refine zad ?_ GE160.out | refine zad ?_ GE163.out) | exact HB.out)) hb)
           clear BK160
           clear BK163
           clear HB
           have BK160 := n0_
           have BK163 := n1_
           have HB := n2_
           clear n0_ n1_ n2_
           (try clear hb)
           (try clear hb2)
           (try clear hk)
           (try clear hi)
           refine hK.out _ _ ⟨(zah BK163.out 0).trans rfl, (zah BK163.out 1).trans rfl⟩ (fun hHeld => ?_)
           clear hK K
           refine zcv (a' := ?_) ?_ ?_
           rotate_left
           ·show Act.put _ (some 34) _ = _
            simp only [Act.put, List.setIfInBounds_toArray, List.set_cons_zero, List.set_cons_succ, zbq, zbs]
            rfl
           refine pv_ HT_ 16 (bm 28 131071) ?_
           refine pv_ HT_ 17 (bm 28 262143) ?_
           refine pv_ HT_ 18 (bm 28 524287) ?_
           refine pu_ HT_ 19 (bm 28 1048575) ?_
           refine pu_ HT_ 20 (bm 28 2097151) ?_
           refine pu_ HT_ 21 (bm 28 4194303) ?_
           refine pv_ HT_ 22 (bm 28 8388607) ?_
           refine pv_ HT_ 23 (bm 28 16777215) ?_
           refine pu_ HT_ 24 (bm 28 33554431) ?_
           refine pu_ HT_ 25 (bm 28 67108863) ?_
           refine pu_ HT_ 26 (bm 28 134217727) ?_
           refine pv_ HT_ 27 (bm 28 268435455) ?_
           refine zdu (zcu HT_.out (by kernel_rfl)) ?_
           try go_wp2
           go_ret2
           exact ⟨by first | rfl | (simp [zaq, zap] <;> rfl) | (simp [*, zaq, zap] <;> rfl), by repeat (first | (with_reducible first | exact HB.out | apply zac | apply zaa | apply zab | refine zad ?_ GE160.out | refine zad ?_ GE163.out) | exact HB.out)⟩
         ·replace c14 := Bool.eq_false_iff.mpr c14
          subst c14
          have H1 : (some ((⟨#[]⟩ : ByteArray), 80)) = some (r1, r2) := by rw [if_neg (show ¬ (false = true) by decide)] at H; exact H
          clear H
          have H := H1
          clear H1
          simp only [Option.some.injEq, Prod.mk.injEq] at H
          obtain ⟨rfl, rfl⟩ := H
          have p162 : 0 ≤ (x17_1 : Int) := of_decide_eq_true (by first | (with_reducible assumption) | assumption)
          have q162 : x17_1 < (l0_1.length : Int) := of_decide_eq_true (by first | (with_reducible assumption) | assumption)
          obtain ⟨ad162, e162, hx162_0, hx162_1⟩ := zdg HR0_1.out x17_1 p162 q162
          cases e162
          replace hx162_0 := (HB.out.cell (World.block_lt_of_cell? w _ hx162_0)).trans hx162_0
          replace hx162_1 := (HB.out.cell (World.block_lt_of_cell? w _ hx162_1)).trans hx162_1
          replace p162 := eq_true p162
          replace q162 := eq_true q162
          try go_wp2_with (first | ((with_reducible refine zbj (N := 6) rfl ?_); (try (refine zbi (by rfl) ?_; dsimp only)); refine zbf ?hg (N := 6) ?hd (cs := #[.string ⟨#[]⟩, .string ⟨#[]⟩]) (t := 62) ?hr ?_; (case hd => rfl); (case hg => rfl); (case hr => first | (go_simp; done) | (go_simp; rfl)); intro gb163 hg w63 hbox hb; have n0_ := Aside0.mk (zao (g := gb160) (o := .cells #[.string a0_0, .slice (some ad162) l0_1.length c0_1, .string a0_2] 50 (0, 0)) (by (with_reducible repeat (first | refine zae ?_ _ | refine zag ?_ | refine zaf ?_ _)); exact BK160.out) hb); have n1_ := Aside0.mk (zam (by repeat (first | (with_reducible first | exact HB.out | apply zac | apply zaa | apply zab | refine zad ?_ GE160.out) | exact HB.out)) hb); have n2_ := Aside0.mk (hbox); have n3_ := Aside0.mk ((by rw [hg]; exact (zan (by repeat (first | (with_reducible first | exact HB.out | apply zac | apply zaa | apply zab | refine zad ?_ GE160.out) | exact HB.out))) : w.heap.size ≤ gb163)); have n4_ := Aside0.mk ((by rw [hg]; exact (zan (by repeat (first | (with_reducible first | exact HB.out | apply zac | apply zaa | apply zab | refine zad ?_ GE160.out) | exact HB.out))) : w.heap.size ≤ gb163)); have n5_ := Aside0.mk ((by rw [hg]; exact Nat.ne_of_lt (zbv (g := gb160) (o := .cells #[.string a0_0, .slice (some ad162) l0_1.length c0_1, .string a0_2] 50 (0, 0)) (by (with_reducible repeat (first | refine zae ?_ _ | refine zag ?_ | refine zaf ?_ _)); exact BK160.out)) : gb160 ≠ gb163)); have n6_ := Aside0.mk ((by rw [hg]; exact Nat.ne_of_gt (zbv (g := gb160) (o := .cells #[.string a0_0, .slice (some ad162) l0_1.length c0_1, .string a0_2] 50 (0, 0)) (by (with_reducible repeat (first | refine zae ?_ _ | refine zag ?_ | refine zaf ?_ _)); exact BK160.out)) : gb163 ≠ gb160)); clear BK160; clear HB; have BK160 := n0_; have HB := n1_; have BK163 := n2_; have GW163 := n3_; have GE163 := n4_; have NB160_163 := n5_; have NB163_160 := n6_; clear n0_ n1_ n2_ n3_ n4_ n5_ n6_; clear hb hbox hg; have hnb64 := NB163_160.out; have hnc64 := NB160_163.out; have hcz65_0 : w63.cell? ⟨gb163, 0, none⟩ = some (.string ⟨#[]⟩) := (zah BK163.out 0).trans rfl; have hcz65_1 : w63.cell? ⟨gb163, 1, none⟩ = some (.string ⟨#[]⟩) := (zah BK163.out 1).trans rfl; have hfz65_0 := zai BK163.out 0; have hfz65_1 := zai BK163.out 1))
          have n0_ : Aside0 (((w63.setCell ⟨gb163, 0, none⟩ (.string ((zak l0_1 x17_1).f0))).setCell ⟨gb163, 1, none⟩ (.string ((zak l0_1 x17_1).f1))).heap[gb160]? = some (.cells #[.string a0_0, .slice (some ad162) l0_1.length c0_1, .string a0_2] 50 (0, 0))) := ⟨by (with_reducible repeat (first | refine zae ?_ _ | refine zag ?_ | refine zaf ?_ _)); refine zbx ?_ NB160_163.out _; (with_reducible repeat (first | refine zae ?_ _ | refine zag ?_ | refine zaf ?_ _)); refine zbx ?_ NB160_163.out _; (with_reducible repeat (first | refine zae ?_ _ | refine zag ?_ | refine zaf ?_ _)); exact BK160.out⟩
          have n1_ : Aside0 (((w63.setCell ⟨gb163, 0, none⟩ (.string ((zak l0_1 x17_1).f0))).setCell ⟨gb163, 1, none⟩ (.string ((zak l0_1 x17_1).f1))).heap[gb163]? = some (.cells #[.string ((zak l0_1 x17_1).f0), .string ((zak l0_1 x17_1).f1)] 62 (0, 0))) := ⟨by (with_reducible repeat (first | refine zae ?_ _ | refine zag ?_ | refine zaf ?_ _)); refine zav (cs := #[.string ((zak l0_1 x17_1).f0), .string ⟨#[]⟩]) ?_ 1 _ rfl; (with_reducible repeat (first | refine zae ?_ _ | refine zag ?_ | refine zaf ?_ _)); refine zav (cs := #[.string ⟨#[]⟩, .string ⟨#[]⟩]) ?_ 0 _ rfl; (with_reducible repeat (first | refine zae ?_ _ | refine zag ?_ | refine zaf ?_ _)); exact BK163.out⟩
          have n2_ : Aside0 (Below w.heap.size w ((w63.setCell ⟨gb163, 0, none⟩ (.string ((zak l0_1 x17_1).f0))).setCell ⟨gb163, 1, none⟩ (.string ((zak l0_1 x17_1).f1)))) := ⟨by repeat (first | (with_reducible first | exact HB.out | apply zac | apply zaa | apply zab | refine zad ?_ GE160.out | refine zad ?_ GE163.out) | exact HB.out)⟩
          (try clear BK160)
          (try clear BK163)
          (try clear HB)
          generalize ((w63.setCell ⟨gb163, 0, none⟩ (.string ((zak l0_1 x17_1).f0))).setCell ⟨gb163, 1, none⟩ (.string ((zak l0_1 x17_1).f1))) = w66 at n0_ n1_ n2_ ⊢
          have BK160 := n0_
          have BK163 := n1_
          have HB := n2_
          clear n0_ n1_ n2_
          have n0_ := Aside0.mk (zag BK160.out)
          have n1_ := Aside0.mk (zag BK163.out)
          have n2_ := Aside0.mk (zab HB.out)
          clear BK160
          clear BK163
          clear HB
          have BK160 := n0_
          have BK163 := n1_
          have HB := n2_
          clear n0_ n1_ n2_
          refine zda (n := 28) (S := fun w' => w'.cell? ⟨gb163, 0, none⟩ = some (.string ((zak l0_1 x17_1).f0)) ∧ w'.cell? ⟨gb163, 1, none⟩ = some (.string ((zak l0_1 x17_1).f1))) (ds := []) (bm 28 0) (by kernel_rfl) rfl rfl ⟨(zah BK163.out 0).trans rfl, (zah BK163.out 1).trans rfl⟩ (fun hHeld => ?_); refine zci zaz.tab7 zaz.bits7 (fun HT_ HW_ => ?_)
          generalize w66.drew = w67 at BK160 BK163 HB hHeld ⊢
          refine pv_ HT_ 0 (bm 28 1) ?_
          refine zcn (i := 1) (N := some 22) (v := ?_) (a' := ?_) (bm 28 3) rfl rfl (zbk HT_.out HW_.out (by kernel_rfl)) (fun _ _ _ h => h) (Or.inl ⟨by rfl, ?_⟩) hHeld ?_ ?_
          rotate_left
          ·rintro w' ⟨s0, s1⟩
           go_simp
           with_reducible rfl
          rotate_left
          ·simp only [Act.put, List.setIfInBounds_toArray, List.set_cons_zero, List.set_cons_succ, zbq, zbs]
           rfl
          refine one_ (i := 2) (N := some 23) (bm 28 7) rfl rfl (zcg HT_.out (by kernel_rfl)) (by decide) (fun K hK => ?_)
          refine zcw Tryz.func41 (by kernel_rfl) rfl #[.string ((zak l0_1 x17_1).f0)] (by rfl) rfl rfl (by (try simp only [List.map_toArray, List.map_cons, List.map_nil]); first | done | rfl | (simp only [List.length_drop, List.length_take]; rfl)) ?_
          with_reducible refine (zct.calls ((zak l0_1 x17_1).f0) true _ ?side1 A11.out).mono ?_
          (case side1 => exact LaidM.below HT.out (by repeat (first | (with_reducible first | exact HB.out | apply zac | apply zaa | apply zab | refine zad ?_ GE160.out | refine zad ?_ GE163.out) | exact HB.out)))
          rintro e w68 ⟨rfl, hb⟩
          refine ⟨_, rfl, ?_⟩
          have n0_ := Aside0.mk (zao (g := gb160) (o := .cells #[.string a0_0, .slice (some ad162) l0_1.length c0_1, .string a0_2] 50 (0, 0)) (by (with_reducible repeat (first | refine zae ?_ _ | refine zag ?_ | refine zaf ?_ _)); exact BK160.out) hb)
          have n1_ := Aside0.mk (zao (g := gb163) (o := .cells #[.string ((zak l0_1 x17_1).f0), .string ((zak l0_1 x17_1).f1)] 62 (0, 0)) (by (with_reducible repeat (first | refine zae ?_ _ | refine zag ?_ | refine zaf ?_ _)); exact BK163.out) hb)
          have n2_ := Aside0.mk (zam (by repeat (first | (with_reducible first | exact HB.out | apply zac | apply zaa | apply zab | refine zad ?_ GE160.out | refine zad ?_ GE163.out) | exact HB.out)) hb)
          clear BK160
          clear BK163
          clear HB
          have BK160 := n0_
          have BK163 := n1_
          have HB := n2_
          clear n0_ n1_ n2_
          (try clear hb)
          (try clear hb2)
          (try clear hk)
          (try clear hi)
          refine hK.out _ _ ⟨(zah BK163.out 0).trans rfl, (zah BK163.out 1).trans rfl⟩ (fun hHeld => ?_)
          clear hK K
          refine zcv (a' := ?_) ?_ ?_
          rotate_left
          ·show Act.put _ (some 23) _ = _
           simp only [Act.put, List.setIfInBounds_toArray, List.set_cons_zero, List.set_cons_succ, zbq, zbs]
           rfl
          refine pv_ HT_ 3 (bm 28 15) ?_
          refine pv_ HT_ 4 (bm 28 31) ?_
          refine pv_ HT_ 5 (bm 28 63) ?_
          refine zcn (i := 6) (N := some 27) (v := ?_) (a' := ?_) (bm 28 127) rfl rfl (zbk HT_.out HW_.out (by kernel_rfl)) (fun _ _ _ h => h) (Or.inl ⟨by rfl, ?_⟩) hHeld ?_ ?_
          rotate_left
          ·rintro w' ⟨s0, s1⟩
           go_simp
           with_reducible rfl
          rotate_left
          ·simp only [Act.put, List.setIfInBounds_toArray, List.set_cons_zero, List.set_cons_succ, zbq, zbs]
           rfl
          refine one_ (i := 7) (N := some 28) (bm 28 255) rfl rfl (zcg HT_.out (by kernel_rfl)) (by decide) (fun K hK => ?_)
          refine zcw Tryz.func42 (by kernel_rfl) rfl #[.string ((zak l0_1 x17_1).f1)] (by rfl) rfl rfl (by (try simp only [List.map_toArray, List.map_cons, List.map_nil]); first | done | rfl | (simp only [List.length_drop, List.length_take]; rfl)) ?_
          with_reducible refine (zbt.calls k1 ((zak l0_1 x17_1).f1) false _ ?side1 A13.out).mono ?_
          (case side1 => exact LaidM.below HT.out (by repeat (first | (with_reducible first | exact HB.out | apply zac | apply zaa | apply zab | refine zad ?_ GE160.out | refine zad ?_ GE163.out) | exact HB.out)))
          rintro e w69 ⟨rfl, hb⟩
          refine ⟨_, rfl, ?_⟩
          have n0_ := Aside0.mk (zao (g := gb160) (o := .cells #[.string a0_0, .slice (some ad162) l0_1.length c0_1, .string a0_2] 50 (0, 0)) (by (with_reducible repeat (first | refine zae ?_ _ | refine zag ?_ | refine zaf ?_ _)); exact BK160.out) hb)
          have n1_ := Aside0.mk (zao (g := gb163) (o := .cells #[.string ((zak l0_1 x17_1).f0), .string ((zak l0_1 x17_1).f1)] 62 (0, 0)) (by (with_reducible repeat (first | refine zae ?_ _ | refine zag ?_ | refine zaf ?_ _)); exact BK163.out) hb)
          have n2_ := Aside0.mk (zam (by repeat (first | (with_reducible first | exact HB.out | apply zac | apply zaa | apply zab | refine zad ?_ GE160.out | refine zad ?_ GE163.out) | exact HB.out)) hb)
          clear BK160
          clear BK163
          clear HB
          have BK160 := n0_
          have BK163 := n1_
          have HB := n2_
          clear n0_ n1_ n2_
          (try clear hb)
          (try clear hb2)
          (try clear hk)
          (try clear hi)
          refine hK.out _ _ ⟨(zah BK163.out 0).trans rfl, (zah BK163.out 1).trans rfl⟩ (fun hHeld => ?_)
          clear hK K
          refine zcv (a' := ?_) ?_ ?_
          rotate_left
          ·show Act.put _ (some 28) _ = _
           simp only [Act.put, List.setIfInBounds_toArray, List.set_cons_zero, List.set_cons_succ, zbq, zbs]
           rfl
          refine pv_ HT_ 8 (bm 28 511) ?_
          refine pv_ HT_ 9 (bm 28 1023) ?_
          refine pv_ HT_ 10 (bm 28 2047) ?_
          refine pu_ HT_ 11 (bm 28 4095) ?_
          refine pu_ HT_ 12 (bm 28 8191) ?_
          refine pu_ HT_ 13 (bm 28 16383) ?_
          refine pu_ HT_ 14 (bm 28 32767) ?_
          refine pu_ HT_ 15 (bm 28 65535) ?_
          refine pu_ HT_ 16 (bm 28 131071) ?_
          refine pv_ HT_ 17 (bm 28 262143) ?_
          refine pv_ HT_ 18 (bm 28 524287) ?_
          refine pu_ HT_ 19 (bm 28 1048575) ?_
          refine pu_ HT_ 20 (bm 28 2097151) ?_
          refine pu_ HT_ 21 (bm 28 4194303) ?_
          refine pv_ HT_ 22 (bm 28 8388607) ?_
          refine pv_ HT_ 23 (bm 28 16777215) ?_
          refine pu_ HT_ 24 (bm 28 33554431) ?_
          refine pu_ HT_ 25 (bm 28 67108863) ?_
          refine pu_ HT_ 26 (bm 28 134217727) ?_
          refine pv_ HT_ 27 (bm 28 268435455) ?_
          refine zdu (zcu HT_.out (by kernel_rfl)) ?_
          try go_wp2
          go_ret2
          exact ⟨by first | rfl | (simp [zaq, zap] <;> rfl) | (simp [*, zaq, zap] <;> rfl), by repeat (first | (with_reducible first | exact HB.out | apply zac | apply zaa | apply zab | refine zad ?_ GE160.out | refine zad ?_ GE163.out) | exact HB.out)⟩
        ·replace c12 := Bool.eq_false_iff.mpr c12
         subst c12
         have H1 : (some ((⟨#[]⟩ : ByteArray), 80)) = some (r1, r2) := by rw [if_neg (show ¬ (false = true) by decide)] at H; exact H
         clear H
         have H := H1
         clear H1
         simp only [Option.some.injEq, Prod.mk.injEq] at H
         obtain ⟨rfl, rfl⟩ := H
         have p162 : 0 ≤ (x17_1 : Int) := of_decide_eq_true (by first | (with_reducible assumption) | assumption)
         have q162 : x17_1 < (l0_1.length : Int) := of_decide_eq_true (by first | (with_reducible assumption) | assumption)
         obtain ⟨ad162, e162, hx162_0, hx162_1⟩ := zdg HR0_1.out x17_1 p162 q162
         cases e162
         replace hx162_0 := (HB.out.cell (World.block_lt_of_cell? w _ hx162_0)).trans hx162_0
         replace hx162_1 := (HB.out.cell (World.block_lt_of_cell? w _ hx162_1)).trans hx162_1
         replace p162 := eq_true p162
         replace q162 := eq_true q162
         try go_wp2_with (first | ((with_reducible refine zbj (N := 6) rfl ?_); (try (refine zbi (by rfl) ?_; dsimp only)); refine zbf ?hg (N := 6) ?hd (cs := #[.string ⟨#[]⟩, .string ⟨#[]⟩]) (t := 62) ?hr ?_; (case hd => rfl); (case hg => rfl); (case hr => first | (go_simp; done) | (go_simp; rfl)); intro gb163 hg w70 hbox hb; have n0_ := Aside0.mk (zao (g := gb160) (o := .cells #[.string a0_0, .slice (some ad162) l0_1.length c0_1, .string a0_2] 50 (0, 0)) (by (with_reducible repeat (first | refine zae ?_ _ | refine zag ?_ | refine zaf ?_ _)); exact BK160.out) hb); have n1_ := Aside0.mk (zam (by repeat (first | (with_reducible first | exact HB.out | apply zac | apply zaa | apply zab | refine zad ?_ GE160.out) | exact HB.out)) hb); have n2_ := Aside0.mk (hbox); have n3_ := Aside0.mk ((by rw [hg]; exact (zan (by repeat (first | (with_reducible first | exact HB.out | apply zac | apply zaa | apply zab | refine zad ?_ GE160.out) | exact HB.out))) : w.heap.size ≤ gb163)); have n4_ := Aside0.mk ((by rw [hg]; exact (zan (by repeat (first | (with_reducible first | exact HB.out | apply zac | apply zaa | apply zab | refine zad ?_ GE160.out) | exact HB.out))) : w.heap.size ≤ gb163)); have n5_ := Aside0.mk ((by rw [hg]; exact Nat.ne_of_lt (zbv (g := gb160) (o := .cells #[.string a0_0, .slice (some ad162) l0_1.length c0_1, .string a0_2] 50 (0, 0)) (by (with_reducible repeat (first | refine zae ?_ _ | refine zag ?_ | refine zaf ?_ _)); exact BK160.out)) : gb160 ≠ gb163)); have n6_ := Aside0.mk ((by rw [hg]; exact Nat.ne_of_gt (zbv (g := gb160) (o := .cells #[.string a0_0, .slice (some ad162) l0_1.length c0_1, .string a0_2] 50 (0, 0)) (by (with_reducible repeat (first | refine zae ?_ _ | refine zag ?_ | refine zaf ?_ _)); exact BK160.out)) : gb163 ≠ gb160)); clear BK160; clear HB; have BK160 := n0_; have HB := n1_; have BK163 := n2_; have GW163 := n3_; have GE163 := n4_; have NB160_163 := n5_; have NB163_160 := n6_; clear n0_ n1_ n2_ n3_ n4_ n5_ n6_; clear hb hbox hg; have hnb71 := NB163_160.out; have hnc71 := NB160_163.out; have hcz72_0 : w70.cell? ⟨gb163, 0, none⟩ = some (.string ⟨#[]⟩) := (zah BK163.out 0).trans rfl; have hcz72_1 : w70.cell? ⟨gb163, 1, none⟩ = some (.string ⟨#[]⟩) := (zah BK163.out 1).trans rfl; have hfz72_0 := zai BK163.out 0; have hfz72_1 := zai BK163.out 1))
         have n0_ : Aside0 (((w70.setCell ⟨gb163, 0, none⟩ (.string ((zak l0_1 x17_1).f0))).setCell ⟨gb163, 1, none⟩ (.string ((zak l0_1 x17_1).f1))).heap[gb160]? = some (.cells #[.string a0_0, .slice (some ad162) l0_1.length c0_1, .string a0_2] 50 (0, 0))) := ⟨by (with_reducible repeat (first | refine zae ?_ _ | refine zag ?_ | refine zaf ?_ _)); refine zbx ?_ NB160_163.out _; (with_reducible repeat (first | refine zae ?_ _ | refine zag ?_ | refine zaf ?_ _)); refine zbx ?_ NB160_163.out _; (with_reducible repeat (first | refine zae ?_ _ | refine zag ?_ | refine zaf ?_ _)); exact BK160.out⟩
         have n1_ : Aside0 (((w70.setCell ⟨gb163, 0, none⟩ (.string ((zak l0_1 x17_1).f0))).setCell ⟨gb163, 1, none⟩ (.string ((zak l0_1 x17_1).f1))).heap[gb163]? = some (.cells #[.string ((zak l0_1 x17_1).f0), .string ((zak l0_1 x17_1).f1)] 62 (0, 0))) := ⟨by (with_reducible repeat (first | refine zae ?_ _ | refine zag ?_ | refine zaf ?_ _)); refine zav (cs := #[.string ((zak l0_1 x17_1).f0), .string ⟨#[]⟩]) ?_ 1 _ rfl; (with_reducible repeat (first | refine zae ?_ _ | refine zag ?_ | refine zaf ?_ _)); refine zav (cs := #[.string ⟨#[]⟩, .string ⟨#[]⟩]) ?_ 0 _ rfl; (with_reducible repeat (first | refine zae ?_ _ | refine zag ?_ | refine zaf ?_ _)); exact BK163.out⟩
         have n2_ : Aside0 (Below w.heap.size w ((w70.setCell ⟨gb163, 0, none⟩ (.string ((zak l0_1 x17_1).f0))).setCell ⟨gb163, 1, none⟩ (.string ((zak l0_1 x17_1).f1)))) := ⟨by repeat (first | (with_reducible first | exact HB.out | apply zac | apply zaa | apply zab | refine zad ?_ GE160.out | refine zad ?_ GE163.out) | exact HB.out)⟩
         (try clear BK160)
         (try clear BK163)
         (try clear HB)
         generalize ((w70.setCell ⟨gb163, 0, none⟩ (.string ((zak l0_1 x17_1).f0))).setCell ⟨gb163, 1, none⟩ (.string ((zak l0_1 x17_1).f1))) = w73 at n0_ n1_ n2_ ⊢
         have BK160 := n0_
         have BK163 := n1_
         have HB := n2_
         clear n0_ n1_ n2_
         have n0_ := Aside0.mk (zag BK160.out)
         have n1_ := Aside0.mk (zag BK163.out)
         have n2_ := Aside0.mk (zab HB.out)
         clear BK160
         clear BK163
         clear HB
         have BK160 := n0_
         have BK163 := n1_
         have HB := n2_
         clear n0_ n1_ n2_
         refine zda (n := 28) (S := fun w' => w'.cell? ⟨gb163, 0, none⟩ = some (.string ((zak l0_1 x17_1).f0)) ∧ w'.cell? ⟨gb163, 1, none⟩ = some (.string ((zak l0_1 x17_1).f1))) (ds := []) (bm 28 0) (by kernel_rfl) rfl rfl ⟨(zah BK163.out 0).trans rfl, (zah BK163.out 1).trans rfl⟩ (fun hHeld => ?_); refine zci zaz.tab7 zaz.bits7 (fun HT_ HW_ => ?_)
         generalize w73.drew = w74 at BK160 BK163 HB hHeld ⊢
         refine pv_ HT_ 0 (bm 28 1) ?_
         refine zcn (i := 1) (N := some 22) (v := ?_) (a' := ?_) (bm 28 3) rfl rfl (zbk HT_.out HW_.out (by kernel_rfl)) (fun _ _ _ h => h) (Or.inl ⟨by rfl, ?_⟩) hHeld ?_ ?_
         rotate_left
         ·rintro w' ⟨s0, s1⟩
          go_simp
          with_reducible rfl
         rotate_left
         ·simp only [Act.put, List.setIfInBounds_toArray, List.set_cons_zero, List.set_cons_succ, zbq, zbs]
          rfl
         refine one_ (i := 2) (N := some 23) (bm 28 7) rfl rfl (zcg HT_.out (by kernel_rfl)) (by decide) (fun K hK => ?_)
         refine zcw Tryz.func41 (by kernel_rfl) rfl #[.string ((zak l0_1 x17_1).f0)] (by rfl) rfl rfl (by (try simp only [List.map_toArray, List.map_cons, List.map_nil]); first | done | rfl | (simp only [List.length_drop, List.length_take]; rfl)) ?_
         with_reducible refine (zct.calls ((zak l0_1 x17_1).f0) false _ ?side1 A11.out).mono ?_
         (case side1 => exact LaidM.below HT.out (by repeat (first | (with_reducible first | exact HB.out | apply zac | apply zaa | apply zab | refine zad ?_ GE160.out | refine zad ?_ GE163.out) | exact HB.out)))
         rintro e w75 ⟨rfl, hb⟩
         refine ⟨_, rfl, ?_⟩
         have n0_ := Aside0.mk (zao (g := gb160) (o := .cells #[.string a0_0, .slice (some ad162) l0_1.length c0_1, .string a0_2] 50 (0, 0)) (by (with_reducible repeat (first | refine zae ?_ _ | refine zag ?_ | refine zaf ?_ _)); exact BK160.out) hb)
         have n1_ := Aside0.mk (zao (g := gb163) (o := .cells #[.string ((zak l0_1 x17_1).f0), .string ((zak l0_1 x17_1).f1)] 62 (0, 0)) (by (with_reducible repeat (first | refine zae ?_ _ | refine zag ?_ | refine zaf ?_ _)); exact BK163.out) hb)
         have n2_ := Aside0.mk (zam (by repeat (first | (with_reducible first | exact HB.out | apply zac | apply zaa | apply zab | refine zad ?_ GE160.out | refine zad ?_ GE163.out) | exact HB.out)) hb)
         clear BK160
         clear BK163
         clear HB
         have BK160 := n0_
         have BK163 := n1_
         have HB := n2_
         clear n0_ n1_ n2_
         (try clear hb)
         (try clear hb2)
         (try clear hk)
         (try clear hi)
         refine hK.out _ _ ⟨(zah BK163.out 0).trans rfl, (zah BK163.out 1).trans rfl⟩ (fun hHeld => ?_)
         clear hK K
         refine zcv (a' := ?_) ?_ ?_
         rotate_left
         ·show Act.put _ (some 23) _ = _
          simp only [Act.put, List.setIfInBounds_toArray, List.set_cons_zero, List.set_cons_succ, zbq, zbs]
          rfl
         refine pv_ HT_ 3 (bm 28 15) ?_
         refine pv_ HT_ 4 (bm 28 31) ?_
         refine pu_ HT_ 5 (bm 28 63) ?_
         refine pu_ HT_ 6 (bm 28 127) ?_
         refine pu_ HT_ 7 (bm 28 255) ?_
         refine pu_ HT_ 8 (bm 28 511) ?_
         refine pv_ HT_ 9 (bm 28 1023) ?_
         refine pv_ HT_ 10 (bm 28 2047) ?_
         refine pu_ HT_ 11 (bm 28 4095) ?_
         refine pu_ HT_ 12 (bm 28 8191) ?_
         refine pu_ HT_ 13 (bm 28 16383) ?_
         refine pu_ HT_ 14 (bm 28 32767) ?_
         refine pu_ HT_ 15 (bm 28 65535) ?_
         refine pu_ HT_ 16 (bm 28 131071) ?_
         refine pv_ HT_ 17 (bm 28 262143) ?_
         refine pv_ HT_ 18 (bm 28 524287) ?_
         refine pu_ HT_ 19 (bm 28 1048575) ?_
         refine pu_ HT_ 20 (bm 28 2097151) ?_
         refine pu_ HT_ 21 (bm 28 4194303) ?_
         refine pv_ HT_ 22 (bm 28 8388607) ?_
         refine pv_ HT_ 23 (bm 28 16777215) ?_
         refine pu_ HT_ 24 (bm 28 33554431) ?_
         refine pu_ HT_ 25 (bm 28 67108863) ?_
         refine pu_ HT_ 26 (bm 28 134217727) ?_
         refine pv_ HT_ 27 (bm 28 268435455) ?_
         refine zdu (zcu HT_.out (by kernel_rfl)) ?_
         try go_wp2
         go_ret2
         exact ⟨by first | rfl | (simp [zaq, zap] <;> rfl) | (simp [*, zaq, zap] <;> rfl), by repeat (first | (with_reducible first | exact HB.out | apply zac | apply zaa | apply zab | refine zad ?_ GE160.out | refine zad ?_ GE163.out) | exact HB.out)⟩
       ·rw [if_neg c10] at H
        exact absurd H (by simp)
      ·rw [if_neg c9] at H
       exact absurd H (by simp)
     ·rw [if_neg c8] at H
      have c8b0 : decide (x17_1 < (l0_1.length : Int)) = false := decide_eq_false c8
      clear c8
      replace H := Option.bind_eq_some_iff.mp H
      obtain ⟨t161, A760, H⟩ := H
      try dsimp only at H
      have A76 := Aside0.mk A760
      clear A760
      by_cases c77 : 16 + t161.size ≤ 9223372036854775807
      ·rw [if_pos c77] at H
       have c77b0 := eq_true c77
       have c77b1 := decide_eq_true c77
       try have c77b2 := eq_false (Nat.not_lt.2 c77)
       by_cases c78 : ((⟨#[67, 111, 110, 116, 101, 110, 116, 45, 76, 101, 110, 103, 116, 104, 58, 32]⟩ : ByteArray) ++ t161).size + 2 ≤ 9223372036854775807
       ·rw [if_pos c78] at H
        have c78e := c78
        (try simp only [ByteArray.size_append, gt_iff_lt, ge_iff_le, show (⟨#[67, 111, 110, 116, 101, 110, 116, 45, 76, 101, 110, 103, 116, 104, 58, 32]⟩ : ByteArray).size = 16 from rfl] at c78e)
        (try simp only [Int.natCast_add, Int.cast_ofNat_Int] at c78e)
        (try (have c78e2 := decide_eq_true c78e))
        (try replace c78e := eq_true c78e)
        have c78b0 := eq_true c78
        have c78b1 := decide_eq_true c78
        try have c78b2 := eq_false (Nat.not_lt.2 c78)
        have c78b8 : (9223372036854775807 < 16 + t161.size + 2) = False := by have h_ := c78; simp only [ByteArray.size_append] at h_; exact eq_false (Nat.not_lt.2 h_)
        by_cases c79 : (((⟨#[67, 111, 110, 116, 101, 110, 116, 45, 76, 101, 110, 103, 116, 104, 58, 32]⟩ : ByteArray) ++ t161) ++ (⟨#[13, 10]⟩ : ByteArray)).size + 2 ≤ 9223372036854775807
        ·rw [if_pos c79] at H
         have c79e := c79
         (try simp only [ByteArray.size_append, gt_iff_lt, ge_iff_le, show (⟨#[13, 10]⟩ : ByteArray).size = 2 from rfl, show (⟨#[67, 111, 110, 116, 101, 110, 116, 45, 76, 101, 110, 103, 116, 104, 58, 32]⟩ : ByteArray).size = 16 from rfl] at c79e)
         (try simp only [Int.natCast_add, Int.cast_ofNat_Int] at c79e)
         (try (have c79e2 := decide_eq_true c79e))
         (try replace c79e := eq_true c79e)
         have c79b0 := eq_true c79
         have c79b1 := decide_eq_true c79
         try have c79b2 := eq_false (Nat.not_lt.2 c79)
         have c79b8 : (9223372036854775807 < 16 + t161.size + 2 + 2) = False := by have h_ := c79; simp only [ByteArray.size_append] at h_; exact eq_false (Nat.not_lt.2 h_)
         by_cases c80 : x4_1.size + ((((⟨#[67, 111, 110, 116, 101, 110, 116, 45, 76, 101, 110, 103, 116, 104, 58, 32]⟩ : ByteArray) ++ t161) ++ (⟨#[13, 10]⟩ : ByteArray)) ++ (⟨#[13, 10]⟩ : ByteArray)).size ≤ 9223372036854775807
         ·rw [if_pos c80] at H
          have c80e := c80
          (try simp only [ByteArray.size_append, gt_iff_lt, ge_iff_le, show (⟨#[13, 10]⟩ : ByteArray).size = 2 from rfl, show (⟨#[67, 111, 110, 116, 101, 110, 116, 45, 76, 101, 110, 103, 116, 104, 58, 32]⟩ : ByteArray).size = 16 from rfl] at c80e)
          (try simp only [Int.natCast_add, Int.cast_ofNat_Int] at c80e)
          (try (have c80e2 := decide_eq_true c80e))
          (try replace c80e := eq_true c80e)
          have c80b0 := eq_true c80
          have c80b1 := decide_eq_true c80
          try have c80b2 := eq_false (Nat.not_lt.2 c80)
          have c80b8 : (9223372036854775807 < x4_1.size + (16 + t161.size + 2 + 2)) = False := by have h_ := c80; simp only [ByteArray.size_append] at h_; exact eq_false (Nat.not_lt.2 h_)
          by_cases c81 : (a0_2.size : Int) > 65536
          ·rw [if_pos c81] at H
           have c81b0 := decide_eq_true c81
           have c81b1 : decide (65536 < a0_2.size) = true := decide_eq_true (by omega)
           clear c81
           simp only [Option.some.injEq, Prod.mk.injEq] at H
           obtain ⟨rfl, rfl⟩ := H
           have hcz82_0 : wr.cell? ⟨gb160, 0, none⟩ = some (.string a0_0) := (zah BK160.out 0).trans rfl
           have hcz82_1 : wr.cell? ⟨gb160, 1, none⟩ = some (.slice A0_1 l0_1.length c0_1) := (zah BK160.out 1).trans rfl
           have hcz82_2 : wr.cell? ⟨gb160, 2, none⟩ = some (.string a0_2) := (zah BK160.out 2).trans rfl
           have hfz82_0 := zai BK160.out 0
           have hfz82_1 := zai BK160.out 1
           have hfz82_2 := zai BK160.out 2
           go_wp2_with (first | ((with_reducible refine zar (f := 34) rfl ?_); refine zbr (some 64) rfl rfl Tryz.func34 (by kernel_rfl) rfl #[.int .u64 (IntKind.u64.wrap ((a0_2.size : Int)))] rfl (by (try simp only [List.map_toArray, List.map_cons, List.map_nil]); first | done | rfl | (simp only [List.length_drop, List.length_take]; rfl)) ?_; (with_reducible refine (zcm.calls (IntKind.u64.wrap ((a0_2.size : Int))) t161 _ ?side1 A76.out).mono ?_); (case side1 => exact LaidM.below HT.out (by repeat (first | (with_reducible first | exact HB.out | apply zac | apply zaa | apply zab | refine zad ?_ GE160.out) | exact HB.out))); rintro e w83 ⟨rfl, hb⟩; refine ⟨_, rfl, ?_⟩; have n0_ := Aside0.mk (zao (g := gb160) (o := .cells #[.string a0_0, .slice A0_1 l0_1.length c0_1, .string a0_2] 50 (0, 0)) (by (with_reducible repeat (first | refine zae ?_ _ | refine zag ?_ | refine zaf ?_ _)); exact BK160.out) hb); have n1_ := Aside0.mk (zam (by repeat (first | (with_reducible first | exact HB.out | apply zac | apply zaa | apply zab | refine zad ?_ GE160.out) | exact HB.out)) hb); clear BK160; clear HB; have BK160 := n0_; have HB := n1_; clear n0_ n1_; (try clear hb); (try clear hb2); (try clear hk); (try clear hi); have hcz84_0 : w83.cell? ⟨gb160, 0, none⟩ = some (.string a0_0) := (zah BK160.out 0).trans rfl; have hcz84_1 : w83.cell? ⟨gb160, 1, none⟩ = some (.slice A0_1 l0_1.length c0_1) := (zah BK160.out 1).trans rfl; have hcz84_2 : w83.cell? ⟨gb160, 2, none⟩ = some (.string a0_2) := (zah BK160.out 2).trans rfl; have hfz84_0 := zai BK160.out 0; have hfz84_1 := zai BK160.out 1; have hfz84_2 := zai BK160.out 2))
           go_ret2
           exact ⟨by first | rfl | (simp [zaq, zap] <;> rfl) | (simp [*, zaq, zap] <;> rfl), by repeat (first | (with_reducible first | exact HB.out | apply zac | apply zaa | apply zab | refine zad ?_ GE160.out) | exact HB.out)⟩
          ·rw [if_neg c81] at H
           have c81b0 : decide (65536 < (a0_2.size : Int)) = false := decide_eq_false c81
           have c81b1 : decide (65536 < a0_2.size) = false := decide_eq_false (by omega)
           clear c81
           by_cases c85 : ((x4_1 ++ ((((⟨#[67, 111, 110, 116, 101, 110, 116, 45, 76, 101, 110, 103, 116, 104, 58, 32]⟩ : ByteArray) ++ t161) ++ (⟨#[13, 10]⟩ : ByteArray)) ++ (⟨#[13, 10]⟩ : ByteArray))).size : Int) > 8192
           ·rw [if_pos c85] at H
            have c85e := c85
            (try simp only [ByteArray.size_append, gt_iff_lt, ge_iff_le, show (⟨#[13, 10]⟩ : ByteArray).size = 2 from rfl, show (⟨#[67, 111, 110, 116, 101, 110, 116, 45, 76, 101, 110, 103, 116, 104, 58, 32]⟩ : ByteArray).size = 16 from rfl] at c85e)
            (try simp only [Int.natCast_add, Int.cast_ofNat_Int] at c85e)
            (try (have c85e2 := decide_eq_true c85e))
            (try replace c85e := eq_true c85e)
            have c85b0 := decide_eq_true c85
            have c85b8 : decide ((8192 : Int) < (x4_1.size : Int) + (16 + (t161.size : Int) + 2 + 2)) = true := by have h_ := c85; simp only [ByteArray.size_append] at h_; change ((x4_1.size + (16 + t161.size + 2 + 2) : Nat) : Int) > 8192 at h_; exact decide_eq_true (by omega)
            have c85b1 : decide (8192 < (x4_1 ++ ((((⟨#[67, 111, 110, 116, 101, 110, 116, 45, 76, 101, 110, 103, 116, 104, 58, 32]⟩ : ByteArray) ++ t161) ++ (⟨#[13, 10]⟩ : ByteArray)) ++ (⟨#[13, 10]⟩ : ByteArray))).size) = true := decide_eq_true (by omega)
            clear c85
            simp only [Option.some.injEq, Prod.mk.injEq] at H
            obtain ⟨rfl, rfl⟩ := H
            have hcz86_0 : wr.cell? ⟨gb160, 0, none⟩ = some (.string a0_0) := (zah BK160.out 0).trans rfl
            have hcz86_1 : wr.cell? ⟨gb160, 1, none⟩ = some (.slice A0_1 l0_1.length c0_1) := (zah BK160.out 1).trans rfl
            have hcz86_2 : wr.cell? ⟨gb160, 2, none⟩ = some (.string a0_2) := (zah BK160.out 2).trans rfl
            have hfz86_0 := zai BK160.out 0
            have hfz86_1 := zai BK160.out 1
            have hfz86_2 := zai BK160.out 2
            go_wp2_with (first | ((with_reducible refine zar (f := 34) rfl ?_); refine zbr (some 64) rfl rfl Tryz.func34 (by kernel_rfl) rfl #[.int .u64 (IntKind.u64.wrap ((a0_2.size : Int)))] rfl (by (try simp only [List.map_toArray, List.map_cons, List.map_nil]); first | done | rfl | (simp only [List.length_drop, List.length_take]; rfl)) ?_; (with_reducible refine (zcm.calls (IntKind.u64.wrap ((a0_2.size : Int))) t161 _ ?side1 A76.out).mono ?_); (case side1 => exact LaidM.below HT.out (by repeat (first | (with_reducible first | exact HB.out | apply zac | apply zaa | apply zab | refine zad ?_ GE160.out) | exact HB.out))); rintro e w87 ⟨rfl, hb⟩; refine ⟨_, rfl, ?_⟩; have n0_ := Aside0.mk (zao (g := gb160) (o := .cells #[.string a0_0, .slice A0_1 l0_1.length c0_1, .string a0_2] 50 (0, 0)) (by (with_reducible repeat (first | refine zae ?_ _ | refine zag ?_ | refine zaf ?_ _)); exact BK160.out) hb); have n1_ := Aside0.mk (zam (by repeat (first | (with_reducible first | exact HB.out | apply zac | apply zaa | apply zab | refine zad ?_ GE160.out) | exact HB.out)) hb); clear BK160; clear HB; have BK160 := n0_; have HB := n1_; clear n0_ n1_; (try clear hb); (try clear hb2); (try clear hk); (try clear hi); have hcz88_0 : w87.cell? ⟨gb160, 0, none⟩ = some (.string a0_0) := (zah BK160.out 0).trans rfl; have hcz88_1 : w87.cell? ⟨gb160, 1, none⟩ = some (.slice A0_1 l0_1.length c0_1) := (zah BK160.out 1).trans rfl; have hcz88_2 : w87.cell? ⟨gb160, 2, none⟩ = some (.string a0_2) := (zah BK160.out 2).trans rfl; have hfz88_0 := zai BK160.out 0; have hfz88_1 := zai BK160.out 1; have hfz88_2 := zai BK160.out 2))
            go_ret2
            exact ⟨by first | rfl | (simp [zaq, zap] <;> rfl) | (simp [*, zaq, zap] <;> rfl), by repeat (first | (with_reducible first | exact HB.out | apply zac | apply zaa | apply zab | refine zad ?_ GE160.out) | exact HB.out)⟩
           ·rw [if_neg c85] at H
            have c85e := c85
            (try simp only [ByteArray.size_append, gt_iff_lt, ge_iff_le, show (⟨#[13, 10]⟩ : ByteArray).size = 2 from rfl, show (⟨#[67, 111, 110, 116, 101, 110, 116, 45, 76, 101, 110, 103, 116, 104, 58, 32]⟩ : ByteArray).size = 16 from rfl] at c85e)
            (try simp only [Int.natCast_add, Int.cast_ofNat_Int] at c85e)
            (try (have c85e2 := decide_eq_false c85e))
            (try replace c85e := eq_false c85e)
            have c85b0 : decide (8192 < ((x4_1 ++ ((((⟨#[67, 111, 110, 116, 101, 110, 116, 45, 76, 101, 110, 103, 116, 104, 58, 32]⟩ : ByteArray) ++ t161) ++ (⟨#[13, 10]⟩ : ByteArray)) ++ (⟨#[13, 10]⟩ : ByteArray))).size : Int)) = false := decide_eq_false c85
            have c85b8 : decide ((8192 : Int) < (x4_1.size : Int) + (16 + (t161.size : Int) + 2 + 2)) = false := by have h_ := c85; simp only [ByteArray.size_append] at h_; change ¬ (((x4_1.size + (16 + t161.size + 2 + 2) : Nat) : Int) > 8192) at h_; exact decide_eq_false (by omega)
            have c85b1 : decide (8192 < (x4_1 ++ ((((⟨#[67, 111, 110, 116, 101, 110, 116, 45, 76, 101, 110, 103, 116, 104, 58, 32]⟩ : ByteArray) ++ t161) ++ (⟨#[13, 10]⟩ : ByteArray)) ++ (⟨#[13, 10]⟩ : ByteArray))).size) = false := decide_eq_false (by omega)
            clear c85
            by_cases c89 : (x4_1 ++ ((((⟨#[67, 111, 110, 116, 101, 110, 116, 45, 76, 101, 110, 103, 116, 104, 58, 32]⟩ : ByteArray) ++ t161) ++ (⟨#[13, 10]⟩ : ByteArray)) ++ (⟨#[13, 10]⟩ : ByteArray))).size + a0_2.size ≤ 9223372036854775807
            ·rw [if_pos c89] at H
             have c89e := c89
             (try simp only [ByteArray.size_append, gt_iff_lt, ge_iff_le, show (⟨#[13, 10]⟩ : ByteArray).size = 2 from rfl, show (⟨#[67, 111, 110, 116, 101, 110, 116, 45, 76, 101, 110, 103, 116, 104, 58, 32]⟩ : ByteArray).size = 16 from rfl] at c89e)
             (try simp only [Int.natCast_add, Int.cast_ofNat_Int] at c89e)
             (try (have c89e2 := decide_eq_true c89e))
             (try replace c89e := eq_true c89e)
             have c89b0 := eq_true c89
             have c89b1 := decide_eq_true c89
             try have c89b2 := eq_false (Nat.not_lt.2 c89)
             have c89b8 : (9223372036854775807 < x4_1.size + (16 + t161.size + 2 + 2) + a0_2.size) = False := by have h_ := c89; simp only [ByteArray.size_append] at h_; exact eq_false (Nat.not_lt.2 h_)
             simp only [Option.some.injEq, Prod.mk.injEq] at H
             obtain ⟨rfl, rfl⟩ := H
             have hcz90_0 : wr.cell? ⟨gb160, 0, none⟩ = some (.string a0_0) := (zah BK160.out 0).trans rfl
             have hcz90_1 : wr.cell? ⟨gb160, 1, none⟩ = some (.slice A0_1 l0_1.length c0_1) := (zah BK160.out 1).trans rfl
             have hcz90_2 : wr.cell? ⟨gb160, 2, none⟩ = some (.string a0_2) := (zah BK160.out 2).trans rfl
             have hfz90_0 := zai BK160.out 0
             have hfz90_1 := zai BK160.out 1
             have hfz90_2 := zai BK160.out 2
             have hw_ : IntKind.u64.wrap ((a0_2.size : Int)) = (a0_2.size : Int) := by have h_ := of_decide_eq_false c81b1; rw [IntKind.wrap_u64]; omega
             have hn_ : zcm.f (a0_2.size : Int) = some t161 := by rw [← hw_]; exact A76.out
             have HN_ := Aside0.mk hn_
             clear hw_ hn_
             go_wp2_with (first | ((with_reducible refine zar (f := 34) rfl ?_); refine zbr (some 64) rfl rfl Tryz.func34 (by kernel_rfl) rfl #[.int .u64 ((a0_2.size : Int))] rfl (by (try simp only [List.map_toArray, List.map_cons, List.map_nil]); first | done | rfl | (simp only [List.length_drop, List.length_take]; rfl)) ?_; (with_reducible refine (zcm.calls (a0_2.size : Int) t161 _ ?side1 HN_.out).mono ?_); (case side1 => exact LaidM.below HT.out (by repeat (first | (with_reducible first | exact HB.out | apply zac | apply zaa | apply zab | refine zad ?_ GE160.out) | exact HB.out))); rintro e w91 ⟨rfl, hb⟩; refine ⟨_, rfl, ?_⟩; have n0_ := Aside0.mk (zao (g := gb160) (o := .cells #[.string a0_0, .slice A0_1 l0_1.length c0_1, .string a0_2] 50 (0, 0)) (by (with_reducible repeat (first | refine zae ?_ _ | refine zag ?_ | refine zaf ?_ _)); exact BK160.out) hb); have n1_ := Aside0.mk (zam (by repeat (first | (with_reducible first | exact HB.out | apply zac | apply zaa | apply zab | refine zad ?_ GE160.out) | exact HB.out)) hb); clear BK160; clear HB; have BK160 := n0_; have HB := n1_; clear n0_ n1_; (try clear hb); (try clear hb2); (try clear hk); (try clear hi); have hcz92_0 : w91.cell? ⟨gb160, 0, none⟩ = some (.string a0_0) := (zah BK160.out 0).trans rfl; have hcz92_1 : w91.cell? ⟨gb160, 1, none⟩ = some (.slice A0_1 l0_1.length c0_1) := (zah BK160.out 1).trans rfl; have hcz92_2 : w91.cell? ⟨gb160, 2, none⟩ = some (.string a0_2) := (zah BK160.out 2).trans rfl; have hfz92_0 := zai BK160.out 0; have hfz92_1 := zai BK160.out 1; have hfz92_2 := zai BK160.out 2))
             go_ret2
             exact ⟨by first | rfl | (simp [zaq, zap] <;> rfl) | (simp [*, zaq, zap] <;> rfl), by repeat (first | (with_reducible first | exact HB.out | apply zac | apply zaa | apply zab | refine zad ?_ GE160.out) | exact HB.out)⟩
            ·rw [if_neg c89] at H
             have c89e := c89
             (try simp only [ByteArray.size_append, gt_iff_lt, ge_iff_le, show (⟨#[13, 10]⟩ : ByteArray).size = 2 from rfl, show (⟨#[67, 111, 110, 116, 101, 110, 116, 45, 76, 101, 110, 103, 116, 104, 58, 32]⟩ : ByteArray).size = 16 from rfl] at c89e)
             (try simp only [Int.natCast_add, Int.cast_ofNat_Int] at c89e)
             (try (have c89e2 := decide_eq_false c89e))
             (try replace c89e := eq_false c89e)
             exact absurd H (by simp)
         ·rw [if_neg c80] at H
          have c80e := c80
          (try simp only [ByteArray.size_append, gt_iff_lt, ge_iff_le, show (⟨#[13, 10]⟩ : ByteArray).size = 2 from rfl, show (⟨#[67, 111, 110, 116, 101, 110, 116, 45, 76, 101, 110, 103, 116, 104, 58, 32]⟩ : ByteArray).size = 16 from rfl] at c80e)
          (try simp only [Int.natCast_add, Int.cast_ofNat_Int] at c80e)
          (try (have c80e2 := decide_eq_false c80e))
          (try replace c80e := eq_false c80e)
          exact absurd H (by simp)
        ·rw [if_neg c79] at H
         have c79e := c79
         (try simp only [ByteArray.size_append, gt_iff_lt, ge_iff_le, show (⟨#[13, 10]⟩ : ByteArray).size = 2 from rfl, show (⟨#[67, 111, 110, 116, 101, 110, 116, 45, 76, 101, 110, 103, 116, 104, 58, 32]⟩ : ByteArray).size = 16 from rfl] at c79e)
         (try simp only [Int.natCast_add, Int.cast_ofNat_Int] at c79e)
         (try (have c79e2 := decide_eq_false c79e))
         (try replace c79e := eq_false c79e)
         exact absurd H (by simp)
       ·rw [if_neg c78] at H
        have c78e := c78
        (try simp only [ByteArray.size_append, gt_iff_lt, ge_iff_le, show (⟨#[67, 111, 110, 116, 101, 110, 116, 45, 76, 101, 110, 103, 116, 104, 58, 32]⟩ : ByteArray).size = 16 from rfl] at c78e)
        (try simp only [Int.natCast_add, Int.cast_ofNat_Int] at c78e)
        (try (have c78e2 := decide_eq_false c78e))
        (try replace c78e := eq_false c78e)
        exact absurd H (by simp)
      ·rw [if_neg c77] at H
       exact absurd H (by simp)
  ·rw [if_neg c5] at H
   exact absurd H (by simp)
end Go.Proofs.YtipfekjmcddelaaGreatDoor.XHttpWrites
