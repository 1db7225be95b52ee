-- written by wip/xprint.py: the kit's print with functions walked by hand
import Derived.Test.YtipfekjmcddelaaGreatDoorPk
import Derived.Test.YtipfekjmcddelaaGreatDoorXHttpWritesx0
import Derived.Test.YtipfekjmcddelaaGreatDoorXHttpWritesx2
namespace Go.Proofs.YtipfekjmcddelaaGreatDoor.XHttpWrites
open Go.RowKit Go.Proofs.YtipfekjmcddelaaGreatDoorW.zgo Go.Proofs.YtipfekjmcddelaaGreatDoorW.zgp Go.Proofs.YtipfekjmcddelaaGreatDoorW.zgq
attribute [local go_sem] zdk zdi zdx zdw zdc zdb zdj zdh   -- for this text's walks alone
set_option linter.unusedVariables false
set_option linter.unusedSimpArgs false
mutual
def zbd.j0 : Nat → ByteArray → Int → Bool → Option (ByteArray × (List (S62)) × ByteArray × Int × Int)
 | 0, _, _, _ => none
 | k + 1, x0, x7, x25 => if x25 = true then (some ((⟨#[]⟩ : ByteArray), ([] : List (S62)), (⟨#[]⟩ : ByteArray), 0, 91)) else (if x7 < 0 then (some ((⟨#[]⟩ : ByteArray), ([] : List (S62)), (⟨#[]⟩ : ByteArray), 0, 80)) else (if 0 ≤ x7 then (if x7 ≤ (x0.size : Int) then ((strings_Split.f (x0.extract 0 (x7 : Int).toNat) (⟨#[13, 10]⟩ : ByteArray)).bind fun t131 => (if 1 ≤ (t131.length : Int) then ((zau.f k (t131.drop 1)).bind fun bt138 => (if bt138.2.2 = true then (if 0 < (t131.length : Int) then ((zbn.f k (rdOf ByteArray.empty t131 0)).bind fun t144 => (zbd.j1 k x0 x7 t131 bt138.1 bt138.2.1 (!t144))) else (none)) else (zbd.j1 k x0 x7 t131 bt138.1 bt138.2.1 true))) else (none))) else (none)) else (none)))
def zbd.j1 : Nat → ByteArray → Int → List ByteArray → List (S62) → Int → Bool → Option (ByteArray × (List (S62)) × ByteArray × Int × Int)
 | 0, _, _, _, _, _, _ => none
 | k + 1, x0, x7, x8, x9, x10, x50 => if x50 = true then (some ((⟨#[]⟩ : ByteArray), ([] : List (S62)), (⟨#[]⟩ : ByteArray), 0, 80)) else (if (wrap64 ((x0.size : Int) - (wrap64 (x7 + 4)))) < x10 then (some ((⟨#[]⟩ : ByteArray), ([] : List (S62)), (⟨#[]⟩ : ByteArray), 0, 91)) else (if 0 < (x8.length : Int) then (if 0 ≤ (wrap64 (x7 + 4)) then (if (wrap64 (x7 + 4)) ≤ (wrap64 ((wrap64 (x7 + 4)) + x10)) then (if (wrap64 ((wrap64 (x7 + 4)) + x10)) ≤ (x0.size : Int) then (some (rdOf ByteArray.empty x8 0, x9, x0.extract ((wrap64 (x7 + 4)) : Int).toNat ((wrap64 ((wrap64 (x7 + 4)) + x10)) : Int).toNat, wrap64 ((wrap64 (x7 + 4)) + x10), 0)) else (none)) else (none)) else (none)) else (none)))
end
def zbd.f (k : Nat) (a0 : ByteArray) : Option (ByteArray × (List (S62)) × ByteArray × Int × Int) := if 0 ≤ (mn (a0.size : Int) 8192) then (if (mn (a0.size : Int) 8192) ≤ (a0.size : Int) then ((strings_Index.f (a0.extract 0 ((mn (a0.size : Int) 8192) : Int).toNat) (⟨#[13, 10, 13, 10]⟩ : ByteArray)).bind fun t130 => (if t130 < 0 then (zbd.j0 k a0 t130 (decide ((a0.size : Int) < 8192))) else (zbd.j0 k a0 t130 false))) else (none)) else (none)
theorem zbd.zdz : ∀ k, (∀ y0 y1 y2, LeO (zbd.j0 k y0 y1 y2) (zbd.j0 (k + 1) y0 y1 y2)) ∧ (∀ y0 y1 y2 y3 y4 y5, LeO (zbd.j1 k y0 y1 y2 y3 y4 y5) (zbd.j1 (k + 1) y0 y1 y2 y3 y4 y5))
 | 0 => ⟨fun _ _ _ r h => by simp [zbd.j0] at h, fun _ _ _ _ _ _ r h => by simp [zbd.j1] at h⟩
 | k + 1 => by
  obtain ⟨ih0, ih1⟩ := zbd.zdz k
  refine ⟨?_, ?_⟩
  ·intro y0 y1 y2
   unfold zbd.j0
   repeat' first
   | (with_reducible exact ih0 _ _ _)
   | (with_reducible exact ih1 _ _ _ _ _ _)
   | (with_reducible exact zbn.mono _ _)
   | (with_reducible exact zau.mono _ _)
   | (with_reducible exact LeO.refl _)
   | (with_reducible exact LeO.none _)
   | (with_reducible refine LeO.ite ?_ ?_)
   | (with_reducible refine LeO.bind ?_ (fun _ => ?_))
   | exact ih0 _ _ _
   | exact ih1 _ _ _ _ _ _
   | exact zbn.mono _ _
   | exact zau.mono _ _
   | exact LeO.none _
   | refine LeO.ite ?_ ?_
   | refine LeO.bind ?_ (fun _ => ?_)
  ·intro y0 y1 y2 y3 y4 y5
   unfold zbd.j1
   repeat' first
   | (with_reducible exact ih0 _ _ _)
   | (with_reducible exact ih1 _ _ _ _ _ _)
   | (with_reducible exact zbn.mono _ _)
   | (with_reducible exact zau.mono _ _)
   | (with_reducible exact LeO.refl _)
   | (with_reducible exact LeO.none _)
   | (with_reducible refine LeO.ite ?_ ?_)
   | (with_reducible refine LeO.bind ?_ (fun _ => ?_))
   | exact ih0 _ _ _
   | exact ih1 _ _ _ _ _ _
   | exact zbn.mono _ _
   | exact zau.mono _ _
   | exact LeO.none _
   | refine LeO.ite ?_ ?_
   | refine LeO.bind ?_ (fun _ => ?_)
theorem zbd.mono : ∀ a0 k, LeO (zbd.f k a0) (zbd.f (k + 1) a0) := by
 intro a0 k
 obtain ⟨ih0, ih1⟩ := zbd.zdz k
 unfold zbd.f
 repeat' first
   | (with_reducible exact ih0 _ _ _)
   | (with_reducible exact ih1 _ _ _ _ _ _)
   | (with_reducible exact zbn.mono _ _)
   | (with_reducible exact zau.mono _ _)
   | (with_reducible exact LeO.refl _)
   | (with_reducible exact LeO.none _)
   | (with_reducible refine LeO.ite ?_ ?_)
   | (with_reducible refine LeO.bind ?_ (fun _ => ?_))
   | exact ih0 _ _ _
   | exact ih1 _ _ _ _ _ _
   | exact zbn.mono _ _
   | exact zau.mono _ _
   | exact LeO.none _
   | refine LeO.ite ?_ ?_
   | refine LeO.bind ?_ (fun _ => ?_)
def zbd.T13 : Bool × List (List Nat × List Nat) := (true, [([], []), ([0], [0]), ([1], [1]), ([], []), ([], []), ([], []), ([], []), ([], []), ([6, 7], [6, 7]), ([4, 5, 8], [4, 5, 8]), ([2, 3, 9], [2, 3, 9]), ([], []), ([], []), ([11, 12], [11, 12]), ([10, 0, 1, 2, 3, 4, 5, 6, 7, 8, 9, 10], [10]), ([13, 14, 0, 1, 2, 3, 4, 5, 6, 7, 8, 9, 10, 11, 12, 13, 14], [13]), ([15, 0, 1, 2, 3, 4, 5, 6, 7, 8, 9, 10, 11, 12, 13, 14, 15], [])])
def zbd.B13 : List Nat := [0, 1, 3, 0, 0, 0, 0, 0, 192, 496, 1023, 0, 0, 6144, 2047, 32767, 65535]
theorem zbd.tab13 : rtab .any (opsOf Tryz.f18 13) = zbd.T13 := by kernel_rfl
theorem zbd.bits13 : waitsOk zbd.T13.2 zbd.B13 = true := by kernel_rfl
set_option maxHeartbeats 8000000 in
set_option maxRecDepth 100000 in
theorem zbd.calls (k : Nat) (a0 : ByteArray) (r1 : ByteArray) (r2 : List (S62)) (r3 : ByteArray) (r4 : Int) (r5 : Int) (w : World) (hT : LaidM w) (h : zbd.f k a0 = some (r1, r2, r3, r4, r5)) :
  Calls Tryz.prog 18 #[.string a0, .func (.func 19) #[] #[]] w fun e w' => ∃ v1_ : Value, e = .returned (.tuple #[.agg #[.string r1, v1_, .string r3], .int .i64 r4, .int .i64 r5]) ∧ Kd.R k62 62 w' w.heap.size (fun _ => True) v1_ r2 ∧ Below w.heap.size w w' := by
 have hu50 := Tryz.underlying50
 have HB := Aside0.mk (Below.refl w.heap.size w)
 have HT := Aside0.mk hT
 clear hT
 have H : (if 0 ≤ (mn (a0.size : Int) 8192) then (if (mn (a0.size : Int) 8192) ≤ (a0.size : Int) then ((strings_Index.f (a0.extract 0 ((mn (a0.size : Int) 8192) : Int).toNat) (⟨#[13, 10, 13, 10]⟩ : ByteArray)).bind fun t130 => (if t130 < 0 then (zbd.j0 k a0 t130 (decide ((a0.size : Int) < 8192))) else (zbd.j0 k a0 t130 false))) else (none)) else (none)) = some (r1, r2, r3, r4, r5) := h
 clear h
 obtain ⟨ji2, hji2⟩ : ∃ j_ : Int, (mn (a0.size : Int) 8192) = j_ := ⟨_, rfl⟩
 replace H : (if 0 ≤ (ji2) then (if (ji2) ≤ (a0.size : Int) then ((strings_Index.f (a0.extract 0 ((ji2) : Int).toNat) (⟨#[13, 10, 13, 10]⟩ : ByteArray)).bind fun t130 => (if t130 < 0 then (zbd.j0 k a0 t130 (decide ((a0.size : Int) < 8192))) else (zbd.j0 k a0 t130 false))) else (none)) else (none)) = some (r1, r2, r3, r4, r5) := by first | (rw [hji2] at H; exact H) | (simp only [hji2] at H ⊢; exact H)
 (try (have hji2h : ji2 ≤ 8192 := by (rw [← hji2]; unfold mn; (repeat' split) <;> omega)))
 (try (have hji2g : ji2 ≤ 64 := by omega))
 (try (have hji2l : 0 ≤ ji2 := by (rw [← hji2]; unfold mn; (repeat' split) <;> omega)))
 (try (have hji2m : 0 ≤ ji2 := by omega))
 have hji2_ : (if 8192 < (a0.size : Int) then 8192 else (a0.size : Int)) = ji2 := hji2
 by_cases c3 : 0 ≤ (ji2)
 ·rw [if_pos c3] at H
  have c3b0 := eq_true c3
  have c3b1 := decide_eq_true c3
  clear c3
  by_cases c4 : (ji2) ≤ (a0.size : Int)
  ·rw [if_pos c4] at H
   have c4b0 := eq_true c4
   have c4b1 := decide_eq_true c4
   clear c4
   replace H := Option.bind_eq_some_iff.mp H
   obtain ⟨t130, A50, H⟩ := H
   replace H : (if t130 < 0 then (zbd.j0 k a0 t130 (decide ((a0.size : Int) < 8192))) else (zbd.j0 k a0 t130 false)) = some (r1, r2, r3, r4, r5) := H
   have A5 := Aside0.mk A50
   clear A50
   have HC6 := Aside0.mk H
   clear H
   go_enter Tryz.func18, Tryz.ntmps18
   go_upto_region 2 with (first | ((with_reducible refine zbj (N := 4) rfl ?_); (try (refine zbi (by rfl) ?_; dsimp only)); refine zbf ?hg (N := 4) ?hd (cs := #[.string ⟨#[]⟩, .slice none 0 0, .string ⟨#[]⟩]) (t := 50) ?hr ?_; (case hd => rfl); (case hg => rfl); (case hr => first | (go_simp; done) | (go_simp; rfl)); intro gb129 hg w7 hbox hb; have n0_ := Aside0.mk (zam (by repeat (first | (with_reducible first | exact HB.out | apply zac | apply zaa | apply zab) | exact HB.out)) hb); have n1_ := Aside0.mk (hbox); have n2_ := Aside0.mk ((by rw [hg]; exact (zan (by repeat (first | (with_reducible first | exact HB.out | apply zac | apply zaa | apply zab) | exact HB.out))) : w.heap.size ≤ gb129)); have n3_ := Aside0.mk ((by rw [hg]; exact (zan (by repeat (first | (with_reducible first | exact HB.out | apply zac | apply zaa | apply zab) | exact HB.out))) : w.heap.size ≤ gb129)); clear HB; have HB := n0_; have BK129 := n1_; have GW129 := n2_; have GE129 := n3_; clear n0_ n1_ n2_ n3_; clear hb hbox hg) | ((with_reducible refine zar (f := 35) rfl ?_); refine zbr (some 18) rfl rfl Tryz.func35 (by kernel_rfl) rfl #[.string (a0.extract 0 ((ji2) : Int).toNat), .string (⟨#[13, 10, 13, 10]⟩ : ByteArray)] rfl (by (try simp only [List.map_toArray, List.map_cons, List.map_nil]); first | done | (simp only [hji2]; rfl) | rfl | (simp only [List.length_drop, List.length_take]; rfl)) ?_; (with_reducible refine (strings_Index.calls (a0.extract 0 ((ji2) : Int).toNat) (⟨#[13, 10, 13, 10]⟩ : ByteArray) t130 _ ?side1 A5.out).mono ?_); (case side1 => exact LaidM.below HT.out (by repeat (first | (with_reducible first | exact HB.out | apply zac | apply zaa | apply zab | refine zad ?_ GE129.out) | exact HB.out))); rintro e w8 ⟨rfl, hb⟩; refine ⟨_, rfl, ?_⟩; have n0_ := Aside0.mk (zao (g := gb129) (o := .cells #[.string ⟨#[]⟩, .slice none 0 0, .string ⟨#[]⟩] 50 (0, 0)) (by (with_reducible repeat (first | refine zae ?_ _ | refine zag ?_ | refine zaf ?_ _)); exact BK129.out) hb); have n1_ := Aside0.mk (zam (by repeat (first | (with_reducible first | exact HB.out | apply zac | apply zaa | apply zab | refine zad ?_ GE129.out) | exact HB.out)) hb); clear BK129; clear HB; have BK129 := n0_; have HB := n1_; clear n0_ n1_; (try clear hb); (try clear hb2); (try clear hk); (try clear hi)))
   (try simp only [Act.put, List.setIfInBounds_toArray, List.set_cons_zero, List.set_cons_succ])
   go_cut [25] (fun v25 wc => ∃ (kq : Nat) (x25_5 : Bool), v25 = .bool x25_5 ∧ Aside0 (zbd.j0 kq a0 t130 x25_5 = some (r1, r2, r3, r4, r5)) ∧ Aside0 (kq ≤ k) ∧ Aside0 (wc.heap[gb129]? = some (.cells #[.string ⟨#[]⟩, (.slice none 0 0), .string ⟨#[]⟩] 50 (0, 0))) ∧ Aside0 (Below w.heap.size w wc))
   case first =>
    have H := HC6.out
    clear HC6
    by_cases c9 : t130 < 0
    ·rw [if_pos c9] at H
     have c9b0 := decide_eq_true c9
     clear c9
     (first | rw [c9b0] | (simp only [zbq, zbs]; rw [c9b0]) | skip)
     have H' := Aside0.mk H
     clear H
     go_wp2
     go_meet
     case rel => exact ⟨_, (decide ((a0.size : Int) < 8192)), (by first | rfl | (simp; done) | (simp [*]; done)), H', ⟨by first | omega | exact Nat.le_refl _⟩, ⟨by (with_reducible repeat (first | refine zae ?_ _ | refine zag ?_ | refine zaf ?_ _)); exact BK129.out⟩, ⟨by repeat (first | (with_reducible first | exact HB.out | apply zac | apply zaa | apply zab | refine zad ?_ GE129.out) | exact HB.out)⟩⟩
    ·rw [if_neg c9] at H
     have c9b0 : decide (t130 < 0) = false := decide_eq_false c9
     clear c9
     (first | rw [c9b0] | (simp only [zbq, zbs]; rw [c9b0]) | skip)
     have H' := Aside0.mk H
     clear H
     go_wp2
     go_meet
     case rel => exact ⟨_, (false), (by first | rfl | (simp; done) | (simp [*]; done)), H', ⟨by first | omega | exact Nat.le_refl _⟩, ⟨by (with_reducible repeat (first | refine zae ?_ _ | refine zag ?_ | refine zaf ?_ _)); exact BK129.out⟩, ⟨by repeat (first | (with_reducible first | exact HB.out | apply zac | apply zaa | apply zab | refine zad ?_ GE129.out) | exact HB.out)⟩⟩
   case rest =>
    clear HC6
    try clear c1
    try clear p2
    try clear c3
    try clear c3b0
    try clear c3b1
    try clear c4
    try clear c4b0
    try clear c4b1
    try clear c9
    try clear c9b0
    obtain ⟨kq, x25_5, rfl, HA, HJ5, BK129, HB⟩ := hcut
    cases kq with
    | zero => exact absurd HA.out (by simp [zbd.j0])
    | succ kj5 =>
     have H := HA.out
     clear HA
     simp only [zbd.j0] at H
     by_cases c10 : x25_5 = true
     ·subst c10
      have H1 : (some ((⟨#[]⟩ : ByteArray), ([] : List (S62)), (⟨#[]⟩ : ByteArray), 0, 91)) = some (r1, r2, r3, r4, r5) := by rw [if_pos rfl] at H; exact H
      clear H
      have H := H1
      clear H1
      simp only [Option.some.injEq, Prod.mk.injEq] at H
      obtain ⟨rfl, rfl, rfl, rfl, rfl⟩ := H
      have hcz11_0 : wc.cell? ⟨gb129, 0, none⟩ = some (.string ⟨#[]⟩) := (zah BK129.out 0).trans rfl
      have hcz11_1 : wc.cell? ⟨gb129, 1, none⟩ = some (.slice none 0 0) := (zah BK129.out 1).trans rfl
      have hcz11_2 : wc.cell? ⟨gb129, 2, none⟩ = some (.string ⟨#[]⟩) := (zah BK129.out 2).trans rfl
      have hfz11_0 := zai BK129.out 0
      have hfz11_1 := zai BK129.out 1
      have hfz11_2 := zai BK129.out 2
      go_wp2
      refine bodyPost_ret (zcr rfl _ _ gb129 50 #[.string ⟨#[]⟩, .slice none 0 0, .string ⟨#[]⟩] (0, 0) _ rfl (by (with_reducible repeat (first | refine zae ?_ _ | refine zag ?_ | refine zaf ?_ _)); refine zav (cs := #[.string ⟨#[]⟩, .slice none 0 0, .string ⟨#[]⟩]) ?_ 2 _ rfl; (with_reducible repeat (first | refine zae ?_ _ | refine zag ?_ | refine zaf ?_ _)); refine zav (cs := #[.string ⟨#[]⟩, .slice none 0 0, .string ⟨#[]⟩]) ?_ 1 _ rfl; (with_reducible repeat (first | refine zae ?_ _ | refine zag ?_ | refine zaf ?_ _)); refine zav (cs := #[.string ⟨#[]⟩, .slice none 0 0, .string ⟨#[]⟩]) ?_ 0 _ rfl; (with_reducible repeat (first | refine zae ?_ _ | refine zag ?_ | refine zaf ?_ _)); exact BK129.out) Tryz.underlying50 rfl (by kernel_rfl)) rfl ?_
      exact ⟨_, by first | rfl | (simp [zaq, zap] <;> rfl) | (simp only [← hji2]; first | rfl | (simp [zaq, zap] <;> rfl)) | (simp [*, zaq, zap] <;> rfl), by first | exact Kd.zee _ _ _ _ _ | exact Kd.zen _ _ _ _ _ | exact Kd.zek _ _ _ _ _ | exact Kd.zem _ _ _ _ _ | exact Kd.zel _ _ _ _ _, by repeat (first | (with_reducible first | exact HB.out | apply zac | apply zaa | apply zab | refine zad ?_ GE129.out) | exact HB.out)⟩
     ·replace c10 := Bool.eq_false_iff.mpr c10
      subst c10
      have H1 : (if t130 < 0 then (some ((⟨#[]⟩ : ByteArray), ([] : List (S62)), (⟨#[]⟩ : ByteArray), 0, 80)) else (if 0 ≤ t130 then (if t130 ≤ (a0.size : Int) then ((strings_Split.f (a0.extract 0 (t130 : Int).toNat) (⟨#[13, 10]⟩ : ByteArray)).bind fun t131 => (if 1 ≤ (t131.length : Int) then ((zau.f kj5 (t131.drop 1)).bind fun bt138 => (if bt138.2.2 = true then (if 0 < (t131.length : Int) then ((zbn.f kj5 (rdOf ByteArray.empty t131 0)).bind fun t144 => (zbd.j1 kj5 a0 t130 t131 bt138.1 bt138.2.1 (!t144))) else (none)) else (zbd.j1 kj5 a0 t130 t131 bt138.1 bt138.2.1 true))) else (none))) else (none)) else (none))) = some (r1, r2, r3, r4, r5) := by rw [if_neg (show ¬ (false = true) by decide)] at H; exact H
      clear H
      have H := H1
      clear H1
      by_cases c12 : t130 < 0
      ·rw [if_pos c12] at H
       have c12b0 := decide_eq_true c12
       clear c12
       simp only [Option.some.injEq, Prod.mk.injEq] at H
       obtain ⟨rfl, rfl, rfl, rfl, rfl⟩ := H
       have hcz13_0 : wc.cell? ⟨gb129, 0, none⟩ = some (.string ⟨#[]⟩) := (zah BK129.out 0).trans rfl
       have hcz13_1 : wc.cell? ⟨gb129, 1, none⟩ = some (.slice none 0 0) := (zah BK129.out 1).trans rfl
       have hcz13_2 : wc.cell? ⟨gb129, 2, none⟩ = some (.string ⟨#[]⟩) := (zah BK129.out 2).trans rfl
       have hfz13_0 := zai BK129.out 0
       have hfz13_1 := zai BK129.out 1
       have hfz13_2 := zai BK129.out 2
       go_wp2
       refine bodyPost_ret (zcr rfl _ _ gb129 50 #[.string ⟨#[]⟩, .slice none 0 0, .string ⟨#[]⟩] (0, 0) _ rfl (by (with_reducible repeat (first | refine zae ?_ _ | refine zag ?_ | refine zaf ?_ _)); refine zav (cs := #[.string ⟨#[]⟩, .slice none 0 0, .string ⟨#[]⟩]) ?_ 2 _ rfl; (with_reducible repeat (first | refine zae ?_ _ | refine zag ?_ | refine zaf ?_ _)); refine zav (cs := #[.string ⟨#[]⟩, .slice none 0 0, .string ⟨#[]⟩]) ?_ 1 _ rfl; (with_reducible repeat (first | refine zae ?_ _ | refine zag ?_ | refine zaf ?_ _)); refine zav (cs := #[.string ⟨#[]⟩, .slice none 0 0, .string ⟨#[]⟩]) ?_ 0 _ rfl; (with_reducible repeat (first | refine zae ?_ _ | refine zag ?_ | refine zaf ?_ _)); exact BK129.out) Tryz.underlying50 rfl (by kernel_rfl)) rfl ?_
       exact ⟨_, by first | rfl | (simp [zaq, zap] <;> rfl) | (simp only [← hji2]; first | rfl | (simp [zaq, zap] <;> rfl)) | (simp [*, zaq, zap] <;> rfl), by first | exact Kd.zee _ _ _ _ _ | exact Kd.zen _ _ _ _ _ | exact Kd.zek _ _ _ _ _ | exact Kd.zem _ _ _ _ _ | exact Kd.zel _ _ _ _ _, by repeat (first | (with_reducible first | exact HB.out | apply zac | apply zaa | apply zab | refine zad ?_ GE129.out) | exact HB.out)⟩
      ·rw [if_neg c12] at H
       have c12b0 : decide (t130 < 0) = false := decide_eq_false c12
       clear c12
       by_cases c14 : 0 ≤ t130
       ·rw [if_pos c14] at H
        have c14b0 := eq_true c14
        have c14b1 := decide_eq_true c14
        clear c14
        by_cases c15 : t130 ≤ (a0.size : Int)
        ·rw [if_pos c15] at H
         have c15b0 := eq_true c15
         have c15b1 := decide_eq_true c15
         clear c15
         replace H := Option.bind_eq_some_iff.mp H
         obtain ⟨t131, A160, H⟩ := H
         try dsimp only at H
         have A16 := Aside0.mk A160
         clear A160
         by_cases c17 : 1 ≤ (t131.length : Int)
         ·rw [if_pos c17] at H
          have c17b0 := eq_true c17
          have c17b1 := decide_eq_true c17
          clear c17
          obtain ⟨y134, hy134⟩ : ∃ y_ : List ByteArray, y_ = (t131.drop 1) := ⟨_, rfl⟩
          replace H : ((zau.f kj5 y134).bind fun bt138 => (if bt138.2.2 = true then (if 0 < (t131.length : Int) then ((zbn.f kj5 (rdOf ByteArray.empty t131 0)).bind fun t144 => (zbd.j1 kj5 a0 t130 t131 bt138.1 bt138.2.1 (!t144))) else (none)) else (zbd.j1 kj5 a0 t130 t131 bt138.1 bt138.2.1 true))) = some (r1, r2, r3, r4, r5) := by first | (rw [hy134]; with_reducible exact H) | (have H2_ := (Option.bind_some _ _).symm.trans H; rw [hy134]; with_reducible exact H2_) | (have H2_ := (Option.bind_some _ _).symm.trans H; with_reducible exact H2_) | with_reducible exact H | (rw [hy134]; exact H) | exact H
          have Ny134 := Aside0.mk hy134
          clear hy134
          replace H := Option.bind_eq_some_iff.mp H
          obtain ⟨⟨t138, t139, t140⟩, A180, H⟩ := H
          replace H : (if t140 = true then (if 0 < (t131.length : Int) then ((zbn.f kj5 (rdOf ByteArray.empty t131 0)).bind fun t144 => (zbd.j1 kj5 a0 t130 t131 t138 t139 (!t144))) else (none)) else (zbd.j1 kj5 a0 t130 t131 t138 t139 true)) = some (r1, r2, r3, r4, r5) := H
          have A18 := Aside0.mk A180
          clear A180
          have HC19 := Aside0.mk H
          clear H
          go_upto_region 8 with (first | ((with_reducible refine zar (f := 20) rfl ?_); refine zbr (some 33) rfl rfl Tryz.func20 (by kernel_rfl) rfl #[.string (a0.extract 0 (t130 : Int).toNat), .string (⟨#[13, 10]⟩ : ByteArray)] rfl (by (try simp only [List.map_toArray, List.map_cons, List.map_nil]); first | done | rfl | (simp only [List.length_drop, List.length_take]; rfl)) ?_; (with_reducible refine (strings_Split.calls (a0.extract 0 (t130 : Int).toNat) (⟨#[13, 10]⟩ : ByteArray) t131 _ ?side1 A16.out).mono ?_); (case side1 => exact LaidM.below HT.out (by repeat (first | (with_reducible first | exact HB.out | apply zac | apply zaa | apply zab | refine zad ?_ GE129.out) | exact HB.out))); rintro e w20 ⟨v132, rfl, ho0, hb⟩; refine ⟨_, rfl, ?_⟩; have n0_ := Aside0.mk (Kd.zby ho0 (zan (by repeat (first | (with_reducible first | exact HB.out | apply zac | apply zaa | apply zab | refine zad ?_ GE129.out) | exact HB.out)))); have n1_ := Aside0.mk (zao (g := gb129) (o := .cells #[.string ⟨#[]⟩, .slice none 0 0, .string ⟨#[]⟩] 50 (0, 0)) (by (with_reducible repeat (first | refine zae ?_ _ | refine zag ?_ | refine zaf ?_ _)); exact BK129.out) hb); have n2_ := Aside0.mk (zam (by repeat (first | (with_reducible first | exact HB.out | apply zac | apply zaa | apply zab | refine zad ?_ GE129.out) | exact HB.out)) hb); clear BK129; clear HB; have HO133 := n0_; have BK129 := n1_; have HB := n2_; clear n0_ n1_ n2_; (try clear hb); (try clear hb2); (try clear hk); (try clear hi); (try clear ho0); obtain ⟨Ao22, co22, eo22⟩ := Kd.zca HO133.out; subst eo22; have q21 : (1 : Int) ≤ ((t131.length : Int) : Int) := of_decide_eq_true (by first | (with_reducible assumption) | assumption); obtain ⟨i021, hi021, _, hsz21, _⟩ := info_parts info9; have hroom21 : t131.length ≤ co22 := (Kd.zbu HO133.out).2.1; have hC21 : Kd.C Kd.string _ Ao22 t131.length t131 := (Kd.zbu HO133.out).2.2; have hcut21 := cut_from (P := Tryz.prog) 53 9 .i64 Tryz.underlying53 hi021 1 hsz21 Ao22 t131.length co22 1 (by omega) q21; have hr21 := Kd.C_drop (m := (1 : Int).toNat) (c := co22) hC21 (by omega) hroom21; obtain ⟨A21, hA21⟩ : ∃ A1, A1 = (if co22 = (1 : Int).toNat then Ao22 else (Ao22 : Option Addr).map (·.add ((1 : Int).toNat * 1))) := ⟨_, rfl⟩; obtain ⟨c21, hc21⟩ : ∃ c1, c1 = co22 - (1 : Int).toNat := ⟨_, rfl⟩; have hy21 : y134.length = t131.length - (1 : Int).toNat := (by rw [Ny134.out, List.length_drop] <;> omega); rw [show (t131).drop (1 : Int).toNat = y134 from Ny134.out.symm] at hr21; replace hr21 : Kd.C Kd.string _ A21 y134.length y134 := (by rw [hA21]; exact hr21); rw [← hy21, ← hA21, ← hc21] at hcut21; have HR137 := Aside0.mk hr21; have HC137 := Aside0.mk (show y134.length ≤ c21 from by rw [hy21, hc21]; exact Nat.sub_le_sub_right hroom21 _); clear hr21 hC21 hroom21 hi021 hsz21 hc21; have KY21 := Aside0.mk hy21; have KA21 := Aside0.mk hA21; clear hy21 hA21; have KL21 := Aside0.mk (show 1 ≤ t131.length from by omega); replace q21 := eq_true q21) | ((with_reducible refine zar (f := 36) rfl ?_); refine zbr (some 37) rfl rfl Tryz.func36 (by kernel_rfl) rfl #[.slice A21 y134.length c21] rfl (by (try simp only [List.map_toArray, List.map_cons, List.map_nil]); first | done | rfl | (simp only [List.length_drop, List.length_take]; rfl)) ?_; (with_reducible refine (zau.calls kj5 _ _ y134 t138 t139 t140 _ ?side1 ?side2 ?side3 A18.out).mono ?_); (case side1 => repeat (first | exact (by repeat (first | (with_reducible exact HR137.out) | (with_reducible refine Kd.zde ?_ _) | (with_reducible refine Kd.zdd ?_ _) | (with_reducible refine Kd.zdp ?_) | exact HR137.out)) | (with_reducible refine Kd.zde ?_ _) | (with_reducible refine Kd.zdd ?_ _) | (with_reducible refine Kd.zdp ?_))); (case side2 => exact HC137.out); (case side3 => exact LaidM.below HT.out (by repeat (first | (with_reducible first | exact HB.out | apply zac | apply zaa | apply zab | refine zad ?_ GE129.out) | exact HB.out))); rintro e w23 ⟨v141, rfl, ho0, hb⟩; refine ⟨_, rfl, ?_⟩; have n0_ := Aside0.mk (Kd.zbl (by (with_reducible repeat (first | apply Kd.zbc | apply Kd.zbb | apply Kd.zbg)); exact HO133.out) hb); have n1_ := Aside0.mk (Kd.zby ho0 (zan (by repeat (first | (with_reducible first | exact HB.out | apply zac | apply zaa | apply zab | refine zad ?_ GE129.out) | exact HB.out)))); have n2_ := Aside0.mk (zao (g := gb129) (o := .cells #[.string ⟨#[]⟩, .slice none 0 0, .string ⟨#[]⟩] 50 (0, 0)) (by (with_reducible repeat (first | refine zae ?_ _ | refine zag ?_ | refine zaf ?_ _)); exact BK129.out) hb); have n3_ := Aside0.mk (Kd.zdf (by repeat (first | (with_reducible exact HR137.out) | (with_reducible refine Kd.zde ?_ _) | (with_reducible refine Kd.zdd ?_ _) | (with_reducible refine Kd.zdp ?_) | exact HR137.out)) hb); have n4_ := Aside0.mk (zam (by repeat (first | (with_reducible first | exact HB.out | apply zac | apply zaa | apply zab | refine zad ?_ GE129.out) | exact HB.out)) hb); clear HO133; clear BK129; clear HR137; clear HB; have HO133 := n0_; have HO142 := n1_; have BK129 := n2_; have HR137 := n3_; have HB := n4_; clear n0_ n1_ n2_ n3_ n4_; (try clear hb); (try clear hb2); (try clear hk); (try clear hi); (try clear ho0)))
          (try simp only [Act.put, List.setIfInBounds_toArray, List.set_cons_zero, List.set_cons_succ])
          go_cut [50] (fun v50 wc => ∃ (kq : Nat) (x50_18 : Bool), v50 = .bool x50_18 ∧ Aside0 (zbd.j1 kq a0 t130 t131 t138 t139 x50_18 = some (r1, r2, r3, r4, r5)) ∧ Aside0 (kq ≤ kj5) ∧ Aside0 (Kd.R Kd.string 9 wc w.heap.size (fun _ => True) (.slice Ao22 t131.length co22) t131) ∧ Aside0 (Kd.R k62 62 wc w.heap.size (fun _ => True) v141 t138) ∧ Aside0 (wc.heap[gb129]? = some (.cells #[.string ⟨#[]⟩, (.slice none 0 0), .string ⟨#[]⟩] 50 (0, 0))) ∧ Aside0 (Kd.C Kd.string wc A21 y134.length y134) ∧ Aside0 (Below w.heap.size w wc))
          case first =>
           have H := HC19.out
           clear HC19
           by_cases c24 : t140 = true
           ·subst c24
            have H1 : (if 0 < (t131.length : Int) then ((zbn.f kj5 (rdOf ByteArray.empty t131 0)).bind fun t144 => (zbd.j1 kj5 a0 t130 t131 t138 t139 (!t144))) else (none)) = some (r1, r2, r3, r4, r5) := by rw [if_pos rfl] at H; exact H
            clear H
            have H := H1
            clear H1
            by_cases c25 : 0 < (t131.length : Int)
            ·rw [if_pos c25] at H
             have c25b0 := decide_eq_true c25
             have c25b1 : decide (0 < t131.length) = true := decide_eq_true (by omega)
             clear c25
             (first | rw [c25b0] | rw [c25b1] | (simp only [zbq, zbs]; rw [c25b0]) | skip)
             replace H := Option.bind_eq_some_iff.mp H
             obtain ⟨t144, A260, H⟩ := H
             replace H : (zbd.j1 kj5 a0 t130 t131 t138 t139 (!t144)) = some (r1, r2, r3, r4, r5) := H
             have A26 := Aside0.mk A260
             clear A260
             have H' := Aside0.mk H
             clear H
             have p143 : 0 ≤ (0 : Int) := (by omega)
             have q143 : 0 < (t131.length : Int) := of_decide_eq_true (by first | (with_reducible assumption) | assumption)
             obtain ⟨ad143, e143, hx143_0⟩ := Kd.zbw (Kd.zbu HO133.out).2.2 0 p143 q143
             cases e143
             have qi143 : (0 < t131.length) = True := eq_true (by omega)
             (try rw [show ((0 : Int)).toNat = 0 from rfl] at hx143_0)
             (try rw [Addr.add_zero'] at hx143_0)
             replace p143 := eq_true p143
             replace q143 := eq_true q143
             go_wp2_with (first | (go_at_call 19; (with_reducible refine (zbn.calls kj5 (rdOf ByteArray.empty t131 0) t144 _ ?side1 A26.out).mono ?_); (case side1 => exact LaidM.below HT.out (by repeat (first | (with_reducible first | exact HB.out | apply zac | apply zaa | apply zab | refine zad ?_ GE129.out) | exact HB.out))); rintro e w27 ⟨rfl, hb⟩; have n0_ := Aside0.mk (Kd.zbl (by (with_reducible repeat (first | apply Kd.zbc | apply Kd.zbb | apply Kd.zbg)); exact HO133.out) hb); have n1_ := Aside0.mk (Kd.zbl (by (with_reducible repeat (first | apply Kd.zbc | apply Kd.zbb | apply Kd.zbg)); exact HO142.out) hb); have n2_ := Aside0.mk (zao (g := gb129) (o := .cells #[.string ⟨#[]⟩, .slice none 0 0, .string ⟨#[]⟩] 50 (0, 0)) (by (with_reducible repeat (first | refine zae ?_ _ | refine zag ?_ | refine zaf ?_ _)); exact BK129.out) hb); have n3_ := Aside0.mk (Kd.zdf (by repeat (first | (with_reducible exact HR137.out) | (with_reducible refine Kd.zde ?_ _) | (with_reducible refine Kd.zdd ?_ _) | (with_reducible refine Kd.zdp ?_) | exact HR137.out)) hb); have n4_ := Aside0.mk (zam (by repeat (first | (with_reducible first | exact HB.out | apply zac | apply zaa | apply zab | refine zad ?_ GE129.out) | exact HB.out)) hb); clear HO133; clear HO142; clear BK129; clear HR137; clear HB; have HO133 := n0_; have HO142 := n1_; have BK129 := n2_; have HR137 := n3_; have HB := n4_; clear n0_ n1_ n2_ n3_ n4_; (try clear hb); (try clear hb2); (try clear hk); (try clear hi)))
             go_meet
             case rel => exact ⟨_, (!t144), (by first | rfl | (simp; done) | (simp [*]; done)), H', ⟨by have := HJ5.out; first | omega | exact Nat.le_refl _⟩, ⟨by (with_reducible repeat (first | apply Kd.zbc | apply Kd.zbb | apply Kd.zbg)); exact HO133.out⟩, ⟨by (with_reducible repeat (first | apply Kd.zbc | apply Kd.zbb | apply Kd.zbg)); exact HO142.out⟩, ⟨by (with_reducible repeat (first | refine zae ?_ _ | refine zag ?_ | refine zaf ?_ _)); exact BK129.out⟩, ⟨by repeat (first | (with_reducible exact HR137.out) | (with_reducible refine Kd.zde ?_ _) | (with_reducible refine Kd.zdd ?_ _) | (with_reducible refine Kd.zdp ?_) | exact HR137.out)⟩, ⟨by repeat (first | (with_reducible first | exact HB.out | apply zac | apply zaa | apply zab | refine zad ?_ GE129.out) | exact HB.out)⟩⟩
            ·rw [if_neg c25] at H
             exact absurd H (by simp)
           ·replace c24 := Bool.eq_false_iff.mpr c24
            subst c24
            have H1 : (zbd.j1 kj5 a0 t130 t131 t138 t139 true) = some (r1, r2, r3, r4, r5) := by rw [if_neg (show ¬ (false = true) by decide)] at H; exact H
            clear H
            have H := H1
            clear H1
            have H' := Aside0.mk H
            clear H
            go_wp2
            go_meet
            case rel => exact ⟨_, (true), (by first | rfl | (simp; done) | (simp [*]; done)), H', ⟨by have := HJ5.out; first | omega | exact Nat.le_refl _⟩, ⟨by (with_reducible repeat (first | apply Kd.zbc | apply Kd.zbb | apply Kd.zbg)); exact HO133.out⟩, ⟨by (with_reducible repeat (first | apply Kd.zbc | apply Kd.zbb | apply Kd.zbg)); exact HO142.out⟩, ⟨by (with_reducible repeat (first | refine zae ?_ _ | refine zag ?_ | refine zaf ?_ _)); exact BK129.out⟩, ⟨by repeat (first | (with_reducible exact HR137.out) | (with_reducible refine Kd.zde ?_ _) | (with_reducible refine Kd.zdd ?_ _) | (with_reducible refine Kd.zdp ?_) | exact HR137.out)⟩, ⟨by repeat (first | (with_reducible first | exact HB.out | apply zac | apply zaa | apply zab | refine zad ?_ GE129.out) | exact HB.out)⟩⟩
          case rest =>
           clear HC19
           try clear c1
           try clear p1
           try clear q1
           try clear hx1
           try clear qi1
           try clear c2
           try clear p2
           try clear q2
           try clear c3
           try clear c3b0
           try clear c3b1
           try clear c4
           try clear c4b0
           try clear c4b1
           try clear c9
           try clear c9b0
           try clear c10
           try clear c12
           try clear c12b0
           try clear c14
           try clear c14b0
           try clear c14b1
           try clear p14
           try clear q14
           try clear hx14
           try clear qi14
           try clear c15
           try clear c15b0
           try clear c15b1
           try clear c17
           try clear c17b0
           try clear c17b1
           try clear c18
           try clear c20
           try clear c21
           try clear q21
           try clear c24
           try clear c25
           try clear c25b0
           try clear c25b1
           try clear hcz11_0
           try clear hcz11_1
           try clear hcz11_2
           try clear hcz13_0
           try clear hcz13_1
           try clear hcz13_2
           try clear hfz11_0
           try clear hfz11_1
           try clear hfz11_2
           try clear hfz13_0
           try clear hfz13_1
           try clear hfz13_2
           try clear hx143_0
           try clear p143
           try clear p2
           try clear q143
           try clear q21
           obtain ⟨kq, x50_18, rfl, HA, HJ18, HO_8, HO_9, BK129, HR137, HB⟩ := hcut
           cases kq with
           | zero => exact absurd HA.out (by simp [zbd.j1])
           | succ kj18 =>
            have H := HA.out
            clear HA
            simp only [zbd.j1] at H
            by_cases c28 : x50_18 = true
            ·subst c28
             have H1 : (some ((⟨#[]⟩ : ByteArray), ([] : List (S62)), (⟨#[]⟩ : ByteArray), 0, 80)) = some (r1, r2, r3, r4, r5) := by rw [if_pos rfl] at H; exact H
             clear H
             have H := H1
             clear H1
             simp only [Option.some.injEq, Prod.mk.injEq] at H
             obtain ⟨rfl, rfl, rfl, rfl, rfl⟩ := H
             have hcz29_0 : wc.cell? ⟨gb129, 0, none⟩ = some (.string ⟨#[]⟩) := (zah BK129.out 0).trans rfl
             have hcz29_1 : wc.cell? ⟨gb129, 1, none⟩ = some (.slice none 0 0) := (zah BK129.out 1).trans rfl
             have hcz29_2 : wc.cell? ⟨gb129, 2, none⟩ = some (.string ⟨#[]⟩) := (zah BK129.out 2).trans rfl
             have hfz29_0 := zai BK129.out 0
             have hfz29_1 := zai BK129.out 1
             have hfz29_2 := zai BK129.out 2
             go_wp2
             refine bodyPost_ret (zcr rfl _ _ gb129 50 #[.string ⟨#[]⟩, .slice none 0 0, .string ⟨#[]⟩] (0, 0) _ rfl (by (with_reducible repeat (first | refine zae ?_ _ | refine zag ?_ | refine zaf ?_ _)); refine zav (cs := #[.string ⟨#[]⟩, .slice none 0 0, .string ⟨#[]⟩]) ?_ 2 _ rfl; (with_reducible repeat (first | refine zae ?_ _ | refine zag ?_ | refine zaf ?_ _)); refine zav (cs := #[.string ⟨#[]⟩, .slice none 0 0, .string ⟨#[]⟩]) ?_ 1 _ rfl; (with_reducible repeat (first | refine zae ?_ _ | refine zag ?_ | refine zaf ?_ _)); refine zav (cs := #[.string ⟨#[]⟩, .slice none 0 0, .string ⟨#[]⟩]) ?_ 0 _ rfl; (with_reducible repeat (first | refine zae ?_ _ | refine zag ?_ | refine zaf ?_ _)); exact BK129.out) Tryz.underlying50 rfl (by kernel_rfl)) rfl ?_
             exact ⟨_, by first | rfl | (simp [zaq, zap] <;> rfl) | (simp only [← hji2]; first | rfl | (simp [zaq, zap] <;> rfl)) | (simp [*, zaq, zap] <;> rfl), by first | exact Kd.zee _ _ _ _ _ | exact Kd.zen _ _ _ _ _ | exact Kd.zek _ _ _ _ _ | exact Kd.zem _ _ _ _ _ | exact Kd.zel _ _ _ _ _, by repeat (first | (with_reducible first | exact HB.out | apply zac | apply zaa | apply zab | refine zad ?_ GE129.out) | exact HB.out)⟩
            ·replace c28 := Bool.eq_false_iff.mpr c28
             subst c28
             have H1 : (if (wrap64 ((a0.size : Int) - (wrap64 (t130 + 4)))) < t139 then (some ((⟨#[]⟩ : ByteArray), ([] : List (S62)), (⟨#[]⟩ : ByteArray), 0, 91)) else (if 0 < (t131.length : Int) then (if 0 ≤ (wrap64 (t130 + 4)) then (if (wrap64 (t130 + 4)) ≤ (wrap64 ((wrap64 (t130 + 4)) + t139)) then (if (wrap64 ((wrap64 (t130 + 4)) + t139)) ≤ (a0.size : Int) then (some (rdOf ByteArray.empty t131 0, t138, a0.extract ((wrap64 (t130 + 4)) : Int).toNat ((wrap64 ((wrap64 (t130 + 4)) + t139)) : Int).toNat, wrap64 ((wrap64 (t130 + 4)) + t139), 0)) else (none)) else (none)) else (none)) else (none))) = some (r1, r2, r3, r4, r5) := by rw [if_neg (show ¬ (false = true) by decide)] at H; exact H
             clear H
             have H := H1
             clear H1
             by_cases c30 : (wrap64 ((a0.size : Int) - (wrap64 (t130 + 4)))) < t139
             ·rw [if_pos c30] at H
              have c30b0 := decide_eq_true c30
              clear c30
              simp only [Option.some.injEq, Prod.mk.injEq] at H
              obtain ⟨rfl, rfl, rfl, rfl, rfl⟩ := H
              have hcz31_0 : wc.cell? ⟨gb129, 0, none⟩ = some (.string ⟨#[]⟩) := (zah BK129.out 0).trans rfl
              have hcz31_1 : wc.cell? ⟨gb129, 1, none⟩ = some (.slice none 0 0) := (zah BK129.out 1).trans rfl
              have hcz31_2 : wc.cell? ⟨gb129, 2, none⟩ = some (.string ⟨#[]⟩) := (zah BK129.out 2).trans rfl
              have hfz31_0 := zai BK129.out 0
              have hfz31_1 := zai BK129.out 1
              have hfz31_2 := zai BK129.out 2
              go_wp2
              refine bodyPost_ret (zcr rfl _ _ gb129 50 #[.string ⟨#[]⟩, .slice none 0 0, .string ⟨#[]⟩] (0, 0) _ rfl (by (with_reducible repeat (first | refine zae ?_ _ | refine zag ?_ | refine zaf ?_ _)); refine zav (cs := #[.string ⟨#[]⟩, .slice none 0 0, .string ⟨#[]⟩]) ?_ 2 _ rfl; (with_reducible repeat (first | refine zae ?_ _ | refine zag ?_ | refine zaf ?_ _)); refine zav (cs := #[.string ⟨#[]⟩, .slice none 0 0, .string ⟨#[]⟩]) ?_ 1 _ rfl; (with_reducible repeat (first | refine zae ?_ _ | refine zag ?_ | refine zaf ?_ _)); refine zav (cs := #[.string ⟨#[]⟩, .slice none 0 0, .string ⟨#[]⟩]) ?_ 0 _ rfl; (with_reducible repeat (first | refine zae ?_ _ | refine zag ?_ | refine zaf ?_ _)); exact BK129.out) Tryz.underlying50 rfl (by kernel_rfl)) rfl ?_
              exact ⟨_, by first | rfl | (simp [zaq, zap] <;> rfl) | (simp only [← hji2]; first | rfl | (simp [zaq, zap] <;> rfl)) | (simp [*, zaq, zap] <;> rfl), by first | exact Kd.zee _ _ _ _ _ | exact Kd.zen _ _ _ _ _ | exact Kd.zek _ _ _ _ _ | exact Kd.zem _ _ _ _ _ | exact Kd.zel _ _ _ _ _, by repeat (first | (with_reducible first | exact HB.out | apply zac | apply zaa | apply zab | refine zad ?_ GE129.out) | exact HB.out)⟩
             ·rw [if_neg c30] at H
              have c30b0 : decide ((wrap64 ((a0.size : Int) - (wrap64 (t130 + 4)))) < t139) = false := decide_eq_false c30
              clear c30
              by_cases c32 : 0 < (t131.length : Int)
              ·rw [if_pos c32] at H
               have c32b0 := decide_eq_true c32
               have c32b1 : decide (0 < t131.length) = true := decide_eq_true (by omega)
               clear c32
               obtain ⟨ji33, hji33⟩ : ∃ j_ : Int, (wrap64 (t130 + 4)) = j_ := ⟨_, rfl⟩
               replace H : (if 0 ≤ (ji33) then (if (ji33) ≤ (wrap64 ((ji33) + t139)) then (if (wrap64 ((ji33) + t139)) ≤ (a0.size : Int) then (some (rdOf ByteArray.empty t131 0, t138, a0.extract ((ji33) : Int).toNat ((wrap64 ((ji33) + t139)) : Int).toNat, wrap64 ((ji33) + t139), 0)) else (none)) else (none)) else (none)) = some (r1, r2, r3, r4, r5) := by first | (rw [hji33] at H; exact H) | (simp only [hji33] at H ⊢; exact H)
               (try rw [hji33] at c30b0)
               have hji33w : (IntKind.i64.wrap (t130 + 4)) = ji33 := (zbq _).trans hji33
               by_cases c34 : 0 ≤ (ji33)
               ·rw [if_pos c34] at H
                have c34b0 := eq_true c34
                have c34b1 := decide_eq_true c34
                clear c34
                by_cases c35 : (ji33) ≤ (wrap64 ((ji33) + t139))
                ·rw [if_pos c35] at H
                 have c35b0 := eq_true c35
                 have c35b1 := decide_eq_true c35
                 by_cases c36 : (wrap64 ((ji33) + t139)) ≤ (a0.size : Int)
                 ·rw [if_pos c36] at H
                  have c36b0 := eq_true c36
                  have c36b1 := decide_eq_true c36
                  simp only [Option.some.injEq, Prod.mk.injEq] at H
                  obtain ⟨rfl, rfl, rfl, rfl, rfl⟩ := H
                  try go_wp2
                  have n0_ := Aside0.mk (Kd.zbg HO_8.out)
                  have n1_ := Aside0.mk (Kd.zbg HO_9.out)
                  have n2_ := Aside0.mk (zag BK129.out)
                  have n3_ := Aside0.mk (Kd.zdp HR137.out)
                  have n4_ := Aside0.mk (zab HB.out)
                  clear HO_8
                  clear HO_9
                  clear BK129
                  clear HR137
                  clear HB
                  have HO_8 := n0_
                  have HO_9 := n1_
                  have BK129 := n2_
                  have HR137 := n3_
                  have HB := n4_
                  clear n0_ n1_ n2_ n3_ n4_
                  have p145 : 0 ≤ (0 : Int) := (by omega)
                  have q145 : 0 < (t131.length : Int) := of_decide_eq_true (by first | (with_reducible assumption) | assumption)
                  obtain ⟨ad145, e145, hx145_0⟩ := Kd.zbw (Kd.zbu HO_8.out).2.2 0 p145 q145
                  cases e145
                  have qi145 : (0 < t131.length) = True := eq_true (by omega)
                  (try rw [show ((0 : Int)).toNat = 0 from rfl] at hx145_0)
                  (try rw [Addr.add_zero'] at hx145_0)
                  replace p145 := eq_true p145
                  replace q145 := eq_true q145
                  obtain ⟨Ao38, co38, eo38⟩ := Kd.zca HO_9.out
                  (first | subst eo38 | (injection eo38 with f1_ f2_ f3_; have f4_ := f1_.symm; have f5_ := f3_.symm; clear f1_ f2_ f3_; subst f4_; subst f5_))
                  refine zda (n := 17) (S := fun w' => w'.cell? ad145 = some (.string (rdOf ByteArray.empty t131 0))) (ds := []) (bm 17 0) (by kernel_rfl) rfl rfl (hx145_0) (fun hHeld => ?_); refine zci zbd.tab13 zbd.bits13 (fun HT_ HW_ => ?_)
                  generalize wc.drew = w37 at HO_8 HO_9 BK129 HR137 HB hx145_0 hHeld ⊢
                  refine pv_ HT_ 0 (bm 17 1) ?_
                  refine pv_ HT_ 1 (bm 17 3) ?_
                  refine pv_ HT_ 3 (bm 17 11) ?_
                  refine pv_ HT_ 4 (bm 17 27) ?_
                  refine pv_ HT_ 5 (bm 17 59) ?_
                  refine pv_ HT_ 6 (bm 17 123) ?_
                  refine pv_ HT_ 7 (bm 17 251) ?_
                  refine pv_ HT_ 8 (bm 17 507) ?_
                  refine pv_ HT_ 9 (bm 17 1019) ?_
                  refine pv_ HT_ 11 (bm 17 3067) ?_
                  refine pv_ HT_ 12 (bm 17 7163) ?_
                  refine pv_ HT_ 13 (bm 17 15355) ?_
                  refine zcn (i := 2) (N := some 63) (v := ?_) (a' := ?_) (bm 17 15359) rfl rfl (zbk HT_.out HW_.out (by kernel_rfl)) (fun _ _ _ h => h) (Or.inl ⟨by rfl, ?_⟩) hHeld ?_ ?_
                  rotate_left
                  ·intro w' s0
                   go_simp
                   with_reducible rfl
                  rotate_left
                  ·simp only [Act.put, List.setIfInBounds_toArray, List.set_cons_zero, List.set_cons_succ, zbq, zbs]
                   rfl
                  refine pv_ HT_ 10 (bm 17 16383) ?_
                  refine one_ (i := 14) (N := none) (bm 17 32767) rfl rfl (zcg HT_.out (by kernel_rfl)) (by decide) (fun K hK => ?_)
                  have hs39 : w37.cell? ⟨gb129, 0, none⟩ = some (.string ⟨#[]⟩) := (zah BK129.out 0).trans rfl
                  have hfs39 := zai BK129.out 0
                  have hs40 : w37.cell? ⟨gb129, 1, none⟩ = some (.slice none 0 0) := (zah BK129.out 1).trans rfl
                  have hfs40 := zai BK129.out 1
                  have hs41 : w37.cell? ⟨gb129, 2, none⟩ = some (.string ⟨#[]⟩) := (zah BK129.out 2).trans rfl
                  have hfs41 := zai BK129.out 2
                  refine zgl (w1 := ?_) (by rfl) rfl ?_ ?_
                  rotate_left
                  ·go_simp
                   rfl
                  refine hK.out _ _ (((cell_far (p := ⟨gb129, _, none⟩) (by first | exact Kd.zbz (Kd.R_ne HO_8.out BK129.out (by decide)) | (rw [add_block]; exact Kd.zbz (Kd.R_ne HO_8.out BK129.out (by decide))) | (show (Addr.add _ _).block ≠ _; rw [add_block]; exact Kd.zbz (Kd.R_ne HO_8.out BK129.out (by decide))) | (dsimp only; exact Kd.zbz (Kd.R_ne HO_8.out BK129.out (by decide)))) _).trans (((cell_far (p := ⟨gb129, _, none⟩) (by first | exact Kd.zbz (Kd.R_ne HO_8.out BK129.out (by decide)) | (rw [add_block]; exact Kd.zbz (Kd.R_ne HO_8.out BK129.out (by decide))) | (show (Addr.add _ _).block ≠ _; rw [add_block]; exact Kd.zbz (Kd.R_ne HO_8.out BK129.out (by decide))) | (dsimp only; exact Kd.zbz (Kd.R_ne HO_8.out BK129.out (by decide)))) _).trans (((cell_far (p := ⟨gb129, _, none⟩) (by first | exact Kd.zbz (Kd.R_ne HO_8.out BK129.out (by decide)) | (rw [add_block]; exact Kd.zbz (Kd.R_ne HO_8.out BK129.out (by decide))) | (show (Addr.add _ _).block ≠ _; rw [add_block]; exact Kd.zbz (Kd.R_ne HO_8.out BK129.out (by decide))) | (dsimp only; exact Kd.zbz (Kd.R_ne HO_8.out BK129.out (by decide)))) _).trans (hHeld))))))) (fun hHeld => ?_)
                  clear hK K
                  refine pv_ HT_ 15 (bm 17 65535) ?_
                  refine pv_ HT_ 16 (bm 17 131071) ?_
                  refine zdu (zcu HT_.out (by kernel_rfl)) ?_
                  try go_wp2
                  refine bodyPost_ret (zcr rfl _ _ gb129 50 #[.string (rdOf ByteArray.empty t131 0), .slice Ao38 t138.length co38, .string (a0.extract ((ji33) : Int).toNat ((wrap64 ((ji33) + t139)) : Int).toNat)] (0, 0) _ rfl (by (with_reducible repeat (first | refine zae ?_ _ | refine zag ?_ | refine zaf ?_ _)); refine zav (cs := #[.string (rdOf ByteArray.empty t131 0), .slice Ao38 t138.length co38, .string ⟨#[]⟩]) ?_ 2 _ rfl; (with_reducible repeat (first | refine zae ?_ _ | refine zag ?_ | refine zaf ?_ _)); refine zav (cs := #[.string (rdOf ByteArray.empty t131 0), .slice none 0 0, .string ⟨#[]⟩]) ?_ 1 _ rfl; (with_reducible repeat (first | refine zae ?_ _ | refine zag ?_ | refine zaf ?_ _)); refine zav (cs := #[.string ⟨#[]⟩, .slice none 0 0, .string ⟨#[]⟩]) ?_ 0 _ rfl; (with_reducible repeat (first | refine zae ?_ _ | refine zag ?_ | refine zaf ?_ _)); exact BK129.out) Tryz.underlying50 rfl (by kernel_rfl)) rfl ?_
                  exact ⟨_, by first | rfl | (simp [zaq, zap] <;> rfl) | (simp only [← hji2, ← hji33]; first | rfl | (simp [zaq, zap] <;> rfl)) | (simp [*, zaq, zap] <;> rfl), by (with_reducible repeat (first | apply Kd.zbc | apply Kd.zbb | apply Kd.zbg)); exact Kd.zco (Kd.zbp (p := ⟨gb129, 2, none⟩) (Kd.zbp (p := ⟨gb129, 1, none⟩) (Kd.zbp (p := ⟨gb129, 0, none⟩) (Kd.zch HO_9.out BK129.out (by decide)) (fun _ hk => hk.2) (.string (rdOf ByteArray.empty t131 0))) (fun _ hk => hk.2) (.slice Ao38 t138.length co38)) (fun _ hk => hk.2) (.string (a0.extract ((ji33) : Int).toNat ((wrap64 ((ji33) + t139)) : Int).toNat))) (fun _ hk => trivial), by repeat (first | (with_reducible first | exact HB.out | apply zac | apply zaa | apply zab | refine zad ?_ GE129.out) | exact HB.out)⟩
                 ·rw [if_neg c36] at H
                  exact absurd H (by simp)
                ·rw [if_neg c35] at H
                 exact absurd H (by simp)
               ·rw [if_neg c34] at H
                exact absurd H (by simp)
              ·rw [if_neg c32] at H
               exact absurd H (by simp)
         ·rw [if_neg c17] at H
          exact absurd H (by simp)
        ·rw [if_neg c15] at H
         exact absurd H (by simp)
       ·rw [if_neg c14] at H
        exact absurd H (by simp)
  ·rw [if_neg c4] at H
   exact absurd H (by simp)
 ·rw [if_neg c3] at H
  exact absurd H (by simp)
def zat.f (k : Nat) (a0 : ByteArray) : Option (ByteArray × ByteArray × (List (S62)) × ByteArray × Int × Int) := (zbd.f k a0).bind fun bt147 => (if bt147.2.2.2.2 = 0 then ((strings_Split.f bt147.1 (⟨#[32]⟩ : ByteArray)).bind fun t155 => (if 0 < (t155.length : Int) then (if 1 < (t155.length : Int) then (some (rdOf ByteArray.empty t155 0, rdOf ByteArray.empty t155 1, bt147.2.1, bt147.2.2.1, bt147.2.2.2.1, 0)) else (none)) else (none))) else (some ((⟨#[]⟩ : ByteArray), (⟨#[]⟩ : ByteArray), ([] : List (S62)), (⟨#[]⟩ : ByteArray), 0, bt147.2.2.2.2)))
theorem zat.mono : ∀ a0 k, LeO (zat.f k a0) (zat.f (k + 1) a0) := by
 intro a0 k
 unfold zat.f
 repeat' first
   | (with_reducible exact zbd.mono _ _)
   | (with_reducible exact LeO.refl _)
   | (with_reducible exact LeO.none _)
   | (with_reducible refine LeO.ite ?_ ?_)
   | (with_reducible refine LeO.bind ?_ (fun _ => ?_))
   | exact zbd.mono _ _
   | exact LeO.none _
   | refine LeO.ite ?_ ?_
   | refine LeO.bind ?_ (fun _ => ?_)
def zat.T5 : Bool × List (List Nat × List Nat) := (true, [([], []), ([0], [0]), ([1], [1]), ([], []), ([3], [3]), ([4], [4]), ([], []), ([6], [6]), ([], []), ([8], [8]), ([2, 5, 7, 9], [2, 5, 7, 9]), ([], []), ([10, 0, 1, 2, 3, 4, 5, 6, 7, 8, 9, 10], [10]), ([11, 12, 0, 1, 2, 3, 4, 5, 6, 7, 8, 9, 10, 11, 12], [11]), ([13, 0, 1, 2, 3, 4, 5, 6, 7, 8, 9, 10, 11, 12, 13], [])])
def zat.B5 : List Nat := [0, 1, 3, 0, 8, 24, 0, 64, 0, 256, 1023, 0, 2047, 8191, 16383]
theorem zat.tab5 : rtab .any (opsOf Tryz.f6 5) = zat.T5 := by kernel_rfl
theorem zat.bits5 : waitsOk zat.T5.2 zat.B5 = true := by kernel_rfl
set_option maxHeartbeats 8000000 in
set_option maxRecDepth 100000 in
theorem zat.calls (k : Nat) (a0 : ByteArray) (r1 : ByteArray) (r2 : ByteArray) (r3 : List (S62)) (r4 : ByteArray) (r5 : Int) (r6 : Int) (w : World) (hT : LaidM w) (h : zat.f k a0 = some (r1, r2, r3, r4, r5, r6)) :
  Calls Tryz.prog 6 #[.string a0] w fun e w' => ∃ v2_ : Value, e = .returned (.tuple #[.agg #[.string r1, .string r2, v2_, .string r4], .int .i64 r5, .int .i64 r6]) ∧ Kd.R k62 62 w' w.heap.size (fun _ => True) v2_ r3 ∧ Below w.heap.size w w' := by
 have hu25 := Tryz.underlying25
 have hu50 := Tryz.underlying50
 have HB := Aside0.mk (Below.refl w.heap.size w)
 have HT := Aside0.mk hT
 clear hT
 have H : ((zbd.f k a0).bind fun bt147 => (if bt147.2.2.2.2 = 0 then ((strings_Split.f bt147.1 (⟨#[32]⟩ : ByteArray)).bind fun t155 => (if 0 < (t155.length : Int) then (if 1 < (t155.length : Int) then (some (rdOf ByteArray.empty t155 0, rdOf ByteArray.empty t155 1, bt147.2.1, bt147.2.2.1, bt147.2.2.2.1, 0)) else (none)) else (none))) else (some ((⟨#[]⟩ : ByteArray), (⟨#[]⟩ : ByteArray), ([] : List (S62)), (⟨#[]⟩ : ByteArray), 0, bt147.2.2.2.2)))) = some (r1, r2, r3, r4, r5, r6) := h
 clear h
 replace H := Option.bind_eq_some_iff.mp H
 obtain ⟨⟨t147, t148, t151, t152, t153⟩, A20, H⟩ := H
 try dsimp only at H
 have A2 := Aside0.mk A20
 clear A20
 by_cases c3 : t153 = 0
 ·rw [if_pos c3] at H
  have c3b0 : (t153 == 0) = true := beq_iff_eq.mpr c3
  have c3b1 : (t153 != 0) = false := bne_eq_false_iff_eq.mpr c3
  clear c3
  replace H := Option.bind_eq_some_iff.mp H
  obtain ⟨t155, A40, H⟩ := H
  replace H : (if 0 < (t155.length : Int) then (if 1 < (t155.length : Int) then (some (rdOf ByteArray.empty t155 0, rdOf ByteArray.empty t155 1, t148, t151, t152, 0)) else (none)) else (none)) = some (r1, r2, r3, r4, r5, r6) := H
  have A4 := Aside0.mk A40
  clear A40
  by_cases c5 : 0 < (t155.length : Int)
  ·rw [if_pos c5] at H
   have c5b0 := decide_eq_true c5
   have c5b1 : decide (0 < t155.length) = true := decide_eq_true (by omega)
   clear c5
   by_cases c6 : 1 < (t155.length : Int)
   ·rw [if_pos c6] at H
    have c6b0 := decide_eq_true c6
    have c6b1 : decide (1 < t155.length) = true := decide_eq_true (by omega)
    clear c6
    simp only [Option.some.injEq, Prod.mk.injEq] at H
    obtain ⟨rfl, rfl, rfl, rfl, rfl, rfl⟩ := H
    go_enter Tryz.func6, Tryz.ntmps6
    try go_wp2_with (first | ((with_reducible refine zbj (N := 2) rfl ?_); refine zbf ?hg (N := 2) ?hd (cs := #[.string ⟨#[]⟩, .string ⟨#[]⟩, .slice none 0 0, .string ⟨#[]⟩]) (t := 25) ?hr ?_; (case hd => rfl); (case hg => rfl); (case hr => first | (go_simp; done) | (go_simp; rfl)); intro gb146 hg w7 hbox hb; have n0_ := Aside0.mk (zam (by repeat (first | (with_reducible first | exact HB.out | apply zac | apply zaa | apply zab) | exact HB.out)) hb); have n1_ := Aside0.mk (hbox); have n2_ := Aside0.mk ((by rw [hg]; exact (zan (by repeat (first | (with_reducible first | exact HB.out | apply zac | apply zaa | apply zab) | exact HB.out))) : w.heap.size ≤ gb146)); have n3_ := Aside0.mk ((by rw [hg]; exact (zan (by repeat (first | (with_reducible first | exact HB.out | apply zac | apply zaa | apply zab) | exact HB.out))) : w.heap.size ≤ gb146)); clear HB; have HB := n0_; have BK146 := n1_; have GW146 := n2_; have GE146 := n3_; clear n0_ n1_ n2_ n3_; clear hb hbox hg) | ((with_reducible refine zar (f := 18) rfl ?_); refine zbr (some 11) rfl rfl Tryz.func18 (by kernel_rfl) rfl #[.string a0, .func (.func 19) #[] #[]] rfl (by (try simp only [List.map_toArray, List.map_cons, List.map_nil]); first | done | rfl | (simp only [List.length_drop, List.length_take]; rfl)) ?_; (with_reducible refine (zbd.calls k a0 t147 t148 t151 t152 t153 _ ?side1 A2.out).mono ?_); (case side1 => exact LaidM.below HT.out (by repeat (first | (with_reducible first | exact HB.out | apply zac | apply zaa | apply zab | refine zad ?_ GE146.out) | exact HB.out))); rintro e w8 ⟨v149, rfl, ho0, hb⟩; refine ⟨_, rfl, ?_⟩; have n0_ := Aside0.mk (Kd.zby ho0 (zan (by repeat (first | (with_reducible first | exact HB.out | apply zac | apply zaa | apply zab | refine zad ?_ GE146.out) | exact HB.out)))); have n1_ := Aside0.mk (zao (g := gb146) (o := .cells #[.string ⟨#[]⟩, .string ⟨#[]⟩, .slice none 0 0, .string ⟨#[]⟩] 25 (0, 0)) (by (with_reducible repeat (first | refine zae ?_ _ | refine zag ?_ | refine zaf ?_ _)); exact BK146.out) hb); have n2_ := Aside0.mk (zam (by repeat (first | (with_reducible first | exact HB.out | apply zac | apply zaa | apply zab | refine zad ?_ GE146.out) | exact HB.out)) hb); clear BK146; clear HB; have HO150 := n0_; have BK146 := n1_; have HB := n2_; clear n0_ n1_ n2_; (try clear hb); (try clear hb2); (try clear hk); (try clear hi); (try clear ho0)) | ((with_reducible refine zbj (N := 5) rfl ?_); refine zbf ?hg (N := 5) ?hd (cs := #[.string ⟨#[]⟩, .slice none 0 0, .string ⟨#[]⟩]) (t := 50) ?hr ?_; (case hd => rfl); (case hg => rfl); (case hr => first | (go_simp; done) | (go_simp; rfl)); intro gb154 hg w9 hbox hb; have n0_ := Aside0.mk (Kd.zbl (by (with_reducible repeat (first | apply Kd.zbc | apply Kd.zbb | apply Kd.zbg)); exact HO150.out) hb); have n1_ := Aside0.mk (zao (g := gb146) (o := .cells #[.string ⟨#[]⟩, .string ⟨#[]⟩, .slice none 0 0, .string ⟨#[]⟩] 25 (0, 0)) (by (with_reducible repeat (first | refine zae ?_ _ | refine zag ?_ | refine zaf ?_ _)); exact BK146.out) hb); have n2_ := Aside0.mk (zam (by repeat (first | (with_reducible first | exact HB.out | apply zac | apply zaa | apply zab | refine zad ?_ GE146.out) | exact HB.out)) hb); have n3_ := Aside0.mk (hbox); have n4_ := Aside0.mk ((by rw [hg]; exact (zan (by repeat (first | (with_reducible first | exact HB.out | apply zac | apply zaa | apply zab | refine zad ?_ GE146.out) | exact HB.out))) : w.heap.size ≤ gb154)); have n5_ := Aside0.mk ((by rw [hg]; exact (zan (by repeat (first | (with_reducible first | exact HB.out | apply zac | apply zaa | apply zab | refine zad ?_ GE146.out) | exact HB.out))) : w.heap.size ≤ gb154)); have n6_ := Aside0.mk ((by rw [hg]; exact Nat.ne_of_lt (zbv (g := gb146) (o := .cells #[.string ⟨#[]⟩, .string ⟨#[]⟩, .slice none 0 0, .string ⟨#[]⟩] 25 (0, 0)) (by (with_reducible repeat (first | refine zae ?_ _ | refine zag ?_ | refine zaf ?_ _)); exact BK146.out)) : gb146 ≠ gb154)); have n7_ := Aside0.mk ((by rw [hg]; exact Nat.ne_of_gt (zbv (g := gb146) (o := .cells #[.string ⟨#[]⟩, .string ⟨#[]⟩, .slice none 0 0, .string ⟨#[]⟩] 25 (0, 0)) (by (with_reducible repeat (first | refine zae ?_ _ | refine zag ?_ | refine zaf ?_ _)); exact BK146.out)) : gb154 ≠ gb146)); clear HO150; clear BK146; clear HB; have HO150 := n0_; have BK146 := n1_; have HB := n2_; have BK154 := n3_; have GW154 := n4_; have GE154 := n5_; have NB146_154 := n6_; have NB154_146 := n7_; clear n0_ n1_ n2_ n3_ n4_ n5_ n6_ n7_; clear hb hbox hg; have hnb10 := NB154_146.out; have hnc10 := NB146_154.out; have hcz11_0 : w9.cell? ⟨gb154, 0, none⟩ = some (.string ⟨#[]⟩) := (zah BK154.out 0).trans rfl; have hcz11_1 : w9.cell? ⟨gb154, 1, none⟩ = some (.slice none 0 0) := (zah BK154.out 1).trans rfl; have hcz11_2 : w9.cell? ⟨gb154, 2, none⟩ = some (.string ⟨#[]⟩) := (zah BK154.out 2).trans rfl; have hfz11_0 := zai BK154.out 0; have hfz11_1 := zai BK154.out 1; have hfz11_2 := zai BK154.out 2; obtain ⟨Ao12, co12, eo12⟩ := Kd.zca HO150.out; subst eo12) | ((with_reducible refine zar (f := 20) rfl ?_); refine zbr (some 21) rfl rfl Tryz.func20 (by kernel_rfl) rfl #[.string t147, .string (⟨#[32]⟩ : ByteArray)] rfl (by (try simp only [List.map_toArray, List.map_cons, List.map_nil]); first | done | rfl | (simp only [List.length_drop, List.length_take]; rfl)) ?_; (with_reducible refine (strings_Split.calls t147 (⟨#[32]⟩ : ByteArray) t155 _ ?side1 A4.out).mono ?_); (case side1 => exact LaidM.below HT.out (by repeat (first | (with_reducible first | exact HB.out | apply zac | apply zaa | apply zab | refine zad ?_ GE146.out | refine zad ?_ GE154.out) | exact HB.out))); rintro e w13 ⟨v156, rfl, ho0, hb⟩; refine ⟨_, rfl, ?_⟩; have n0_ := Aside0.mk (Kd.zbl (by (with_reducible repeat (first | apply Kd.zbc | apply Kd.zbb | apply Kd.zbg)); exact (Kd.zco (Kd.zbp (p := ⟨gb154, 2, none⟩) (Kd.zbp (p := ⟨gb154, 1, none⟩) (Kd.zbp (p := ⟨gb154, 0, none⟩) (Kd.zch HO150.out BK154.out (by decide)) (fun _ hk => hk.2) (.string t147)) (fun _ hk => hk.2) (.slice Ao12 t148.length co12)) (fun _ hk => hk.2) (.string t151)) (fun _ h_ => h_.1))) hb); have n1_ := Aside0.mk (Kd.zby ho0 (zan (by repeat (first | (with_reducible first | exact HB.out | apply zac | apply zaa | apply zab | refine zad ?_ GE146.out | refine zad ?_ GE154.out) | exact HB.out)))); have n2_ := Aside0.mk (zao (g := gb146) (o := .cells #[.string ⟨#[]⟩, .string ⟨#[]⟩, .slice none 0 0, .string ⟨#[]⟩] 25 (0, 0)) (by (with_reducible repeat (first | refine zae ?_ _ | refine zag ?_ | refine zaf ?_ _)); refine zbx ?_ NB146_154.out _; (with_reducible repeat (first | refine zae ?_ _ | refine zag ?_ | refine zaf ?_ _)); refine zbx ?_ NB146_154.out _; (with_reducible repeat (first | refine zae ?_ _ | refine zag ?_ | refine zaf ?_ _)); refine zbx ?_ NB146_154.out _; (with_reducible repeat (first | refine zae ?_ _ | refine zag ?_ | refine zaf ?_ _)); exact BK146.out) hb); have n3_ := Aside0.mk (zao (g := gb154) (o := .cells #[.string t147, .slice Ao12 t148.length co12, .string t151] 50 (0, 0)) (by (with_reducible repeat (first | refine zae ?_ _ | refine zag ?_ | refine zaf ?_ _)); refine zav (cs := #[.string t147, .slice Ao12 t148.length co12, .string ⟨#[]⟩]) ?_ 2 _ rfl; (with_reducible repeat (first | refine zae ?_ _ | refine zag ?_ | refine zaf ?_ _)); refine zav (cs := #[.string t147, .slice none 0 0, .string ⟨#[]⟩]) ?_ 1 _ rfl; (with_reducible repeat (first | refine zae ?_ _ | refine zag ?_ | refine zaf ?_ _)); refine zav (cs := #[.string ⟨#[]⟩, .slice none 0 0, .string ⟨#[]⟩]) ?_ 0 _ rfl; (with_reducible repeat (first | refine zae ?_ _ | refine zag ?_ | refine zaf ?_ _)); exact BK154.out) hb); have n4_ := Aside0.mk (zam (by repeat (first | (with_reducible first | exact HB.out | apply zac | apply zaa | apply zab | refine zad ?_ GE146.out | refine zad ?_ GE154.out) | exact HB.out)) hb); clear HO150; clear BK146; clear BK154; clear HB; have HO150 := n0_; have HO157 := n1_; have BK146 := n2_; have BK154 := n3_; have HB := n4_; clear n0_ n1_ n2_ n3_ n4_; (try clear hb); (try clear hb2); (try clear hk); (try clear hi); (try clear ho0)))
    have n0_ := Aside0.mk (Kd.zbg HO150.out)
    have n1_ := Aside0.mk (Kd.zbg HO157.out)
    have n2_ := Aside0.mk (zag BK146.out)
    have n3_ := Aside0.mk (zag BK154.out)
    have n4_ := Aside0.mk (zab HB.out)
    clear HO150
    clear HO157
    clear BK146
    clear BK154
    clear HB
    have HO150 := n0_
    have HO157 := n1_
    have BK146 := n2_
    have BK154 := n3_
    have HB := n4_
    clear n0_ n1_ n2_ n3_ n4_
    obtain ⟨Ao15, co15, eo15⟩ := Kd.zca HO157.out
    (first | subst eo15 | (injection eo15 with f1_ f2_ f3_; have f4_ := f1_.symm; have f5_ := f3_.symm; clear f1_ f2_ f3_; subst f4_; subst f5_))
    have p158 : 0 ≤ (0 : Int) := (by omega)
    have q158 : 0 < (t155.length : Int) := of_decide_eq_true (by first | (with_reducible assumption) | assumption)
    obtain ⟨ad158, e158, hx158_0⟩ := Kd.zbw (Kd.zbu HO157.out).2.2 0 p158 q158
    cases e158
    have qi158 : (0 < t155.length) = True := eq_true (by omega)
    (try rw [show ((0 : Int)).toNat = 0 from rfl] at hx158_0)
    (try rw [Addr.add_zero'] at hx158_0)
    replace p158 := eq_true p158
    replace q158 := eq_true q158
    have p159 : 0 ≤ (1 : Int) := (by omega)
    have q159 : 1 < (t155.length : Int) := of_decide_eq_true (by first | (with_reducible assumption) | assumption)
    obtain ⟨ad159, e159, hx159_0⟩ := Kd.zbw (Kd.zbu HO157.out).2.2 1 p159 q159
    obtain rfl : ad158 = ad159 := (by injection e159)
    (try simp only [show (1 : Int).toNat = 1 from rfl, Nat.reduceMul, Nat.reduceEqDiff, Go.Addr.add, ↓reduceIte] at hx159_0)
    have qi159 : (1 < t155.length) = True := eq_true (by omega)
    (try rw [show ((1 : Int)).toNat = 1 from rfl] at hx159_0)
    replace p159 := eq_true p159
    replace q159 := eq_true q159
    refine zda (n := 15) (S := fun w' => w'.cell? ⟨gb154, 0, none⟩ = some (.string t147) ∧ w'.cell? ⟨gb154, 1, none⟩ = some (.slice Ao12 t148.length co12) ∧ w'.cell? ⟨gb154, 2, none⟩ = some (.string t151) ∧ w'.cell? ad158 = some (.string (rdOf ByteArray.empty t155 0)) ∧ w'.cell? ⟨ad158.block, ad158.off + 1, none⟩ = some (.string (rdOf ByteArray.empty t155 1))) (ds := []) (bm 15 0) (by kernel_rfl) rfl rfl ⟨(zah BK154.out 0).trans rfl, (zah BK154.out 1).trans rfl, (zah BK154.out 2).trans rfl, hx158_0, hx159_0⟩ (fun hHeld => ?_); refine zci zat.tab5 zat.bits5 (fun HT_ HW_ => ?_)
    generalize w13.drew = w14 at HO150 HO157 BK146 BK154 HB hx158_0 hx159_0 hHeld ⊢
    refine pv_ HT_ 0 (bm 15 1) ?_
    refine pv_ HT_ 1 (bm 15 3) ?_
    refine pv_ HT_ 3 (bm 15 11) ?_
    refine pv_ HT_ 4 (bm 15 27) ?_
    refine pv_ HT_ 6 (bm 15 91) ?_
    refine pv_ HT_ 8 (bm 15 347) ?_
    refine pv_ HT_ 11 (bm 15 2395) ?_
    refine zcn (i := 2) (N := some 24) (v := ?_) (a' := ?_) (bm 15 2399) rfl rfl (zbk HT_.out HW_.out (by kernel_rfl)) (fun _ _ _ h => h) (Or.inl ⟨by rfl, ?_⟩) hHeld ?_ ?_
    rotate_left
    ·rintro w' ⟨s0, s1, s2, s3, s4⟩
     go_simp
     with_reducible rfl
    rotate_left
    ·simp only [Act.put, List.setIfInBounds_toArray, List.set_cons_zero, List.set_cons_succ, zbq, zbs]
     rfl
    refine zcn (i := 5) (N := some 27) (v := ?_) (a' := ?_) (bm 15 2431) rfl rfl (zbk HT_.out HW_.out (by kernel_rfl)) (fun _ _ _ h => h) (Or.inl ⟨by rfl, ?_⟩) hHeld ?_ ?_
    rotate_left
    ·rintro w' ⟨s0, s1, s2, s3, s4⟩
     go_simp
     with_reducible rfl
    rotate_left
    ·simp only [Act.put, List.setIfInBounds_toArray, List.set_cons_zero, List.set_cons_succ, zbq, zbs]
     rfl
    refine zcn (i := 7) (N := some 29) (v := ?_) (a' := ?_) (bm 15 2559) rfl rfl (zbk HT_.out HW_.out (by kernel_rfl)) (fun _ _ _ h => h) (Or.inl ⟨by rfl, ?_⟩) hHeld ?_ ?_
    rotate_left
    ·rintro w' ⟨s0, s1, s2, s3, s4⟩
     go_simp
     with_reducible rfl
    rotate_left
    ·simp only [Act.put, List.setIfInBounds_toArray, List.set_cons_zero, List.set_cons_succ, zbq, zbs]
     rfl
    refine zcn (i := 9) (N := some 31) (v := ?_) (a' := ?_) (bm 15 3071) rfl rfl (zbk HT_.out HW_.out (by kernel_rfl)) (fun _ _ _ h => h) (Or.inl ⟨by rfl, ?_⟩) hHeld ?_ ?_
    rotate_left
    ·rintro w' ⟨s0, s1, s2, s3, s4⟩
     go_simp
     with_reducible rfl
    rotate_left
    ·simp only [Act.put, List.setIfInBounds_toArray, List.set_cons_zero, List.set_cons_succ, zbq, zbs]
     rfl
    refine pv_ HT_ 10 (bm 15 4095) ?_
    refine one_ (i := 12) (N := none) (bm 15 8191) rfl rfl (zcg HT_.out (by kernel_rfl)) (by decide) (fun K hK => ?_)
    have hs16 : w14.cell? ⟨gb146, 0, none⟩ = some (.string ⟨#[]⟩) := (zah BK146.out 0).trans rfl
    have hfs16 := zai BK146.out 0
    have hns16_1 := NB154_146.out
    have hms16_1 := NB146_154.out
    have hs17 : w14.cell? ⟨gb146, 1, none⟩ = some (.string ⟨#[]⟩) := (zah BK146.out 1).trans rfl
    have hfs17 := zai BK146.out 1
    have hns17_1 := NB154_146.out
    have hms17_1 := NB146_154.out
    have hs18 : w14.cell? ⟨gb146, 2, none⟩ = some (.slice none 0 0) := (zah BK146.out 2).trans rfl
    have hfs18 := zai BK146.out 2
    have hns18_1 := NB154_146.out
    have hms18_1 := NB146_154.out
    have hs19 : w14.cell? ⟨gb146, 3, none⟩ = some (.string ⟨#[]⟩) := (zah BK146.out 3).trans rfl
    have hfs19 := zai BK146.out 3
    have hns19_1 := NB154_146.out
    have hms19_1 := NB146_154.out
    refine zgl (w1 := ?_) (by rfl) rfl ?_ ?_
    rotate_left
    ·go_simp
     rfl
    refine hK.out _ _ ⟨((cell_far (p := ⟨gb146, _, none⟩) NB154_146.out _).trans (((cell_far (p := ⟨gb146, _, none⟩) NB154_146.out _).trans (((cell_far (p := ⟨gb146, _, none⟩) NB154_146.out _).trans (((cell_far (p := ⟨gb146, _, none⟩) NB154_146.out _).trans (hHeld.1)))))))), ((cell_far (p := ⟨gb146, _, none⟩) NB154_146.out _).trans (((cell_far (p := ⟨gb146, _, none⟩) NB154_146.out _).trans (((cell_far (p := ⟨gb146, _, none⟩) NB154_146.out _).trans (((cell_far (p := ⟨gb146, _, none⟩) NB154_146.out _).trans (hHeld.2.1)))))))), ((cell_far (p := ⟨gb146, _, none⟩) NB154_146.out _).trans (((cell_far (p := ⟨gb146, _, none⟩) NB154_146.out _).trans (((cell_far (p := ⟨gb146, _, none⟩) NB154_146.out _).trans (((cell_far (p := ⟨gb146, _, none⟩) NB154_146.out _).trans (hHeld.2.2.1)))))))), ((cell_far (p := ⟨gb146, _, none⟩) (by first | exact Kd.zbz (Kd.R_ne HO157.out BK146.out (by decide)) | (rw [add_block]; exact Kd.zbz (Kd.R_ne HO157.out BK146.out (by decide))) | (show (Addr.add _ _).block ≠ _; rw [add_block]; exact Kd.zbz (Kd.R_ne HO157.out BK146.out (by decide))) | (dsimp only; exact Kd.zbz (Kd.R_ne HO157.out BK146.out (by decide)))) _).trans (((cell_far (p := ⟨gb146, _, none⟩) (by first | exact Kd.zbz (Kd.R_ne HO157.out BK146.out (by decide)) | (rw [add_block]; exact Kd.zbz (Kd.R_ne HO157.out BK146.out (by decide))) | (show (Addr.add _ _).block ≠ _; rw [add_block]; exact Kd.zbz (Kd.R_ne HO157.out BK146.out (by decide))) | (dsimp only; exact Kd.zbz (Kd.R_ne HO157.out BK146.out (by decide)))) _).trans (((cell_far (p := ⟨gb146, _, none⟩) (by first | exact Kd.zbz (Kd.R_ne HO157.out BK146.out (by decide)) | (rw [add_block]; exact Kd.zbz (Kd.R_ne HO157.out BK146.out (by decide))) | (show (Addr.add _ _).block ≠ _; rw [add_block]; exact Kd.zbz (Kd.R_ne HO157.out BK146.out (by decide))) | (dsimp only; exact Kd.zbz (Kd.R_ne HO157.out BK146.out (by decide)))) _).trans (((cell_far (p := ⟨gb146, _, none⟩) (by first | exact Kd.zbz (Kd.R_ne HO157.out BK146.out (by decide)) | (rw [add_block]; exact Kd.zbz (Kd.R_ne HO157.out BK146.out (by decide))) | (show (Addr.add _ _).block ≠ _; rw [add_block]; exact Kd.zbz (Kd.R_ne HO157.out BK146.out (by decide))) | (dsimp only; exact Kd.zbz (Kd.R_ne HO157.out BK146.out (by decide)))) _).trans (hHeld.2.2.2.1)))))))), ((cell_far (p := ⟨gb146, _, none⟩) (by first | exact Kd.zbz (Kd.R_ne HO157.out BK146.out (by decide)) | (rw [add_block]; exact Kd.zbz (Kd.R_ne HO157.out BK146.out (by decide))) | (show (Addr.add _ _).block ≠ _; rw [add_block]; exact Kd.zbz (Kd.R_ne HO157.out BK146.out (by decide))) | (dsimp only; exact Kd.zbz (Kd.R_ne HO157.out BK146.out (by decide)))) _).trans (((cell_far (p := ⟨gb146, _, none⟩) (by first | exact Kd.zbz (Kd.R_ne HO157.out BK146.out (by decide)) | (rw [add_block]; exact Kd.zbz (Kd.R_ne HO157.out BK146.out (by decide))) | (show (Addr.add _ _).block ≠ _; rw [add_block]; exact Kd.zbz (Kd.R_ne HO157.out BK146.out (by decide))) | (dsimp only; exact Kd.zbz (Kd.R_ne HO157.out BK146.out (by decide)))) _).trans (((cell_far (p := ⟨gb146, _, none⟩) (by first | exact Kd.zbz (Kd.R_ne HO157.out BK146.out (by decide)) | (rw [add_block]; exact Kd.zbz (Kd.R_ne HO157.out BK146.out (by decide))) | (show (Addr.add _ _).block ≠ _; rw [add_block]; exact Kd.zbz (Kd.R_ne HO157.out BK146.out (by decide))) | (dsimp only; exact Kd.zbz (Kd.R_ne HO157.out BK146.out (by decide)))) _).trans (((cell_far (p := ⟨gb146, _, none⟩) (by first | exact Kd.zbz (Kd.R_ne HO157.out BK146.out (by decide)) | (rw [add_block]; exact Kd.zbz (Kd.R_ne HO157.out BK146.out (by decide))) | (show (Addr.add _ _).block ≠ _; rw [add_block]; exact Kd.zbz (Kd.R_ne HO157.out BK146.out (by decide))) | (dsimp only; exact Kd.zbz (Kd.R_ne HO157.out BK146.out (by decide)))) _).trans (hHeld.2.2.2.2))))))))⟩ (fun hHeld => ?_)
    clear hK K
    refine pv_ HT_ 13 (bm 15 16383) ?_
    refine pv_ HT_ 14 (bm 15 32767) ?_
    refine zdu (zcu HT_.out (by kernel_rfl)) ?_
    try go_wp2
    refine bodyPost_ret (zcr rfl _ _ gb146 25 #[.string (rdOf ByteArray.empty t155 0), .string (rdOf ByteArray.empty t155 1), .slice Ao12 t148.length co12, .string t151] (0, 0) _ rfl (by (with_reducible repeat (first | refine zae ?_ _ | refine zag ?_ | refine zaf ?_ _)); refine zav (cs := #[.string (rdOf ByteArray.empty t155 0), .string (rdOf ByteArray.empty t155 1), .slice Ao12 t148.length co12, .string ⟨#[]⟩]) ?_ 3 _ rfl; (with_reducible repeat (first | refine zae ?_ _ | refine zag ?_ | refine zaf ?_ _)); refine zav (cs := #[.string (rdOf ByteArray.empty t155 0), .string (rdOf ByteArray.empty t155 1), .slice none 0 0, .string ⟨#[]⟩]) ?_ 2 _ rfl; (with_reducible repeat (first | refine zae ?_ _ | refine zag ?_ | refine zaf ?_ _)); refine zav (cs := #[.string (rdOf ByteArray.empty t155 0), .string ⟨#[]⟩, .slice none 0 0, .string ⟨#[]⟩]) ?_ 1 _ rfl; (with_reducible repeat (first | refine zae ?_ _ | refine zag ?_ | refine zaf ?_ _)); refine zav (cs := #[.string ⟨#[]⟩, .string ⟨#[]⟩, .slice none 0 0, .string ⟨#[]⟩]) ?_ 0 _ rfl; (with_reducible repeat (first | refine zae ?_ _ | refine zag ?_ | refine zaf ?_ _)); exact BK146.out) Tryz.underlying25 rfl (by kernel_rfl)) rfl ?_
    exact ⟨_, by first | rfl | (simp [zaq, zap] <;> rfl) | (simp [*, zaq, zap] <;> rfl), by (with_reducible repeat (first | apply Kd.zbc | apply Kd.zbb | apply Kd.zbg)); exact Kd.zco (Kd.zbp (p := ⟨gb146, 3, none⟩) (Kd.zbp (p := ⟨gb146, 2, none⟩) (Kd.zbp (p := ⟨gb146, 1, none⟩) (Kd.zbp (p := ⟨gb146, 0, none⟩) (Kd.zch HO150.out BK146.out (by decide)) (fun _ hk => hk.2) (.string (rdOf ByteArray.empty t155 0))) (fun _ hk => hk.2) (.string (rdOf ByteArray.empty t155 1))) (fun _ hk => hk.2) (.slice Ao12 t148.length co12)) (fun _ hk => hk.2) (.string t151)) (fun _ hk => trivial), by repeat (first | (with_reducible first | exact HB.out | apply zac | apply zaa | apply zab | refine zad ?_ GE146.out | refine zad ?_ GE154.out) | exact HB.out)⟩
   ·rw [if_neg c6] at H
    exact absurd H (by simp)
  ·rw [if_neg c5] at H
   exact absurd H (by simp)
 ·rw [if_neg c3] at H
  have c3b0 : (t153 == 0) = false := beq_eq_false_iff_ne.mpr c3
  have c3b1 : (t153 != 0) = true := bne_iff_ne.mpr c3
  simp only [Option.some.injEq, Prod.mk.injEq] at H
  obtain ⟨rfl, rfl, rfl, rfl, rfl, rfl⟩ := H
  go_enter Tryz.func6, Tryz.ntmps6
  go_wp2_with (first | ((with_reducible refine zbj (N := 2) rfl ?_); refine zbf ?hg (N := 2) ?hd (cs := #[.string ⟨#[]⟩, .string ⟨#[]⟩, .slice none 0 0, .string ⟨#[]⟩]) (t := 25) ?hr ?_; (case hd => rfl); (case hg => rfl); (case hr => first | (go_simp; done) | (go_simp; rfl)); intro gb146 hg w20 hbox hb; have n0_ := Aside0.mk (zam (by repeat (first | (with_reducible first | exact HB.out | apply zac | apply zaa | apply zab) | exact HB.out)) hb); have n1_ := Aside0.mk (hbox); have n2_ := Aside0.mk ((by rw [hg]; exact (zan (by repeat (first | (with_reducible first | exact HB.out | apply zac | apply zaa | apply zab) | exact HB.out))) : w.heap.size ≤ gb146)); have n3_ := Aside0.mk ((by rw [hg]; exact (zan (by repeat (first | (with_reducible first | exact HB.out | apply zac | apply zaa | apply zab) | exact HB.out))) : w.heap.size ≤ gb146)); clear HB; have HB := n0_; have BK146 := n1_; have GW146 := n2_; have GE146 := n3_; clear n0_ n1_ n2_ n3_; clear hb hbox hg) | ((with_reducible refine zar (f := 18) rfl ?_); refine zbr (some 11) rfl rfl Tryz.func18 (by kernel_rfl) rfl #[.string a0, .func (.func 19) #[] #[]] rfl (by (try simp only [List.map_toArray, List.map_cons, List.map_nil]); first | done | rfl | (simp only [List.length_drop, List.length_take]; rfl)) ?_; (with_reducible refine (zbd.calls k a0 t147 t148 t151 t152 t153 _ ?side1 A2.out).mono ?_); (case side1 => exact LaidM.below HT.out (by repeat (first | (with_reducible first | exact HB.out | apply zac | apply zaa | apply zab | refine zad ?_ GE146.out) | exact HB.out))); rintro e w21 ⟨v149, rfl, ho0, hb⟩; refine ⟨_, rfl, ?_⟩; have n0_ := Aside0.mk (Kd.zby ho0 (zan (by repeat (first | (with_reducible first | exact HB.out | apply zac | apply zaa | apply zab | refine zad ?_ GE146.out) | exact HB.out)))); have n1_ := Aside0.mk (zao (g := gb146) (o := .cells #[.string ⟨#[]⟩, .string ⟨#[]⟩, .slice none 0 0, .string ⟨#[]⟩] 25 (0, 0)) (by (with_reducible repeat (first | refine zae ?_ _ | refine zag ?_ | refine zaf ?_ _)); exact BK146.out) hb); have n2_ := Aside0.mk (zam (by repeat (first | (with_reducible first | exact HB.out | apply zac | apply zaa | apply zab | refine zad ?_ GE146.out) | exact HB.out)) hb); clear BK146; clear HB; have HO150 := n0_; have BK146 := n1_; have HB := n2_; clear n0_ n1_ n2_; (try clear hb); (try clear hb2); (try clear hk); (try clear hi); (try clear ho0)) | ((with_reducible refine zbj (N := 5) rfl ?_); refine zbf ?hg (N := 5) ?hd (cs := #[.string ⟨#[]⟩, .slice none 0 0, .string ⟨#[]⟩]) (t := 50) ?hr ?_; (case hd => rfl); (case hg => rfl); (case hr => first | (go_simp; done) | (go_simp; rfl)); intro gb154 hg w22 hbox hb; have n0_ := Aside0.mk (Kd.zbl (by (with_reducible repeat (first | apply Kd.zbc | apply Kd.zbb | apply Kd.zbg)); exact HO150.out) hb); have n1_ := Aside0.mk (zao (g := gb146) (o := .cells #[.string ⟨#[]⟩, .string ⟨#[]⟩, .slice none 0 0, .string ⟨#[]⟩] 25 (0, 0)) (by (with_reducible repeat (first | refine zae ?_ _ | refine zag ?_ | refine zaf ?_ _)); exact BK146.out) hb); have n2_ := Aside0.mk (zam (by repeat (first | (with_reducible first | exact HB.out | apply zac | apply zaa | apply zab | refine zad ?_ GE146.out) | exact HB.out)) hb); have n3_ := Aside0.mk (hbox); have n4_ := Aside0.mk ((by rw [hg]; exact (zan (by repeat (first | (with_reducible first | exact HB.out | apply zac | apply zaa | apply zab | refine zad ?_ GE146.out) | exact HB.out))) : w.heap.size ≤ gb154)); have n5_ := Aside0.mk ((by rw [hg]; exact (zan (by repeat (first | (with_reducible first | exact HB.out | apply zac | apply zaa | apply zab | refine zad ?_ GE146.out) | exact HB.out))) : w.heap.size ≤ gb154)); have n6_ := Aside0.mk ((by rw [hg]; exact Nat.ne_of_lt (zbv (g := gb146) (o := .cells #[.string ⟨#[]⟩, .string ⟨#[]⟩, .slice none 0 0, .string ⟨#[]⟩] 25 (0, 0)) (by (with_reducible repeat (first | refine zae ?_ _ | refine zag ?_ | refine zaf ?_ _)); exact BK146.out)) : gb146 ≠ gb154)); have n7_ := Aside0.mk ((by rw [hg]; exact Nat.ne_of_gt (zbv (g := gb146) (o := .cells #[.string ⟨#[]⟩, .string ⟨#[]⟩, .slice none 0 0, .string ⟨#[]⟩] 25 (0, 0)) (by (with_reducible repeat (first | refine zae ?_ _ | refine zag ?_ | refine zaf ?_ _)); exact BK146.out)) : gb154 ≠ gb146)); clear HO150; clear BK146; clear HB; have HO150 := n0_; have BK146 := n1_; have HB := n2_; have BK154 := n3_; have GW154 := n4_; have GE154 := n5_; have NB146_154 := n6_; have NB154_146 := n7_; clear n0_ n1_ n2_ n3_ n4_ n5_ n6_ n7_; clear hb hbox hg; have hnb23 := NB154_146.out; have hnc23 := NB146_154.out; have hcz24_0 : w22.cell? ⟨gb154, 0, none⟩ = some (.string ⟨#[]⟩) := (zah BK154.out 0).trans rfl; have hcz24_1 : w22.cell? ⟨gb154, 1, none⟩ = some (.slice none 0 0) := (zah BK154.out 1).trans rfl; have hcz24_2 : w22.cell? ⟨gb154, 2, none⟩ = some (.string ⟨#[]⟩) := (zah BK154.out 2).trans rfl; have hfz24_0 := zai BK154.out 0; have hfz24_1 := zai BK154.out 1; have hfz24_2 := zai BK154.out 2; obtain ⟨Ao25, co25, eo25⟩ := Kd.zca HO150.out; subst eo25; have hcz26_0 : w22.cell? ⟨gb146, 0, none⟩ = some (.string ⟨#[]⟩) := (zah BK146.out 0).trans rfl; have hcz26_1 : w22.cell? ⟨gb146, 1, none⟩ = some (.string ⟨#[]⟩) := (zah BK146.out 1).trans rfl; have hcz26_2 : w22.cell? ⟨gb146, 2, none⟩ = some (.slice none 0 0) := (zah BK146.out 2).trans rfl; have hcz26_3 : w22.cell? ⟨gb146, 3, none⟩ = some (.string ⟨#[]⟩) := (zah BK146.out 3).trans rfl; have hfz26_0 := zai BK146.out 0; have hfz26_1 := zai BK146.out 1; have hfz26_2 := zai BK146.out 2; have hfz26_3 := zai BK146.out 3))
  refine bodyPost_ret (zcr rfl _ _ gb146 25 #[.string ⟨#[]⟩, .string ⟨#[]⟩, .slice none 0 0, .string ⟨#[]⟩] (0, 0) _ rfl (by (with_reducible repeat (first | refine zae ?_ _ | refine zag ?_ | refine zaf ?_ _)); refine zav (cs := #[.string ⟨#[]⟩, .string ⟨#[]⟩, .slice none 0 0, .string ⟨#[]⟩]) ?_ 3 _ rfl; (with_reducible repeat (first | refine zae ?_ _ | refine zag ?_ | refine zaf ?_ _)); refine zav (cs := #[.string ⟨#[]⟩, .string ⟨#[]⟩, .slice none 0 0, .string ⟨#[]⟩]) ?_ 2 _ rfl; (with_reducible repeat (first | refine zae ?_ _ | refine zag ?_ | refine zaf ?_ _)); refine zav (cs := #[.string ⟨#[]⟩, .string ⟨#[]⟩, .slice none 0 0, .string ⟨#[]⟩]) ?_ 1 _ rfl; (with_reducible repeat (first | refine zae ?_ _ | refine zag ?_ | refine zaf ?_ _)); refine zav (cs := #[.string ⟨#[]⟩, .string ⟨#[]⟩, .slice none 0 0, .string ⟨#[]⟩]) ?_ 0 _ rfl; (with_reducible repeat (first | refine zae ?_ _ | refine zag ?_ | refine zaf ?_ _)); refine zbx ?_ NB146_154.out _; (with_reducible repeat (first | refine zae ?_ _ | refine zag ?_ | refine zaf ?_ _)); refine zbx ?_ NB146_154.out _; (with_reducible repeat (first | refine zae ?_ _ | refine zag ?_ | refine zaf ?_ _)); refine zbx ?_ NB146_154.out _; (with_reducible repeat (first | refine zae ?_ _ | refine zag ?_ | refine zaf ?_ _)); exact BK146.out) Tryz.underlying25 rfl (by kernel_rfl)) rfl ?_
  exact ⟨_, by first | rfl | (simp [zaq, zap] <;> rfl) | (simp [*, zaq, zap] <;> rfl), by first | exact Kd.zee _ _ _ _ _ | exact Kd.zen _ _ _ _ _ | exact Kd.zek _ _ _ _ _ | exact Kd.zem _ _ _ _ _ | exact Kd.zel _ _ _ _ _, by repeat (first | (with_reducible first | exact HB.out | apply zac | apply zaa | apply zab | refine zad ?_ GE146.out | refine zad ?_ GE154.out) | exact HB.out)⟩
def zcx.f (n : Int) : Option ByteArray := if (Lit.int .i64 n).wf = true then some (reasonV n) else none
theorem zcx.calls (n : Int) (r : ByteArray) (w : World) (hT : LaidM w) (h : zcx.f n = some r) :
  Calls Tryz.prog 17 #[.int .i64 n] w fun e w' => e = .returned (.string r) ∧ Below w.heap.size w w' := by
 unfold zcx.f at h
 split at h
 ·rename_i hc
  injection h with h
  subst h
  exact reason_any n hc w
 ·cases h
def zcm.f (n : Int) : Option (ByteArray) := if 0 ≤ n ∧ n < 18446744073709551616 then some ⟨(Lib.decDigits n.toNat).toArray⟩ else none
theorem zcm.calls (n : Int) (r : ByteArray) (w : World) (hT : LaidM w) (h : zcm.f n = some r) :
  Calls Tryz.prog 34 #[.int .u64 n] w fun e w' => e = .returned (.string r) ∧ Below w.heap.size w w' := by
 replace hT := hT.laid
 unfold zcm.f at h
 split at h
 ·rename_i hc
  obtain ⟨h1, h2⟩ := hc
  obtain rfl := Option.some.inj h
  have := decimal_any n.toNat (by omega) w hT
  rw [Int.toNat_of_nonneg h1] at this
  exact this
 ·cases h
end Go.Proofs.YtipfekjmcddelaaGreatDoor.XHttpWrites
