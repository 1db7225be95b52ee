-- written by wip/xprint.py: the kit's print with functions walked by hand
import Derived.Test.YtipfekjmcddelaaGreatDoorPk
import Derived.Test.YtipfekjmcddelaaGreatDoorXHttpWritesx0
import Derived.Test.YtipfekjmcddelaaGreatDoorXHttpWritesx2
import Derived.Test.YtipfekjmcddelaaGreatDoorXHttpWritesx4
import Derived.Test.YtipfekjmcddelaaGreatDoorXHttpWritesx5
namespace Go.Proofs.YtipfekjmcddelaaGreatDoor.XHttpWrites
open Go.RowKit Go.Proofs.YtipfekjmcddelaaGreatDoorW.zgo Go.Proofs.YtipfekjmcddelaaGreatDoorW.zgp Go.Proofs.YtipfekjmcddelaaGreatDoorW.zgq
attribute [local go_sem] zdk zdi zdx zdw zdc zdb zdj zdh   -- for this text's walks alone
set_option linter.unusedVariables false
set_option linter.unusedSimpArgs false
mutual
def zbe.j0 : Nat → ByteArray → Int → Bool → Option (ByteArray × (List (S62)) × ByteArray × Int × Int)
 | 0, _, _, _ => none
 | k + 1, x0, x7, x25 => if x25 = true then (some ((⟨#[]⟩ : ByteArray), ([] : List (S62)), (⟨#[]⟩ : ByteArray), 0, 91)) else (if x7 < 0 then (some ((⟨#[]⟩ : ByteArray), ([] : List (S62)), (⟨#[]⟩ : ByteArray), 0, 80)) else (if 0 ≤ x7 then (if x7 ≤ (x0.size : Int) then ((strings_Split.f (x0.extract 0 (x7 : Int).toNat) (⟨#[13, 10]⟩ : ByteArray)).bind fun t209 => (if 1 ≤ (t209.length : Int) then ((zau.f k (t209.drop 1)).bind fun bt216 => (if bt216.2.2 = true then (if 0 < (t209.length : Int) then ((zcd.f k (rdOf ByteArray.empty t209 0)).bind fun t222 => (zbe.j1 k x0 x7 t209 bt216.1 bt216.2.1 (!t222))) else (none)) else (zbe.j1 k x0 x7 t209 bt216.1 bt216.2.1 true))) else (none))) else (none)) else (none)))
def zbe.j1 : Nat → ByteArray → Int → List ByteArray → List (S62) → Int → Bool → Option (ByteArray × (List (S62)) × ByteArray × Int × Int)
 | 0, _, _, _, _, _, _ => none
 | k + 1, x0, x7, x8, x9, x10, x50 => if x50 = true then (some ((⟨#[]⟩ : ByteArray), ([] : List (S62)), (⟨#[]⟩ : ByteArray), 0, 80)) else (if (wrap64 ((x0.size : Int) - (wrap64 (x7 + 4)))) < x10 then (some ((⟨#[]⟩ : ByteArray), ([] : List (S62)), (⟨#[]⟩ : ByteArray), 0, 91)) else (if 0 < (x8.length : Int) then (if 0 ≤ (wrap64 (x7 + 4)) then (if (wrap64 (x7 + 4)) ≤ (wrap64 ((wrap64 (x7 + 4)) + x10)) then (if (wrap64 ((wrap64 (x7 + 4)) + x10)) ≤ (x0.size : Int) then (some (rdOf ByteArray.empty x8 0, x9, x0.extract ((wrap64 (x7 + 4)) : Int).toNat ((wrap64 ((wrap64 (x7 + 4)) + x10)) : Int).toNat, wrap64 ((wrap64 (x7 + 4)) + x10), 0)) else (none)) else (none)) else (none)) else (none)))
end
def zbe.f (k : Nat) (a0 : ByteArray) : Option (ByteArray × (List (S62)) × ByteArray × Int × Int) := if 0 ≤ (mn (a0.size : Int) 8192) then (if (mn (a0.size : Int) 8192) ≤ (a0.size : Int) then ((strings_Index.f (a0.extract 0 ((mn (a0.size : Int) 8192) : Int).toNat) (⟨#[13, 10, 13, 10]⟩ : ByteArray)).bind fun t208 => (if t208 < 0 then (zbe.j0 k a0 t208 (decide ((a0.size : Int) < 8192))) else (zbe.j0 k a0 t208 false))) else (none)) else (none)
def zbe.T13 : Bool × List (List Nat × List Nat) := (true, [([], []), ([0], [0]), ([1], [1]), ([], []), ([], []), ([], []), ([], []), ([], []), ([6, 7], [6, 7]), ([4, 5, 8], [4, 5, 8]), ([2, 3, 9], [2, 3, 9]), ([], []), ([], []), ([11, 12], [11, 12]), ([10, 0, 1, 2, 3, 4, 5, 6, 7, 8, 9, 10], [10]), ([13, 14, 0, 1, 2, 3, 4, 5, 6, 7, 8, 9, 10, 11, 12, 13, 14], [13]), ([15, 0, 1, 2, 3, 4, 5, 6, 7, 8, 9, 10, 11, 12, 13, 14, 15], [])])
def zbe.B13 : List Nat := [0, 1, 3, 0, 0, 0, 0, 0, 192, 496, 1023, 0, 0, 6144, 2047, 32767, 65535]
theorem zbe.tab13 : rtab .any (opsOf Tryz.f18 13) = zbe.T13 := by kernel_rfl
theorem zbe.bits13 : waitsOk zbe.T13.2 zbe.B13 = true := by kernel_rfl
set_option maxHeartbeats 8000000 in
set_option maxRecDepth 100000 in
theorem zbe.calls (k : Nat) (a0 : ByteArray) (r1 : ByteArray) (r2 : List (S62)) (r3 : ByteArray) (r4 : Int) (r5 : Int) (w : World) (hT : LaidM w) (h : zbe.f k a0 = some (r1, r2, r3, r4, r5)) :
  Calls Tryz.prog 18 #[.string a0, .func (.func 25) #[] #[]] w fun e w' => ∃ v1_ : Value, e = .returned (.tuple #[.agg #[.string r1, v1_, .string r3], .int .i64 r4, .int .i64 r5]) ∧ Kd.R k62 62 w' w.heap.size (fun _ => True) v1_ r2 ∧ Below w.heap.size w w' := by
 have hu50 := Tryz.underlying50
 have HB := Aside0.mk (Below.refl w.heap.size w)
 have HT := Aside0.mk hT
 clear hT
 have H : (if 0 ≤ (mn (a0.size : Int) 8192) then (if (mn (a0.size : Int) 8192) ≤ (a0.size : Int) then ((strings_Index.f (a0.extract 0 ((mn (a0.size : Int) 8192) : Int).toNat) (⟨#[13, 10, 13, 10]⟩ : ByteArray)).bind fun t208 => (if t208 < 0 then (zbe.j0 k a0 t208 (decide ((a0.size : Int) < 8192))) else (zbe.j0 k a0 t208 false))) else (none)) else (none)) = some (r1, r2, r3, r4, r5) := h
 clear h
 obtain ⟨ji2, hji2⟩ : ∃ j_ : Int, (mn (a0.size : Int) 8192) = j_ := ⟨_, rfl⟩
 replace H : (if 0 ≤ (ji2) then (if (ji2) ≤ (a0.size : Int) then ((strings_Index.f (a0.extract 0 ((ji2) : Int).toNat) (⟨#[13, 10, 13, 10]⟩ : ByteArray)).bind fun t208 => (if t208 < 0 then (zbe.j0 k a0 t208 (decide ((a0.size : Int) < 8192))) else (zbe.j0 k a0 t208 false))) else (none)) else (none)) = some (r1, r2, r3, r4, r5) := by first | (rw [hji2] at H; exact H) | (simp only [hji2] at H ⊢; exact H)
 (try (have hji2h : ji2 ≤ 8192 := by (rw [← hji2]; unfold mn; (repeat' split) <;> omega)))
 (try (have hji2g : ji2 ≤ 64 := by omega))
 (try (have hji2l : 0 ≤ ji2 := by (rw [← hji2]; unfold mn; (repeat' split) <;> omega)))
 (try (have hji2m : 0 ≤ ji2 := by omega))
 have hji2_ : (if 8192 < (a0.size : Int) then 8192 else (a0.size : Int)) = ji2 := hji2
 by_cases c3 : 0 ≤ (ji2)
 ·rw [if_pos c3] at H
  have c3b0 := eq_true c3
  have c3b1 := decide_eq_true c3
  clear c3
  by_cases c4 : (ji2) ≤ (a0.size : Int)
  ·rw [if_pos c4] at H
   have c4b0 := eq_true c4
   have c4b1 := decide_eq_true c4
   clear c4
   replace H := Option.bind_eq_some_iff.mp H
   obtain ⟨t208, A50, H⟩ := H
   replace H : (if t208 < 0 then (zbe.j0 k a0 t208 (decide ((a0.size : Int) < 8192))) else (zbe.j0 k a0 t208 false)) = some (r1, r2, r3, r4, r5) := H
   have A5 := Aside0.mk A50
   clear A50
   have HC6 := Aside0.mk H
   clear H
   go_enter Tryz.func18, Tryz.ntmps18
   go_upto_region 2 with (first | ((with_reducible refine zbj (N := 4) rfl ?_); (try (refine zbi (by rfl) ?_; dsimp only)); refine zbf ?hg (N := 4) ?hd (cs := #[.string ⟨#[]⟩, .slice none 0 0, .string ⟨#[]⟩]) (t := 50) ?hr ?_; (case hd => rfl); (case hg => rfl); (case hr => first | (go_simp; done) | (go_simp; rfl)); intro gb207 hg w7 hbox hb; have n0_ := Aside0.mk (zam (by repeat (first | (with_reducible first | exact HB.out | apply zac | apply zaa | apply zab) | exact HB.out)) hb); have n1_ := Aside0.mk (hbox); have n2_ := Aside0.mk ((by rw [hg]; exact (zan (by repeat (first | (with_reducible first | exact HB.out | apply zac | apply zaa | apply zab) | exact HB.out))) : w.heap.size ≤ gb207)); have n3_ := Aside0.mk ((by rw [hg]; exact (zan (by repeat (first | (with_reducible first | exact HB.out | apply zac | apply zaa | apply zab) | exact HB.out))) : w.heap.size ≤ gb207)); clear HB; have HB := n0_; have BK207 := n1_; have GW207 := n2_; have GE207 := n3_; clear n0_ n1_ n2_ n3_; clear hb hbox hg) | ((with_reducible refine zar (f := 35) rfl ?_); refine zbr (some 18) rfl rfl Tryz.func35 (by kernel_rfl) rfl #[.string (a0.extract 0 ((ji2) : Int).toNat), .string (⟨#[13, 10, 13, 10]⟩ : ByteArray)] rfl (by (try simp only [List.map_toArray, List.map_cons, List.map_nil]); first | done | (simp only [hji2]; rfl) | rfl | (simp only [List.length_drop, List.length_take]; rfl)) ?_; (with_reducible refine (strings_Index.calls (a0.extract 0 ((ji2) : Int).toNat) (⟨#[13, 10, 13, 10]⟩ : ByteArray) t208 _ ?side1 A5.out).mono ?_); (case side1 => exact LaidM.below HT.out (by repeat (first | (with_reducible first | exact HB.out | apply zac | apply zaa | apply zab | refine zad ?_ GE207.out) | exact HB.out))); rintro e w8 ⟨rfl, hb⟩; refine ⟨_, rfl, ?_⟩; have n0_ := Aside0.mk (zao (g := gb207) (o := .cells #[.string ⟨#[]⟩, .slice none 0 0, .string ⟨#[]⟩] 50 (0, 0)) (by (with_reducible repeat (first | refine zae ?_ _ | refine zag ?_ | refine zaf ?_ _)); exact BK207.out) hb); have n1_ := Aside0.mk (zam (by repeat (first | (with_reducible first | exact HB.out | apply zac | apply zaa | apply zab | refine zad ?_ GE207.out) | exact HB.out)) hb); clear BK207; clear HB; have BK207 := n0_; have HB := n1_; clear n0_ n1_; (try clear hb); (try clear hb2); (try clear hk); (try clear hi)))
   (try simp only [Act.put, List.setIfInBounds_toArray, List.set_cons_zero, List.set_cons_succ])
   go_cut [25] (fun v25 wc => ∃ (kq : Nat) (x25_5 : Bool), v25 = .bool x25_5 ∧ Aside0 (zbe.j0 kq a0 t208 x25_5 = some (r1, r2, r3, r4, r5)) ∧ Aside0 (kq ≤ k) ∧ Aside0 (wc.heap[gb207]? = some (.cells #[.string ⟨#[]⟩, (.slice none 0 0), .string ⟨#[]⟩] 50 (0, 0))) ∧ Aside0 (Below w.heap.size w wc))
   case first =>
    have H := HC6.out
    clear HC6
    by_cases c9 : t208 < 0
    ·rw [if_pos c9] at H
     have c9b0 := decide_eq_true c9
     clear c9
     (first | rw [c9b0] | (simp only [zbq, zbs]; rw [c9b0]) | skip)
     have H' := Aside0.mk H
     clear H
     go_wp2
     go_meet
     case rel => exact ⟨_, (decide ((a0.size : Int) < 8192)), (by first | rfl | (simp; done) | (simp [*]; done)), H', ⟨by first | omega | exact Nat.le_refl _⟩, ⟨by (with_reducible repeat (first | refine zae ?_ _ | refine zag ?_ | refine zaf ?_ _)); exact BK207.out⟩, ⟨by repeat (first | (with_reducible first | exact HB.out | apply zac | apply zaa | apply zab | refine zad ?_ GE207.out) | exact HB.out)⟩⟩
    ·rw [if_neg c9] at H
     have c9b0 : decide (t208 < 0) = false := decide_eq_false c9
     clear c9
     (first | rw [c9b0] | (simp only [zbq, zbs]; rw [c9b0]) | skip)
     have H' := Aside0.mk H
     clear H
     go_wp2
     go_meet
     case rel => exact ⟨_, (false), (by first | rfl | (simp; done) | (simp [*]; done)), H', ⟨by first | omega | exact Nat.le_refl _⟩, ⟨by (with_reducible repeat (first | refine zae ?_ _ | refine zag ?_ | refine zaf ?_ _)); exact BK207.out⟩, ⟨by repeat (first | (with_reducible first | exact HB.out | apply zac | apply zaa | apply zab | refine zad ?_ GE207.out) | exact HB.out)⟩⟩
   case rest =>
    clear HC6
    try clear c1
    try clear p2
    try clear c3
    try clear c3b0
    try clear c3b1
    try clear c4
    try clear c4b0
    try clear c4b1
    try clear c9
    try clear c9b0
    obtain ⟨kq, x25_5, rfl, HA, HJ5, BK207, HB⟩ := hcut
    cases kq with
    | zero => exact absurd HA.out (by simp [zbe.j0])
    | succ kj5 =>
     have H := HA.out
     clear HA
     simp only [zbe.j0] at H
     by_cases c10 : x25_5 = true
     ·subst c10
      have H1 : (some ((⟨#[]⟩ : ByteArray), ([] : List (S62)), (⟨#[]⟩ : ByteArray), 0, 91)) = some (r1, r2, r3, r4, r5) := by rw [if_pos rfl] at H; exact H
      clear H
      have H := H1
      clear H1
      simp only [Option.some.injEq, Prod.mk.injEq] at H
      obtain ⟨rfl, rfl, rfl, rfl, rfl⟩ := H
      have hcz11_0 : wc.cell? ⟨gb207, 0, none⟩ = some (.string ⟨#[]⟩) := (zah BK207.out 0).trans rfl
      have hcz11_1 : wc.cell? ⟨gb207, 1, none⟩ = some (.slice none 0 0) := (zah BK207.out 1).trans rfl
      have hcz11_2 : wc.cell? ⟨gb207, 2, none⟩ = some (.string ⟨#[]⟩) := (zah BK207.out 2).trans rfl
      have hfz11_0 := zai BK207.out 0
      have hfz11_1 := zai BK207.out 1
      have hfz11_2 := zai BK207.out 2
      go_wp2
      refine bodyPost_ret (zcr rfl _ _ gb207 50 #[.string ⟨#[]⟩, .slice none 0 0, .string ⟨#[]⟩] (0, 0) _ rfl (by (with_reducible repeat (first | refine zae ?_ _ | refine zag ?_ | refine zaf ?_ _)); refine zav (cs := #[.string ⟨#[]⟩, .slice none 0 0, .string ⟨#[]⟩]) ?_ 2 _ rfl; (with_reducible repeat (first | refine zae ?_ _ | refine zag ?_ | refine zaf ?_ _)); refine zav (cs := #[.string ⟨#[]⟩, .slice none 0 0, .string ⟨#[]⟩]) ?_ 1 _ rfl; (with_reducible repeat (first | refine zae ?_ _ | refine zag ?_ | refine zaf ?_ _)); refine zav (cs := #[.string ⟨#[]⟩, .slice none 0 0, .string ⟨#[]⟩]) ?_ 0 _ rfl; (with_reducible repeat (first | refine zae ?_ _ | refine zag ?_ | refine zaf ?_ _)); exact BK207.out) Tryz.underlying50 rfl (by kernel_rfl)) rfl ?_
      exact ⟨_, by first | rfl | (simp [zaq, zap] <;> rfl) | (simp only [← hji2]; first | rfl | (simp [zaq, zap] <;> rfl)) | (simp [*, zaq, zap] <;> rfl), by first | exact Kd.zee _ _ _ _ _ | exact Kd.zen _ _ _ _ _ | exact Kd.zek _ _ _ _ _ | exact Kd.zem _ _ _ _ _ | exact Kd.zel _ _ _ _ _, by repeat (first | (with_reducible first | exact HB.out | apply zac | apply zaa | apply zab | refine zad ?_ GE207.out) | exact HB.out)⟩
     ·replace c10 := Bool.eq_false_iff.mpr c10
      subst c10
      have H1 : (if t208 < 0 then (some ((⟨#[]⟩ : ByteArray), ([] : List (S62)), (⟨#[]⟩ : ByteArray), 0, 80)) else (if 0 ≤ t208 then (if t208 ≤ (a0.size : Int) then ((strings_Split.f (a0.extract 0 (t208 : Int).toNat) (⟨#[13, 10]⟩ : ByteArray)).bind fun t209 => (if 1 ≤ (t209.length : Int) then ((zau.f kj5 (t209.drop 1)).bind fun bt216 => (if bt216.2.2 = true then (if 0 < (t209.length : Int) then ((zcd.f kj5 (rdOf ByteArray.empty t209 0)).bind fun t222 => (zbe.j1 kj5 a0 t208 t209 bt216.1 bt216.2.1 (!t222))) else (none)) else (zbe.j1 kj5 a0 t208 t209 bt216.1 bt216.2.1 true))) else (none))) else (none)) else (none))) = some (r1, r2, r3, r4, r5) := by rw [if_neg (show ¬ (false = true) by decide)] at H; exact H
      clear H
      have H := H1
      clear H1
      by_cases c12 : t208 < 0
      ·rw [if_pos c12] at H
       have c12b0 := decide_eq_true c12
       clear c12
       simp only [Option.some.injEq, Prod.mk.injEq] at H
       obtain ⟨rfl, rfl, rfl, rfl, rfl⟩ := H
       have hcz13_0 : wc.cell? ⟨gb207, 0, none⟩ = some (.string ⟨#[]⟩) := (zah BK207.out 0).trans rfl
       have hcz13_1 : wc.cell? ⟨gb207, 1, none⟩ = some (.slice none 0 0) := (zah BK207.out 1).trans rfl
       have hcz13_2 : wc.cell? ⟨gb207, 2, none⟩ = some (.string ⟨#[]⟩) := (zah BK207.out 2).trans rfl
       have hfz13_0 := zai BK207.out 0
       have hfz13_1 := zai BK207.out 1
       have hfz13_2 := zai BK207.out 2
       go_wp2
       refine bodyPost_ret (zcr rfl _ _ gb207 50 #[.string ⟨#[]⟩, .slice none 0 0, .string ⟨#[]⟩] (0, 0) _ rfl (by (with_reducible repeat (first | refine zae ?_ _ | refine zag ?_ | refine zaf ?_ _)); refine zav (cs := #[.string ⟨#[]⟩, .slice none 0 0, .string ⟨#[]⟩]) ?_ 2 _ rfl; (with_reducible repeat (first | refine zae ?_ _ | refine zag ?_ | refine zaf ?_ _)); refine zav (cs := #[.string ⟨#[]⟩, .slice none 0 0, .string ⟨#[]⟩]) ?_ 1 _ rfl; (with_reducible repeat (first | refine zae ?_ _ | refine zag ?_ | refine zaf ?_ _)); refine zav (cs := #[.string ⟨#[]⟩, .slice none 0 0, .string ⟨#[]⟩]) ?_ 0 _ rfl; (with_reducible repeat (first | refine zae ?_ _ | refine zag ?_ | refine zaf ?_ _)); exact BK207.out) Tryz.underlying50 rfl (by kernel_rfl)) rfl ?_
       exact ⟨_, by first | rfl | (simp [zaq, zap] <;> rfl) | (simp only [← hji2]; first | rfl | (simp [zaq, zap] <;> rfl)) | (simp [*, zaq, zap] <;> rfl), by first | exact Kd.zee _ _ _ _ _ | exact Kd.zen _ _ _ _ _ | exact Kd.zek _ _ _ _ _ | exact Kd.zem _ _ _ _ _ | exact Kd.zel _ _ _ _ _, by repeat (first | (with_reducible first | exact HB.out | apply zac | apply zaa | apply zab | refine zad ?_ GE207.out) | exact HB.out)⟩
      ·rw [if_neg c12] at H
       have c12b0 : decide (t208 < 0) = false := decide_eq_false c12
       clear c12
       by_cases c14 : 0 ≤ t208
       ·rw [if_pos c14] at H
        have c14b0 := eq_true c14
        have c14b1 := decide_eq_true c14
        clear c14
        by_cases c15 : t208 ≤ (a0.size : Int)
        ·rw [if_pos c15] at H
         have c15b0 := eq_true c15
         have c15b1 := decide_eq_true c15
         clear c15
         replace H := Option.bind_eq_some_iff.mp H
         obtain ⟨t209, A160, H⟩ := H
         try dsimp only at H
         have A16 := Aside0.mk A160
         clear A160
         by_cases c17 : 1 ≤ (t209.length : Int)
         ·rw [if_pos c17] at H
          have c17b0 := eq_true c17
          have c17b1 := decide_eq_true c17
          clear c17
          obtain ⟨y212, hy212⟩ : ∃ y_ : List ByteArray, y_ = (t209.drop 1) := ⟨_, rfl⟩
          replace H : ((zau.f kj5 y212).bind fun bt216 => (if bt216.2.2 = true then (if 0 < (t209.length : Int) then ((zcd.f kj5 (rdOf ByteArray.empty t209 0)).bind fun t222 => (zbe.j1 kj5 a0 t208 t209 bt216.1 bt216.2.1 (!t222))) else (none)) else (zbe.j1 kj5 a0 t208 t209 bt216.1 bt216.2.1 true))) = some (r1, r2, r3, r4, r5) := by first | (rw [hy212]; with_reducible exact H) | (have H2_ := (Option.bind_some _ _).symm.trans H; rw [hy212]; with_reducible exact H2_) | (have H2_ := (Option.bind_some _ _).symm.trans H; with_reducible exact H2_) | with_reducible exact H | (rw [hy212]; exact H) | exact H
          have Ny212 := Aside0.mk hy212
          clear hy212
          replace H := Option.bind_eq_some_iff.mp H
          obtain ⟨⟨t216, t217, t218⟩, A180, H⟩ := H
          replace H : (if t218 = true then (if 0 < (t209.length : Int) then ((zcd.f kj5 (rdOf ByteArray.empty t209 0)).bind fun t222 => (zbe.j1 kj5 a0 t208 t209 t216 t217 (!t222))) else (none)) else (zbe.j1 kj5 a0 t208 t209 t216 t217 true)) = some (r1, r2, r3, r4, r5) := H
          have A18 := Aside0.mk A180
          clear A180
          have HC19 := Aside0.mk H
          clear H
          go_upto_region 8 with (first | ((with_reducible refine zar (f := 20) rfl ?_); refine zbr (some 33) rfl rfl Tryz.func20 (by kernel_rfl) rfl #[.string (a0.extract 0 (t208 : Int).toNat), .string (⟨#[13, 10]⟩ : ByteArray)] rfl (by (try simp only [List.map_toArray, List.map_cons, List.map_nil]); first | done | rfl | (simp only [List.length_drop, List.length_take]; rfl)) ?_; (with_reducible refine (strings_Split.calls (a0.extract 0 (t208 : Int).toNat) (⟨#[13, 10]⟩ : ByteArray) t209 _ ?side1 A16.out).mono ?_); (case side1 => exact LaidM.below HT.out (by repeat (first | (with_reducible first | exact HB.out | apply zac | apply zaa | apply zab | refine zad ?_ GE207.out) | exact HB.out))); rintro e w20 ⟨v210, rfl, ho0, hb⟩; refine ⟨_, rfl, ?_⟩; have n0_ := Aside0.mk (Kd.zby ho0 (zan (by repeat (first | (with_reducible first | exact HB.out | apply zac | apply zaa | apply zab | refine zad ?_ GE207.out) | exact HB.out)))); have n1_ := Aside0.mk (zao (g := gb207) (o := .cells #[.string ⟨#[]⟩, .slice none 0 0, .string ⟨#[]⟩] 50 (0, 0)) (by (with_reducible repeat (first | refine zae ?_ _ | refine zag ?_ | refine zaf ?_ _)); exact BK207.out) hb); have n2_ := Aside0.mk (zam (by repeat (first | (with_reducible first | exact HB.out | apply zac | apply zaa | apply zab | refine zad ?_ GE207.out) | exact HB.out)) hb); clear BK207; clear HB; have HO211 := n0_; have BK207 := n1_; have HB := n2_; clear n0_ n1_ n2_; (try clear hb); (try clear hb2); (try clear hk); (try clear hi); (try clear ho0); obtain ⟨Ao22, co22, eo22⟩ := Kd.zca HO211.out; subst eo22; have q21 : (1 : Int) ≤ ((t209.length : Int) : Int) := of_decide_eq_true (by first | (with_reducible assumption) | assumption); obtain ⟨i021, hi021, _, hsz21, _⟩ := info_parts info9; have hroom21 : t209.length ≤ co22 := (Kd.zbu HO211.out).2.1; have hC21 : Kd.C Kd.string _ Ao22 t209.length t209 := (Kd.zbu HO211.out).2.2; have hcut21 := cut_from (P := Tryz.prog) 53 9 .i64 Tryz.underlying53 hi021 1 hsz21 Ao22 t209.length co22 1 (by omega) q21; have hr21 := Kd.C_drop (m := (1 : Int).toNat) (c := co22) hC21 (by omega) hroom21; obtain ⟨A21, hA21⟩ : ∃ A1, A1 = (if co22 = (1 : Int).toNat then Ao22 else (Ao22 : Option Addr).map (·.add ((1 : Int).toNat * 1))) := ⟨_, rfl⟩; obtain ⟨c21, hc21⟩ : ∃ c1, c1 = co22 - (1 : Int).toNat := ⟨_, rfl⟩; have hy21 : y212.length = t209.length - (1 : Int).toNat := (by rw [Ny212.out, List.length_drop] <;> omega); rw [show (t209).drop (1 : Int).toNat = y212 from Ny212.out.symm] at hr21; replace hr21 : Kd.C Kd.string _ A21 y212.length y212 := (by rw [hA21]; exact hr21); rw [← hy21, ← hA21, ← hc21] at hcut21; have HR215 := Aside0.mk hr21; have HC215 := Aside0.mk (show y212.length ≤ c21 from by rw [hy21, hc21]; exact Nat.sub_le_sub_right hroom21 _); clear hr21 hC21 hroom21 hi021 hsz21 hc21; have KY21 := Aside0.mk hy21; have KA21 := Aside0.mk hA21; clear hy21 hA21; have KL21 := Aside0.mk (show 1 ≤ t209.length from by omega); replace q21 := eq_true q21) | ((with_reducible refine zar (f := 36) rfl ?_); refine zbr (some 37) rfl rfl Tryz.func36 (by kernel_rfl) rfl #[.slice A21 y212.length c21] rfl (by (try simp only [List.map_toArray, List.map_cons, List.map_nil]); first | done | rfl | (simp only [List.length_drop, List.length_take]; rfl)) ?_; (with_reducible refine (zau.calls kj5 _ _ y212 t216 t217 t218 _ ?side1 ?side2 ?side3 A18.out).mono ?_); (case side1 => repeat (first | exact (by repeat (first | (with_reducible exact HR215.out) | (with_reducible refine Kd.zde ?_ _) | (with_reducible refine Kd.zdd ?_ _) | (with_reducible refine Kd.zdp ?_) | exact HR215.out)) | (with_reducible refine Kd.zde ?_ _) | (with_reducible refine Kd.zdd ?_ _) | (with_reducible refine Kd.zdp ?_))); (case side2 => exact HC215.out); (case side3 => exact LaidM.below HT.out (by repeat (first | (with_reducible first | exact HB.out | apply zac | apply zaa | apply zab | refine zad ?_ GE207.out) | exact HB.out))); rintro e w23 ⟨v219, rfl, ho0, hb⟩; refine ⟨_, rfl, ?_⟩; have n0_ := Aside0.mk (Kd.zbl (by (with_reducible repeat (first | apply Kd.zbc | apply Kd.zbb | apply Kd.zbg)); exact HO211.out) hb); have n1_ := Aside0.mk (Kd.zby ho0 (zan (by repeat (first | (with_reducible first | exact HB.out | apply zac | apply zaa | apply zab | refine zad ?_ GE207.out) | exact HB.out)))); have n2_ := Aside0.mk (zao (g := gb207) (o := .cells #[.string ⟨#[]⟩, .slice none 0 0, .string ⟨#[]⟩] 50 (0, 0)) (by (with_reducible repeat (first | refine zae ?_ _ | refine zag ?_ | refine zaf ?_ _)); exact BK207.out) hb); have n3_ := Aside0.mk (Kd.zdf (by repeat (first | (with_reducible exact HR215.out) | (with_reducible refine Kd.zde ?_ _) | (with_reducible refine Kd.zdd ?_ _) | (with_reducible refine Kd.zdp ?_) | exact HR215.out)) hb); have n4_ := Aside0.mk (zam (by repeat (first | (with_reducible first | exact HB.out | apply zac | apply zaa | apply zab | refine zad ?_ GE207.out) | exact HB.out)) hb); clear HO211; clear BK207; clear HR215; clear HB; have HO211 := n0_; have HO220 := n1_; have BK207 := n2_; have HR215 := n3_; have HB := n4_; clear n0_ n1_ n2_ n3_ n4_; (try clear hb); (try clear hb2); (try clear hk); (try clear hi); (try clear ho0)))
          (try simp only [Act.put, List.setIfInBounds_toArray, List.set_cons_zero, List.set_cons_succ])
          go_cut [50] (fun v50 wc => ∃ (kq : Nat) (x50_18 : Bool), v50 = .bool x50_18 ∧ Aside0 (zbe.j1 kq a0 t208 t209 t216 t217 x50_18 = some (r1, r2, r3, r4, r5)) ∧ Aside0 (kq ≤ kj5) ∧ Aside0 (Kd.R Kd.string 9 wc w.heap.size (fun _ => True) (.slice Ao22 t209.length co22) t209) ∧ Aside0 (Kd.R k62 62 wc w.heap.size (fun _ => True) v219 t216) ∧ Aside0 (wc.heap[gb207]? = some (.cells #[.string ⟨#[]⟩, (.slice none 0 0), .string ⟨#[]⟩] 50 (0, 0))) ∧ Aside0 (Kd.C Kd.string wc A21 y212.length y212) ∧ Aside0 (Below w.heap.size w wc))
          case first =>
           have H := HC19.out
           clear HC19
           by_cases c24 : t218 = true
           ·subst c24
            have H1 : (if 0 < (t209.length : Int) then ((zcd.f kj5 (rdOf ByteArray.empty t209 0)).bind fun t222 => (zbe.j1 kj5 a0 t208 t209 t216 t217 (!t222))) else (none)) = some (r1, r2, r3, r4, r5) := by rw [if_pos rfl] at H; exact H
            clear H
            have H := H1
            clear H1
            by_cases c25 : 0 < (t209.length : Int)
            ·rw [if_pos c25] at H
             have c25b0 := decide_eq_true c25
             have c25b1 : decide (0 < t209.length) = true := decide_eq_true (by omega)
             clear c25
             (first | rw [c25b0] | rw [c25b1] | (simp only [zbq, zbs]; rw [c25b0]) | skip)
             replace H := Option.bind_eq_some_iff.mp H
             obtain ⟨t222, A260, H⟩ := H
             replace H : (zbe.j1 kj5 a0 t208 t209 t216 t217 (!t222)) = some (r1, r2, r3, r4, r5) := H
             have A26 := Aside0.mk A260
             clear A260
             have H' := Aside0.mk H
             clear H
             have p221 : 0 ≤ (0 : Int) := (by omega)
             have q221 : 0 < (t209.length : Int) := of_decide_eq_true (by first | (with_reducible assumption) | assumption)
             obtain ⟨ad221, e221, hx221_0⟩ := Kd.zbw (Kd.zbu HO211.out).2.2 0 p221 q221
             cases e221
             have qi221 : (0 < t209.length) = True := eq_true (by omega)
             (try rw [show ((0 : Int)).toNat = 0 from rfl] at hx221_0)
             (try rw [Addr.add_zero'] at hx221_0)
             replace p221 := eq_true p221
             replace q221 := eq_true q221
             go_wp2_with (first | (go_at_call 25; (with_reducible refine (zcd.calls kj5 (rdOf ByteArray.empty t209 0) t222 _ ?side1 A26.out).mono ?_); (case side1 => exact LaidM.below HT.out (by repeat (first | (with_reducible first | exact HB.out | apply zac | apply zaa | apply zab | refine zad ?_ GE207.out) | exact HB.out))); rintro e w27 ⟨rfl, hb⟩; have n0_ := Aside0.mk (Kd.zbl (by (with_reducible repeat (first | apply Kd.zbc | apply Kd.zbb | apply Kd.zbg)); exact HO211.out) hb); have n1_ := Aside0.mk (Kd.zbl (by (with_reducible repeat (first | apply Kd.zbc | apply Kd.zbb | apply Kd.zbg)); exact HO220.out) hb); have n2_ := Aside0.mk (zao (g := gb207) (o := .cells #[.string ⟨#[]⟩, .slice none 0 0, .string ⟨#[]⟩] 50 (0, 0)) (by (with_reducible repeat (first | refine zae ?_ _ | refine zag ?_ | refine zaf ?_ _)); exact BK207.out) hb); have n3_ := Aside0.mk (Kd.zdf (by repeat (first | (with_reducible exact HR215.out) | (with_reducible refine Kd.zde ?_ _) | (with_reducible refine Kd.zdd ?_ _) | (with_reducible refine Kd.zdp ?_) | exact HR215.out)) hb); have n4_ := Aside0.mk (zam (by repeat (first | (with_reducible first | exact HB.out | apply zac | apply zaa | apply zab | refine zad ?_ GE207.out) | exact HB.out)) hb); clear HO211; clear HO220; clear BK207; clear HR215; clear HB; have HO211 := n0_; have HO220 := n1_; have BK207 := n2_; have HR215 := n3_; have HB := n4_; clear n0_ n1_ n2_ n3_ n4_; (try clear hb); (try clear hb2); (try clear hk); (try clear hi)))
             go_meet
             case rel => exact ⟨_, (!t222), (by first | rfl | (simp; done) | (simp [*]; done)), H', ⟨by have := HJ5.out; first | omega | exact Nat.le_refl _⟩, ⟨by (with_reducible repeat (first | apply Kd.zbc | apply Kd.zbb | apply Kd.zbg)); exact HO211.out⟩, ⟨by (with_reducible repeat (first | apply Kd.zbc | apply Kd.zbb | apply Kd.zbg)); exact HO220.out⟩, ⟨by (with_reducible repeat (first | refine zae ?_ _ | refine zag ?_ | refine zaf ?_ _)); exact BK207.out⟩, ⟨by repeat (first | (with_reducible exact HR215.out) | (with_reducible refine Kd.zde ?_ _) | (with_reducible refine Kd.zdd ?_ _) | (with_reducible refine Kd.zdp ?_) | exact HR215.out)⟩, ⟨by repeat (first | (with_reducible first | exact HB.out | apply zac | apply zaa | apply zab | refine zad ?_ GE207.out) | exact HB.out)⟩⟩
            ·rw [if_neg c25] at H
             exact absurd H (by simp)
           ·replace c24 := Bool.eq_false_iff.mpr c24
            subst c24
            have H1 : (zbe.j1 kj5 a0 t208 t209 t216 t217 true) = some (r1, r2, r3, r4, r5) := by rw [if_neg (show ¬ (false = true) by decide)] at H; exact H
            clear H
            have H := H1
            clear H1
            have H' := Aside0.mk H
            clear H
            go_wp2
            go_meet
            case rel => exact ⟨_, (true), (by first | rfl | (simp; done) | (simp [*]; done)), H', ⟨by have := HJ5.out; first | omega | exact Nat.le_refl _⟩, ⟨by (with_reducible repeat (first | apply Kd.zbc | apply Kd.zbb | apply Kd.zbg)); exact HO211.out⟩, ⟨by (with_reducible repeat (first | apply Kd.zbc | apply Kd.zbb | apply Kd.zbg)); exact HO220.out⟩, ⟨by (with_reducible repeat (first | refine zae ?_ _ | refine zag ?_ | refine zaf ?_ _)); exact BK207.out⟩, ⟨by repeat (first | (with_reducible exact HR215.out) | (with_reducible refine Kd.zde ?_ _) | (with_reducible refine Kd.zdd ?_ _) | (with_reducible refine Kd.zdp ?_) | exact HR215.out)⟩, ⟨by repeat (first | (with_reducible first | exact HB.out | apply zac | apply zaa | apply zab | refine zad ?_ GE207.out) | exact HB.out)⟩⟩
          case rest =>
           clear HC19
           try clear c1
           try clear c2
           try clear p2
           try clear q2
           try clear hx2
           try clear qi2
           try clear c3
           try clear c3b0
           try clear c3b1
           try clear c4
           try clear c4b0
           try clear c4b1
           try clear c9
           try clear c9b0
           try clear c10
           try clear c12
           try clear c12b0
           try clear c14
           try clear c14b0
           try clear c14b1
           try clear c15
           try clear c15b0
           try clear c15b1
           try clear c17
           try clear c17b0
           try clear c17b1
           try clear c20
           try clear c21
           try clear q21
           try clear p22
           try clear q22
           try clear hx22
           try clear qi22
           try clear c24
           try clear c25
           try clear c25b0
           try clear c25b1
           try clear hcz11_0
           try clear hcz11_1
           try clear hcz11_2
           try clear hcz13_0
           try clear hcz13_1
           try clear hcz13_2
           try clear hfz11_0
           try clear hfz11_1
           try clear hfz11_2
           try clear hfz13_0
           try clear hfz13_1
           try clear hfz13_2
           try clear hx221_0
           try clear p2
           try clear p221
           try clear q21
           try clear q221
           obtain ⟨kq, x50_18, rfl, HA, HJ18, HO_8, HO_9, BK207, HR215, HB⟩ := hcut
           cases kq with
           | zero => exact absurd HA.out (by simp [zbe.j1])
           | succ kj18 =>
            have H := HA.out
            clear HA
            simp only [zbe.j1] at H
            by_cases c28 : x50_18 = true
            ·subst c28
             have H1 : (some ((⟨#[]⟩ : ByteArray), ([] : List (S62)), (⟨#[]⟩ : ByteArray), 0, 80)) = some (r1, r2, r3, r4, r5) := by rw [if_pos rfl] at H; exact H
             clear H
             have H := H1
             clear H1
             simp only [Option.some.injEq, Prod.mk.injEq] at H
             obtain ⟨rfl, rfl, rfl, rfl, rfl⟩ := H
             have hcz29_0 : wc.cell? ⟨gb207, 0, none⟩ = some (.string ⟨#[]⟩) := (zah BK207.out 0).trans rfl
             have hcz29_1 : wc.cell? ⟨gb207, 1, none⟩ = some (.slice none 0 0) := (zah BK207.out 1).trans rfl
             have hcz29_2 : wc.cell? ⟨gb207, 2, none⟩ = some (.string ⟨#[]⟩) := (zah BK207.out 2).trans rfl
             have hfz29_0 := zai BK207.out 0
             have hfz29_1 := zai BK207.out 1
             have hfz29_2 := zai BK207.out 2
             go_wp2
             refine bodyPost_ret (zcr rfl _ _ gb207 50 #[.string ⟨#[]⟩, .slice none 0 0, .string ⟨#[]⟩] (0, 0) _ rfl (by (with_reducible repeat (first | refine zae ?_ _ | refine zag ?_ | refine zaf ?_ _)); refine zav (cs := #[.string ⟨#[]⟩, .slice none 0 0, .string ⟨#[]⟩]) ?_ 2 _ rfl; (with_reducible repeat (first | refine zae ?_ _ | refine zag ?_ | refine zaf ?_ _)); refine zav (cs := #[.string ⟨#[]⟩, .slice none 0 0, .string ⟨#[]⟩]) ?_ 1 _ rfl; (with_reducible repeat (first | refine zae ?_ _ | refine zag ?_ | refine zaf ?_ _)); refine zav (cs := #[.string ⟨#[]⟩, .slice none 0 0, .string ⟨#[]⟩]) ?_ 0 _ rfl; (with_reducible repeat (first | refine zae ?_ _ | refine zag ?_ | refine zaf ?_ _)); exact BK207.out) Tryz.underlying50 rfl (by kernel_rfl)) rfl ?_
             exact ⟨_, by first | rfl | (simp [zaq, zap] <;> rfl) | (simp only [← hji2]; first | rfl | (simp [zaq, zap] <;> rfl)) | (simp [*, zaq, zap] <;> rfl), by first | exact Kd.zee _ _ _ _ _ | exact Kd.zen _ _ _ _ _ | exact Kd.zek _ _ _ _ _ | exact Kd.zem _ _ _ _ _ | exact Kd.zel _ _ _ _ _, by repeat (first | (with_reducible first | exact HB.out | apply zac | apply zaa | apply zab | refine zad ?_ GE207.out) | exact HB.out)⟩
            ·replace c28 := Bool.eq_false_iff.mpr c28
             subst c28
             have H1 : (if (wrap64 ((a0.size : Int) - (wrap64 (t208 + 4)))) < t217 then (some ((⟨#[]⟩ : ByteArray), ([] : List (S62)), (⟨#[]⟩ : ByteArray), 0, 91)) else (if 0 < (t209.length : Int) then (if 0 ≤ (wrap64 (t208 + 4)) then (if (wrap64 (t208 + 4)) ≤ (wrap64 ((wrap64 (t208 + 4)) + t217)) then (if (wrap64 ((wrap64 (t208 + 4)) + t217)) ≤ (a0.size : Int) then (some (rdOf ByteArray.empty t209 0, t216, a0.extract ((wrap64 (t208 + 4)) : Int).toNat ((wrap64 ((wrap64 (t208 + 4)) + t217)) : Int).toNat, wrap64 ((wrap64 (t208 + 4)) + t217), 0)) else (none)) else (none)) else (none)) else (none))) = some (r1, r2, r3, r4, r5) := by rw [if_neg (show ¬ (false = true) by decide)] at H; exact H
             clear H
             have H := H1
             clear H1
             by_cases c30 : (wrap64 ((a0.size : Int) - (wrap64 (t208 + 4)))) < t217
             ·rw [if_pos c30] at H
              have c30b0 := decide_eq_true c30
              clear c30
              simp only [Option.some.injEq, Prod.mk.injEq] at H
              obtain ⟨rfl, rfl, rfl, rfl, rfl⟩ := H
              have hcz31_0 : wc.cell? ⟨gb207, 0, none⟩ = some (.string ⟨#[]⟩) := (zah BK207.out 0).trans rfl
              have hcz31_1 : wc.cell? ⟨gb207, 1, none⟩ = some (.slice none 0 0) := (zah BK207.out 1).trans rfl
              have hcz31_2 : wc.cell? ⟨gb207, 2, none⟩ = some (.string ⟨#[]⟩) := (zah BK207.out 2).trans rfl
              have hfz31_0 := zai BK207.out 0
              have hfz31_1 := zai BK207.out 1
              have hfz31_2 := zai BK207.out 2
              go_wp2
              refine bodyPost_ret (zcr rfl _ _ gb207 50 #[.string ⟨#[]⟩, .slice none 0 0, .string ⟨#[]⟩] (0, 0) _ rfl (by (with_reducible repeat (first | refine zae ?_ _ | refine zag ?_ | refine zaf ?_ _)); refine zav (cs := #[.string ⟨#[]⟩, .slice none 0 0, .string ⟨#[]⟩]) ?_ 2 _ rfl; (with_reducible repeat (first | refine zae ?_ _ | refine zag ?_ | refine zaf ?_ _)); refine zav (cs := #[.string ⟨#[]⟩, .slice none 0 0, .string ⟨#[]⟩]) ?_ 1 _ rfl; (with_reducible repeat (first | refine zae ?_ _ | refine zag ?_ | refine zaf ?_ _)); refine zav (cs := #[.string ⟨#[]⟩, .slice none 0 0, .string ⟨#[]⟩]) ?_ 0 _ rfl; (with_reducible repeat (first | refine zae ?_ _ | refine zag ?_ | refine zaf ?_ _)); exact BK207.out) Tryz.underlying50 rfl (by kernel_rfl)) rfl ?_
              exact ⟨_, by first | rfl | (simp [zaq, zap] <;> rfl) | (simp only [← hji2]; first | rfl | (simp [zaq, zap] <;> rfl)) | (simp [*, zaq, zap] <;> rfl), by first | exact Kd.zee _ _ _ _ _ | exact Kd.zen _ _ _ _ _ | exact Kd.zek _ _ _ _ _ | exact Kd.zem _ _ _ _ _ | exact Kd.zel _ _ _ _ _, by repeat (first | (with_reducible first | exact HB.out | apply zac | apply zaa | apply zab | refine zad ?_ GE207.out) | exact HB.out)⟩
             ·rw [if_neg c30] at H
              have c30b0 : decide ((wrap64 ((a0.size : Int) - (wrap64 (t208 + 4)))) < t217) = false := decide_eq_false c30
              clear c30
              by_cases c32 : 0 < (t209.length : Int)
              ·rw [if_pos c32] at H
               have c32b0 := decide_eq_true c32
               have c32b1 : decide (0 < t209.length) = true := decide_eq_true (by omega)
               clear c32
               obtain ⟨ji33, hji33⟩ : ∃ j_ : Int, (wrap64 (t208 + 4)) = j_ := ⟨_, rfl⟩
               replace H : (if 0 ≤ (ji33) then (if (ji33) ≤ (wrap64 ((ji33) + t217)) then (if (wrap64 ((ji33) + t217)) ≤ (a0.size : Int) then (some (rdOf ByteArray.empty t209 0, t216, a0.extract ((ji33) : Int).toNat ((wrap64 ((ji33) + t217)) : Int).toNat, wrap64 ((ji33) + t217), 0)) else (none)) else (none)) else (none)) = some (r1, r2, r3, r4, r5) := by first | (rw [hji33] at H; exact H) | (simp only [hji33] at H ⊢; exact H)
               (try rw [hji33] at c30b0)
               have hji33w : (IntKind.i64.wrap (t208 + 4)) = ji33 := (zbq _).trans hji33
               by_cases c34 : 0 ≤ (ji33)
               ·rw [if_pos c34] at H
                have c34b0 := eq_true c34
                have c34b1 := decide_eq_true c34
                clear c34
                by_cases c35 : (ji33) ≤ (wrap64 ((ji33) + t217))
                ·rw [if_pos c35] at H
                 have c35b0 := eq_true c35
                 have c35b1 := decide_eq_true c35
                 by_cases c36 : (wrap64 ((ji33) + t217)) ≤ (a0.size : Int)
                 ·rw [if_pos c36] at H
                  have c36b0 := eq_true c36
                  have c36b1 := decide_eq_true c36
                  simp only [Option.some.injEq, Prod.mk.injEq] at H
                  obtain ⟨rfl, rfl, rfl, rfl, rfl⟩ := H
                  try go_wp2
                  have n0_ := Aside0.mk (Kd.zbg HO_8.out)
                  have n1_ := Aside0.mk (Kd.zbg HO_9.out)
                  have n2_ := Aside0.mk (zag BK207.out)
                  have n3_ := Aside0.mk (Kd.zdp HR215.out)
                  have n4_ := Aside0.mk (zab HB.out)
                  clear HO_8
                  clear HO_9
                  clear BK207
                  clear HR215
                  clear HB
                  have HO_8 := n0_
                  have HO_9 := n1_
                  have BK207 := n2_
                  have HR215 := n3_
                  have HB := n4_
                  clear n0_ n1_ n2_ n3_ n4_
                  have p223 : 0 ≤ (0 : Int) := (by omega)
                  have q223 : 0 < (t209.length : Int) := of_decide_eq_true (by first | (with_reducible assumption) | assumption)
                  obtain ⟨ad223, e223, hx223_0⟩ := Kd.zbw (Kd.zbu HO_8.out).2.2 0 p223 q223
                  cases e223
                  have qi223 : (0 < t209.length) = True := eq_true (by omega)
                  (try rw [show ((0 : Int)).toNat = 0 from rfl] at hx223_0)
                  (try rw [Addr.add_zero'] at hx223_0)
                  replace p223 := eq_true p223
                  replace q223 := eq_true q223
                  obtain ⟨Ao38, co38, eo38⟩ := Kd.zca HO_9.out
                  (first | subst eo38 | (injection eo38 with f1_ f2_ f3_; have f4_ := f1_.symm; have f5_ := f3_.symm; clear f1_ f2_ f3_; subst f4_; subst f5_))
                  refine zda (n := 17) (S := fun w' => w'.cell? ad223 = some (.string (rdOf ByteArray.empty t209 0))) (ds := []) (bm 17 0) (by kernel_rfl) rfl rfl (hx223_0) (fun hHeld => ?_); refine zci zbe.tab13 zbe.bits13 (fun HT_ HW_ => ?_)
                  generalize wc.drew = w37 at HO_8 HO_9 BK207 HR215 HB hx223_0 hHeld ⊢
                  refine pv_ HT_ 0 (bm 17 1) ?_
                  refine pv_ HT_ 1 (bm 17 3) ?_
                  refine pv_ HT_ 3 (bm 17 11) ?_
                  refine pv_ HT_ 4 (bm 17 27) ?_
                  refine pv_ HT_ 5 (bm 17 59) ?_
                  refine pv_ HT_ 6 (bm 17 123) ?_
                  refine pv_ HT_ 7 (bm 17 251) ?_
                  refine pv_ HT_ 8 (bm 17 507) ?_
                  refine pv_ HT_ 9 (bm 17 1019) ?_
                  refine pv_ HT_ 11 (bm 17 3067) ?_
                  refine pv_ HT_ 12 (bm 17 7163) ?_
                  refine pv_ HT_ 13 (bm 17 15355) ?_
                  refine zcn (i := 2) (N := some 63) (v := ?_) (a' := ?_) (bm 17 15359) rfl rfl (zbk HT_.out HW_.out (by kernel_rfl)) (fun _ _ _ h => h) (Or.inl ⟨by rfl, ?_⟩) hHeld ?_ ?_
                  rotate_left
                  ·intro w' s0
                   go_simp
                   with_reducible rfl
                  rotate_left
                  ·simp only [Act.put, List.setIfInBounds_toArray, List.set_cons_zero, List.set_cons_succ, zbq, zbs]
                   rfl
                  refine pv_ HT_ 10 (bm 17 16383) ?_
                  refine one_ (i := 14) (N := none) (bm 17 32767) rfl rfl (zcg HT_.out (by kernel_rfl)) (by decide) (fun K hK => ?_)
                  have hs39 : w37.cell? ⟨gb207, 0, none⟩ = some (.string ⟨#[]⟩) := (zah BK207.out 0).trans rfl
                  have hfs39 := zai BK207.out 0
                  have hs40 : w37.cell? ⟨gb207, 1, none⟩ = some (.slice none 0 0) := (zah BK207.out 1).trans rfl
                  have hfs40 := zai BK207.out 1
                  have hs41 : w37.cell? ⟨gb207, 2, none⟩ = some (.string ⟨#[]⟩) := (zah BK207.out 2).trans rfl
                  have hfs41 := zai BK207.out 2
                  refine zgl (w1 := ?_) (by rfl) rfl ?_ ?_
                  rotate_left
                  ·go_simp
                   rfl
                  refine hK.out _ _ (((cell_far (p := ⟨gb207, _, none⟩) (by first | exact Kd.zbz (Kd.R_ne HO_8.out BK207.out (by decide)) | (rw [add_block]; exact Kd.zbz (Kd.R_ne HO_8.out BK207.out (by decide))) | (show (Addr.add _ _).block ≠ _; rw [add_block]; exact Kd.zbz (Kd.R_ne HO_8.out BK207.out (by decide))) | (dsimp only; exact Kd.zbz (Kd.R_ne HO_8.out BK207.out (by decide)))) _).trans (((cell_far (p := ⟨gb207, _, none⟩) (by first | exact Kd.zbz (Kd.R_ne HO_8.out BK207.out (by decide)) | (rw [add_block]; exact Kd.zbz (Kd.R_ne HO_8.out BK207.out (by decide))) | (show (Addr.add _ _).block ≠ _; rw [add_block]; exact Kd.zbz (Kd.R_ne HO_8.out BK207.out (by decide))) | (dsimp only; exact Kd.zbz (Kd.R_ne HO_8.out BK207.out (by decide)))) _).trans (((cell_far (p := ⟨gb207, _, none⟩) (by first | exact Kd.zbz (Kd.R_ne HO_8.out BK207.out (by decide)) | (rw [add_block]; exact Kd.zbz (Kd.R_ne HO_8.out BK207.out (by decide))) | (show (Addr.add _ _).block ≠ _; rw [add_block]; exact Kd.zbz (Kd.R_ne HO_8.out BK207.out (by decide))) | (dsimp only; exact Kd.zbz (Kd.R_ne HO_8.out BK207.out (by decide)))) _).trans (hHeld))))))) (fun hHeld => ?_)
                  clear hK K
                  refine pv_ HT_ 15 (bm 17 65535) ?_
                  refine pv_ HT_ 16 (bm 17 131071) ?_
                  refine zdu (zcu HT_.out (by kernel_rfl)) ?_
                  try go_wp2
                  refine bodyPost_ret (zcr rfl _ _ gb207 50 #[.string (rdOf ByteArray.empty t209 0), .slice Ao38 t216.length co38, .string (a0.extract ((ji33) : Int).toNat ((wrap64 ((ji33) + t217)) : Int).toNat)] (0, 0) _ rfl (by (with_reducible repeat (first | refine zae ?_ _ | refine zag ?_ | refine zaf ?_ _)); refine zav (cs := #[.string (rdOf ByteArray.empty t209 0), .slice Ao38 t216.length co38, .string ⟨#[]⟩]) ?_ 2 _ rfl; (with_reducible repeat (first | refine zae ?_ _ | refine zag ?_ | refine zaf ?_ _)); refine zav (cs := #[.string (rdOf ByteArray.empty t209 0), .slice none 0 0, .string ⟨#[]⟩]) ?_ 1 _ rfl; (with_reducible repeat (first | refine zae ?_ _ | refine zag ?_ | refine zaf ?_ _)); refine zav (cs := #[.string ⟨#[]⟩, .slice none 0 0, .string ⟨#[]⟩]) ?_ 0 _ rfl; (with_reducible repeat (first | refine zae ?_ _ | refine zag ?_ | refine zaf ?_ _)); exact BK207.out) Tryz.underlying50 rfl (by kernel_rfl)) rfl ?_
                  exact ⟨_, by first | rfl | (simp [zaq, zap] <;> rfl) | (simp only [← hji2, ← hji33]; first | rfl | (simp [zaq, zap] <;> rfl)) | (simp [*, zaq, zap] <;> rfl), by (with_reducible repeat (first | apply Kd.zbc | apply Kd.zbb | apply Kd.zbg)); exact Kd.zco (Kd.zbp (p := ⟨gb207, 2, none⟩) (Kd.zbp (p := ⟨gb207, 1, none⟩) (Kd.zbp (p := ⟨gb207, 0, none⟩) (Kd.zch HO_9.out BK207.out (by decide)) (fun _ hk => hk.2) (.string (rdOf ByteArray.empty t209 0))) (fun _ hk => hk.2) (.slice Ao38 t216.length co38)) (fun _ hk => hk.2) (.string (a0.extract ((ji33) : Int).toNat ((wrap64 ((ji33) + t217)) : Int).toNat))) (fun _ hk => trivial), by repeat (first | (with_reducible first | exact HB.out | apply zac | apply zaa | apply zab | refine zad ?_ GE207.out) | exact HB.out)⟩
                 ·rw [if_neg c36] at H
                  exact absurd H (by simp)
                ·rw [if_neg c35] at H
                 exact absurd H (by simp)
               ·rw [if_neg c34] at H
                exact absurd H (by simp)
              ·rw [if_neg c32] at H
               exact absurd H (by simp)
         ·rw [if_neg c17] at H
          exact absurd H (by simp)
        ·rw [if_neg c15] at H
         exact absurd H (by simp)
       ·rw [if_neg c14] at H
        exact absurd H (by simp)
  ·rw [if_neg c4] at H
   exact absurd H (by simp)
 ·rw [if_neg c3] at H
  exact absurd H (by simp)
def zcc.f (k : Nat) (a0 : ByteArray) : Option (Int × (List (S62)) × ByteArray × Int × Int) := (zbe.f k a0).bind fun bt225 => (if bt225.2.2.2.2 = 0 then ((strings_SplitN.f bt225.1 (⟨#[32]⟩ : ByteArray) 3).bind fun t233 => (if 1 < (t233.length : Int) then ((zcl.f (rdOf ByteArray.empty t233 1) 599).bind fun bt237 => (some (wrap64 (bt237.1), bt225.2.1, bt225.2.2.1, bt225.2.2.2.1, 0))) else (none))) else (some (0, ([] : List (S62)), (⟨#[]⟩ : ByteArray), 0, bt225.2.2.2.2)))
set_option maxHeartbeats 8000000 in
set_option maxRecDepth 100000 in
theorem zcc.calls (k : Nat) (a0 : ByteArray) (r1 : Int) (r2 : List (S62)) (r3 : ByteArray) (r4 : Int) (r5 : Int) (w : World) (hT : LaidM w) (h : zcc.f k a0 = some (r1, r2, r3, r4, r5)) :
  Calls Tryz.prog 9 #[.string a0] w fun e w' => ∃ v1_ : Value, e = .returned (.tuple #[.agg #[.int .i64 r1, v1_, .string r3], .int .i64 r4, .int .i64 r5]) ∧ Kd.R k62 62 w' w.heap.size (fun _ => True) v1_ r2 ∧ Below w.heap.size w w' := by
 have hu33 := Tryz.underlying33
 have hu50 := Tryz.underlying50
 have HB := Aside0.mk (Below.refl w.heap.size w)
 have HT := Aside0.mk hT
 clear hT
 have H : ((zbe.f k a0).bind fun bt225 => (if bt225.2.2.2.2 = 0 then ((strings_SplitN.f bt225.1 (⟨#[32]⟩ : ByteArray) 3).bind fun t233 => (if 1 < (t233.length : Int) then ((zcl.f (rdOf ByteArray.empty t233 1) 599).bind fun bt237 => (some (wrap64 (bt237.1), bt225.2.1, bt225.2.2.1, bt225.2.2.2.1, 0))) else (none))) else (some (0, ([] : List (S62)), (⟨#[]⟩ : ByteArray), 0, bt225.2.2.2.2)))) = some (r1, r2, r3, r4, r5) := h
 clear h
 replace H := Option.bind_eq_some_iff.mp H
 obtain ⟨⟨t225, t226, t229, t230, t231⟩, A20, H⟩ := H
 try dsimp only at H
 have A2 := Aside0.mk A20
 clear A20
 by_cases c3 : t231 = 0
 ·rw [if_pos c3] at H
  have c3b0 : (t231 == 0) = true := beq_iff_eq.mpr c3
  have c3b1 : (t231 != 0) = false := bne_eq_false_iff_eq.mpr c3
  clear c3
  replace H := Option.bind_eq_some_iff.mp H
  obtain ⟨t233, A40, H⟩ := H
  replace H : (if 1 < (t233.length : Int) then ((zcl.f (rdOf ByteArray.empty t233 1) 599).bind fun bt237 => (some (wrap64 (bt237.1), t226, t229, t230, 0))) else (none)) = some (r1, r2, r3, r4, r5) := H
  have A4 := Aside0.mk A40
  clear A40
  by_cases c5 : 1 < (t233.length : Int)
  ·rw [if_pos c5] at H
   have c5b0 := decide_eq_true c5
   have c5b1 : decide (1 < t233.length) = true := decide_eq_true (by omega)
   clear c5
   replace H := Option.bind_eq_some_iff.mp H
   obtain ⟨⟨t237, t238⟩, A60, H⟩ := H
   replace H : (some (wrap64 (t237), t226, t229, t230, 0)) = some (r1, r2, r3, r4, r5) := H
   have A6 := Aside0.mk A60
   clear A60
   simp only [Option.some.injEq, Prod.mk.injEq] at H
   obtain ⟨rfl, rfl, rfl, rfl, rfl⟩ := H
   go_enter Tryz.func9, Tryz.ntmps9
   go_wp2_with (first | ((with_reducible refine zbj (N := 2) rfl ?_); refine zbf ?hg (N := 2) ?hd (cs := #[.int .i64 0, .slice none 0 0, .string ⟨#[]⟩]) (t := 33) ?hr ?_; (case hd => rfl); (case hg => rfl); (case hr => first | (go_simp; done) | (go_simp; rfl)); intro gb224 hg w7 hbox hb; have n0_ := Aside0.mk (zam (by repeat (first | (with_reducible first | exact HB.out | apply zac | apply zaa | apply zab) | exact HB.out)) hb); have n1_ := Aside0.mk (hbox); have n2_ := Aside0.mk ((by rw [hg]; exact (zan (by repeat (first | (with_reducible first | exact HB.out | apply zac | apply zaa | apply zab) | exact HB.out))) : w.heap.size ≤ gb224)); have n3_ := Aside0.mk ((by rw [hg]; exact (zan (by repeat (first | (with_reducible first | exact HB.out | apply zac | apply zaa | apply zab) | exact HB.out))) : w.heap.size ≤ gb224)); clear HB; have HB := n0_; have BK224 := n1_; have GW224 := n2_; have GE224 := n3_; clear n0_ n1_ n2_ n3_; clear hb hbox hg) | ((with_reducible refine zar (f := 18) rfl ?_); refine zbr (some 12) rfl rfl Tryz.func18 (by kernel_rfl) rfl #[.string a0, .func (.func 25) #[] #[]] rfl (by (try simp only [List.map_toArray, List.map_cons, List.map_nil]); first | done | rfl | (simp only [List.length_drop, List.length_take]; rfl)) ?_; (with_reducible refine (zbe.calls k a0 t225 t226 t229 t230 t231 _ ?side1 A2.out).mono ?_); (case side1 => exact LaidM.below HT.out (by repeat (first | (with_reducible first | exact HB.out | apply zac | apply zaa | apply zab | refine zad ?_ GE224.out) | exact HB.out))); rintro e w8 ⟨v227, rfl, ho0, hb⟩; refine ⟨_, rfl, ?_⟩; have n0_ := Aside0.mk (Kd.zby ho0 (zan (by repeat (first | (with_reducible first | exact HB.out | apply zac | apply zaa | apply zab | refine zad ?_ GE224.out) | exact HB.out)))); have n1_ := Aside0.mk (zao (g := gb224) (o := .cells #[.int .i64 0, .slice none 0 0, .string ⟨#[]⟩] 33 (0, 0)) (by (with_reducible repeat (first | refine zae ?_ _ | refine zag ?_ | refine zaf ?_ _)); exact BK224.out) hb); have n2_ := Aside0.mk (zam (by repeat (first | (with_reducible first | exact HB.out | apply zac | apply zaa | apply zab | refine zad ?_ GE224.out) | exact HB.out)) hb); clear BK224; clear HB; have HO228 := n0_; have BK224 := n1_; have HB := n2_; clear n0_ n1_ n2_; (try clear hb); (try clear hb2); (try clear hk); (try clear hi); (try clear ho0)) | ((with_reducible refine zbj (N := 5) rfl ?_); refine zbf ?hg (N := 5) ?hd (cs := #[.string ⟨#[]⟩, .slice none 0 0, .string ⟨#[]⟩]) (t := 50) ?hr ?_; (case hd => rfl); (case hg => rfl); (case hr => first | (go_simp; done) | (go_simp; rfl)); intro gb232 hg w9 hbox hb; have n0_ := Aside0.mk (Kd.zbl (by (with_reducible repeat (first | apply Kd.zbc | apply Kd.zbb | apply Kd.zbg)); exact HO228.out) hb); have n1_ := Aside0.mk (zao (g := gb224) (o := .cells #[.int .i64 0, .slice none 0 0, .string ⟨#[]⟩] 33 (0, 0)) (by (with_reducible repeat (first | refine zae ?_ _ | refine zag ?_ | refine zaf ?_ _)); exact BK224.out) hb); have n2_ := Aside0.mk (zam (by repeat (first | (with_reducible first | exact HB.out | apply zac | apply zaa | apply zab | refine zad ?_ GE224.out) | exact HB.out)) hb); have n3_ := Aside0.mk (hbox); have n4_ := Aside0.mk ((by rw [hg]; exact (zan (by repeat (first | (with_reducible first | exact HB.out | apply zac | apply zaa | apply zab | refine zad ?_ GE224.out) | exact HB.out))) : w.heap.size ≤ gb232)); have n5_ := Aside0.mk ((by rw [hg]; exact (zan (by repeat (first | (with_reducible first | exact HB.out | apply zac | apply zaa | apply zab | refine zad ?_ GE224.out) | exact HB.out))) : w.heap.size ≤ gb232)); have n6_ := Aside0.mk ((by rw [hg]; exact Nat.ne_of_lt (zbv (g := gb224) (o := .cells #[.int .i64 0, .slice none 0 0, .string ⟨#[]⟩] 33 (0, 0)) (by (with_reducible repeat (first | refine zae ?_ _ | refine zag ?_ | refine zaf ?_ _)); exact BK224.out)) : gb224 ≠ gb232)); have n7_ := Aside0.mk ((by rw [hg]; exact Nat.ne_of_gt (zbv (g := gb224) (o := .cells #[.int .i64 0, .slice none 0 0, .string ⟨#[]⟩] 33 (0, 0)) (by (with_reducible repeat (first | refine zae ?_ _ | refine zag ?_ | refine zaf ?_ _)); exact BK224.out)) : gb232 ≠ gb224)); clear HO228; clear BK224; clear HB; have HO228 := n0_; have BK224 := n1_; have HB := n2_; have BK232 := n3_; have GW232 := n4_; have GE232 := n5_; have NB224_232 := n6_; have NB232_224 := n7_; clear n0_ n1_ n2_ n3_ n4_ n5_ n6_ n7_; clear hb hbox hg; have hnb10 := NB232_224.out; have hnc10 := NB224_232.out; have hcz11_0 : w9.cell? ⟨gb232, 0, none⟩ = some (.string ⟨#[]⟩) := (zah BK232.out 0).trans rfl; have hcz11_1 : w9.cell? ⟨gb232, 1, none⟩ = some (.slice none 0 0) := (zah BK232.out 1).trans rfl; have hcz11_2 : w9.cell? ⟨gb232, 2, none⟩ = some (.string ⟨#[]⟩) := (zah BK232.out 2).trans rfl; have hfz11_0 := zai BK232.out 0; have hfz11_1 := zai BK232.out 1; have hfz11_2 := zai BK232.out 2; obtain ⟨Ao12, co12, eo12⟩ := Kd.zca HO228.out; subst eo12) | ((with_reducible refine zar (f := 26) rfl ?_); refine zbr (some 23) rfl rfl Tryz.func26 (by kernel_rfl) rfl #[.string t225, .string (⟨#[32]⟩ : ByteArray), .int .i64 3] rfl (by (try simp only [List.map_toArray, List.map_cons, List.map_nil]); first | done | rfl | (simp only [List.length_drop, List.length_take]; rfl)) ?_; (with_reducible refine (strings_SplitN.calls t225 (⟨#[32]⟩ : ByteArray) 3 t233 _ ?side1 A4.out).mono ?_); (case side1 => exact LaidM.below HT.out (by repeat (first | (with_reducible first | exact HB.out | apply zac | apply zaa | apply zab | refine zad ?_ GE224.out | refine zad ?_ GE232.out) | exact HB.out))); rintro e w13 ⟨v234, rfl, ho0, hb⟩; refine ⟨_, rfl, ?_⟩; have n0_ := Aside0.mk (Kd.zbl (by (with_reducible repeat (first | apply Kd.zbc | apply Kd.zbb | apply Kd.zbg)); exact (Kd.zco (Kd.zbp (p := ⟨gb232, 2, none⟩) (Kd.zbp (p := ⟨gb232, 1, none⟩) (Kd.zbp (p := ⟨gb232, 0, none⟩) (Kd.zch HO228.out BK232.out (by decide)) (fun _ hk => hk.2) (.string t225)) (fun _ hk => hk.2) (.slice Ao12 t226.length co12)) (fun _ hk => hk.2) (.string t229)) (fun _ h_ => h_.1))) hb); have n1_ := Aside0.mk (Kd.zby ho0 (zan (by repeat (first | (with_reducible first | exact HB.out | apply zac | apply zaa | apply zab | refine zad ?_ GE224.out | refine zad ?_ GE232.out) | exact HB.out)))); have n2_ := Aside0.mk (zao (g := gb224) (o := .cells #[.int .i64 0, .slice none 0 0, .string ⟨#[]⟩] 33 (0, 0)) (by (with_reducible repeat (first | refine zae ?_ _ | refine zag ?_ | refine zaf ?_ _)); refine zbx ?_ NB224_232.out _; (with_reducible repeat (first | refine zae ?_ _ | refine zag ?_ | refine zaf ?_ _)); refine zbx ?_ NB224_232.out _; (with_reducible repeat (first | refine zae ?_ _ | refine zag ?_ | refine zaf ?_ _)); refine zbx ?_ NB224_232.out _; (with_reducible repeat (first | refine zae ?_ _ | refine zag ?_ | refine zaf ?_ _)); exact BK224.out) hb); have n3_ := Aside0.mk (zao (g := gb232) (o := .cells #[.string t225, .slice Ao12 t226.length co12, .string t229] 50 (0, 0)) (by (with_reducible repeat (first | refine zae ?_ _ | refine zag ?_ | refine zaf ?_ _)); refine zav (cs := #[.string t225, .slice Ao12 t226.length co12, .string ⟨#[]⟩]) ?_ 2 _ rfl; (with_reducible repeat (first | refine zae ?_ _ | refine zag ?_ | refine zaf ?_ _)); refine zav (cs := #[.string t225, .slice none 0 0, .string ⟨#[]⟩]) ?_ 1 _ rfl; (with_reducible repeat (first | refine zae ?_ _ | refine zag ?_ | refine zaf ?_ _)); refine zav (cs := #[.string ⟨#[]⟩, .slice none 0 0, .string ⟨#[]⟩]) ?_ 0 _ rfl; (with_reducible repeat (first | refine zae ?_ _ | refine zag ?_ | refine zaf ?_ _)); exact BK232.out) hb); have n4_ := Aside0.mk (zam (by repeat (first | (with_reducible first | exact HB.out | apply zac | apply zaa | apply zab | refine zad ?_ GE224.out | refine zad ?_ GE232.out) | exact HB.out)) hb); clear HO228; clear BK224; clear BK232; clear HB; have HO228 := n0_; have HO235 := n1_; have BK224 := n2_; have BK232 := n3_; have HB := n4_; clear n0_ n1_ n2_ n3_ n4_; (try clear hb); (try clear hb2); (try clear hk); (try clear hi); (try clear ho0); obtain ⟨Ao14, co14, eo14⟩ := Kd.zca HO235.out; subst eo14; have p236 : 0 ≤ (1 : Int) := (by omega); have q236 : 1 < (t233.length : Int) := of_decide_eq_true (by first | (with_reducible assumption) | assumption); obtain ⟨ad236, e236, hx236_0⟩ := Kd.zbw (Kd.zbu HO235.out).2.2 1 p236 q236; cases e236; (try simp only [show (1 : Int).toNat = 1 from rfl, Nat.reduceMul, Nat.reduceEqDiff, Go.Addr.add, ↓reduceIte] at hx236_0); have qi236 : (1 < t233.length) = True := eq_true (by omega); (try rw [show ((1 : Int)).toNat = 1 from rfl] at hx236_0); replace p236 := eq_true p236; replace q236 := eq_true q236) | ((with_reducible refine zar (f := 28) rfl ?_); refine zbr (some 26) rfl rfl Tryz.func28 (by kernel_rfl) rfl #[.string (rdOf ByteArray.empty t233 1), .int .u64 599] rfl (by (try simp only [List.map_toArray, List.map_cons, List.map_nil]); first | done | rfl | (simp only [List.length_drop, List.length_take]; rfl)) ?_; (with_reducible refine (zcl.calls (rdOf ByteArray.empty t233 1) 599 t237 t238 _ ?side1 A6.out).mono ?_); (case side1 => exact LaidM.below HT.out (by repeat (first | (with_reducible first | exact HB.out | apply zac | apply zaa | apply zab | refine zad ?_ GE224.out | refine zad ?_ GE232.out) | exact HB.out))); rintro e w15 ⟨rfl, hb⟩; refine ⟨_, rfl, ?_⟩; have n0_ := Aside0.mk (Kd.zbl (by (with_reducible repeat (first | apply Kd.zbc | apply Kd.zbb | apply Kd.zbg)); exact HO228.out) hb); have n1_ := Aside0.mk (Kd.zbl (by (with_reducible repeat (first | apply Kd.zbc | apply Kd.zbb | apply Kd.zbg)); exact HO235.out) hb); have n2_ := Aside0.mk (zao (g := gb224) (o := .cells #[.int .i64 0, .slice none 0 0, .string ⟨#[]⟩] 33 (0, 0)) (by (with_reducible repeat (first | refine zae ?_ _ | refine zag ?_ | refine zaf ?_ _)); exact BK224.out) hb); have n3_ := Aside0.mk (zao (g := gb232) (o := .cells #[.string t225, .slice Ao12 t226.length co12, .string t229] 50 (0, 0)) (by (with_reducible repeat (first | refine zae ?_ _ | refine zag ?_ | refine zaf ?_ _)); exact BK232.out) hb); have n4_ := Aside0.mk (zam (by repeat (first | (with_reducible first | exact HB.out | apply zac | apply zaa | apply zab | refine zad ?_ GE224.out | refine zad ?_ GE232.out) | exact HB.out)) hb); clear HO228; clear HO235; clear BK224; clear BK232; clear HB; have HO228 := n0_; have HO235 := n1_; have BK224 := n2_; have BK232 := n3_; have HB := n4_; clear n0_ n1_ n2_ n3_ n4_; (try clear hb); (try clear hb2); (try clear hk); (try clear hi); have hcz16_0 : w15.cell? ⟨gb232, 0, none⟩ = some (.string t225) := (zah BK232.out 0).trans rfl; have hcz16_1 : w15.cell? ⟨gb232, 1, none⟩ = some (.slice Ao12 t226.length co12) := (zah BK232.out 1).trans rfl; have hcz16_2 : w15.cell? ⟨gb232, 2, none⟩ = some (.string t229) := (zah BK232.out 2).trans rfl; have hfz16_0 := zai BK232.out 0; have hfz16_1 := zai BK232.out 1; have hfz16_2 := zai BK232.out 2; have hcz17_0 : w15.cell? ⟨gb224, 0, none⟩ = some (.int .i64 0) := (zah BK224.out 0).trans rfl; have hcz17_1 : w15.cell? ⟨gb224, 1, none⟩ = some (.slice none 0 0) := (zah BK224.out 1).trans rfl; have hcz17_2 : w15.cell? ⟨gb224, 2, none⟩ = some (.string ⟨#[]⟩) := (zah BK224.out 2).trans rfl; have hfz17_0 := zai BK224.out 0; have hfz17_1 := zai BK224.out 1; have hfz17_2 := zai BK224.out 2))
   refine bodyPost_ret (zcr rfl _ _ gb224 33 #[.int .i64 (wrap64 (t237)), .slice Ao12 t226.length co12, .string t229] (0, 0) _ rfl (by (with_reducible repeat (first | refine zae ?_ _ | refine zag ?_ | refine zaf ?_ _)); refine zav (cs := #[.int .i64 (wrap64 (t237)), .slice Ao12 t226.length co12, .string ⟨#[]⟩]) ?_ 2 _ rfl; (with_reducible repeat (first | refine zae ?_ _ | refine zag ?_ | refine zaf ?_ _)); refine zav (cs := #[.int .i64 (wrap64 (t237)), .slice none 0 0, .string ⟨#[]⟩]) ?_ 1 _ rfl; (with_reducible repeat (first | refine zae ?_ _ | refine zag ?_ | refine zaf ?_ _)); refine zav (cs := #[.int .i64 0, .slice none 0 0, .string ⟨#[]⟩]) ?_ 0 _ rfl; (with_reducible repeat (first | refine zae ?_ _ | refine zag ?_ | refine zaf ?_ _)); exact BK224.out) Tryz.underlying33 rfl (by kernel_rfl)) rfl ?_
   exact ⟨_, by first | rfl | (simp [zaq, zap] <;> rfl) | (simp [*, zaq, zap] <;> rfl), by (with_reducible repeat (first | apply Kd.zbc | apply Kd.zbb | apply Kd.zbg)); exact Kd.zco (Kd.zbp (p := ⟨gb224, 2, none⟩) (Kd.zbp (p := ⟨gb224, 1, none⟩) (Kd.zbp (p := ⟨gb224, 0, none⟩) (Kd.zch HO228.out BK224.out (by decide)) (fun _ hk => hk.2) (.int .i64 (wrap64 (t237)))) (fun _ hk => hk.2) (.slice Ao12 t226.length co12)) (fun _ hk => hk.2) (.string t229)) (fun _ hk => trivial), by repeat (first | (with_reducible first | exact HB.out | apply zac | apply zaa | apply zab | refine zad ?_ GE224.out | refine zad ?_ GE232.out) | exact HB.out)⟩
  ·rw [if_neg c5] at H
   exact absurd H (by simp)
 ·rw [if_neg c3] at H
  have c3b0 : (t231 == 0) = false := beq_eq_false_iff_ne.mpr c3
  have c3b1 : (t231 != 0) = true := bne_iff_ne.mpr c3
  simp only [Option.some.injEq, Prod.mk.injEq] at H
  obtain ⟨rfl, rfl, rfl, rfl, rfl⟩ := H
  go_enter Tryz.func9, Tryz.ntmps9
  go_wp2_with (first | ((with_reducible refine zbj (N := 2) rfl ?_); refine zbf ?hg (N := 2) ?hd (cs := #[.int .i64 0, .slice none 0 0, .string ⟨#[]⟩]) (t := 33) ?hr ?_; (case hd => rfl); (case hg => rfl); (case hr => first | (go_simp; done) | (go_simp; rfl)); intro gb224 hg w18 hbox hb; have n0_ := Aside0.mk (zam (by repeat (first | (with_reducible first | exact HB.out | apply zac | apply zaa | apply zab) | exact HB.out)) hb); have n1_ := Aside0.mk (hbox); have n2_ := Aside0.mk ((by rw [hg]; exact (zan (by repeat (first | (with_reducible first | exact HB.out | apply zac | apply zaa | apply zab) | exact HB.out))) : w.heap.size ≤ gb224)); have n3_ := Aside0.mk ((by rw [hg]; exact (zan (by repeat (first | (with_reducible first | exact HB.out | apply zac | apply zaa | apply zab) | exact HB.out))) : w.heap.size ≤ gb224)); clear HB; have HB := n0_; have BK224 := n1_; have GW224 := n2_; have GE224 := n3_; clear n0_ n1_ n2_ n3_; clear hb hbox hg) | ((with_reducible refine zar (f := 18) rfl ?_); refine zbr (some 12) rfl rfl Tryz.func18 (by kernel_rfl) rfl #[.string a0, .func (.func 25) #[] #[]] rfl (by (try simp only [List.map_toArray, List.map_cons, List.map_nil]); first | done | rfl | (simp only [List.length_drop, List.length_take]; rfl)) ?_; (with_reducible refine (zbe.calls k a0 t225 t226 t229 t230 t231 _ ?side1 A2.out).mono ?_); (case side1 => exact LaidM.below HT.out (by repeat (first | (with_reducible first | exact HB.out | apply zac | apply zaa | apply zab | refine zad ?_ GE224.out) | exact HB.out))); rintro e w19 ⟨v227, rfl, ho0, hb⟩; refine ⟨_, rfl, ?_⟩; have n0_ := Aside0.mk (Kd.zby ho0 (zan (by repeat (first | (with_reducible first | exact HB.out | apply zac | apply zaa | apply zab | refine zad ?_ GE224.out) | exact HB.out)))); have n1_ := Aside0.mk (zao (g := gb224) (o := .cells #[.int .i64 0, .slice none 0 0, .string ⟨#[]⟩] 33 (0, 0)) (by (with_reducible repeat (first | refine zae ?_ _ | refine zag ?_ | refine zaf ?_ _)); exact BK224.out) hb); have n2_ := Aside0.mk (zam (by repeat (first | (with_reducible first | exact HB.out | apply zac | apply zaa | apply zab | refine zad ?_ GE224.out) | exact HB.out)) hb); clear BK224; clear HB; have HO228 := n0_; have BK224 := n1_; have HB := n2_; clear n0_ n1_ n2_; (try clear hb); (try clear hb2); (try clear hk); (try clear hi); (try clear ho0)) | ((with_reducible refine zbj (N := 5) rfl ?_); refine zbf ?hg (N := 5) ?hd (cs := #[.string ⟨#[]⟩, .slice none 0 0, .string ⟨#[]⟩]) (t := 50) ?hr ?_; (case hd => rfl); (case hg => rfl); (case hr => first | (go_simp; done) | (go_simp; rfl)); intro gb232 hg w20 hbox hb; have n0_ := Aside0.mk (Kd.zbl (by (with_reducible repeat (first | apply Kd.zbc | apply Kd.zbb | apply Kd.zbg)); exact HO228.out) hb); have n1_ := Aside0.mk (zao (g := gb224) (o := .cells #[.int .i64 0, .slice none 0 0, .string ⟨#[]⟩] 33 (0, 0)) (by (with_reducible repeat (first | refine zae ?_ _ | refine zag ?_ | refine zaf ?_ _)); exact BK224.out) hb); have n2_ := Aside0.mk (zam (by repeat (first | (with_reducible first | exact HB.out | apply zac | apply zaa | apply zab | refine zad ?_ GE224.out) | exact HB.out)) hb); have n3_ := Aside0.mk (hbox); have n4_ := Aside0.mk ((by rw [hg]; exact (zan (by repeat (first | (with_reducible first | exact HB.out | apply zac | apply zaa | apply zab | refine zad ?_ GE224.out) | exact HB.out))) : w.heap.size ≤ gb232)); have n5_ := Aside0.mk ((by rw [hg]; exact (zan (by repeat (first | (with_reducible first | exact HB.out | apply zac | apply zaa | apply zab | refine zad ?_ GE224.out) | exact HB.out))) : w.heap.size ≤ gb232)); have n6_ := Aside0.mk ((by rw [hg]; exact Nat.ne_of_lt (zbv (g := gb224) (o := .cells #[.int .i64 0, .slice none 0 0, .string ⟨#[]⟩] 33 (0, 0)) (by (with_reducible repeat (first | refine zae ?_ _ | refine zag ?_ | refine zaf ?_ _)); exact BK224.out)) : gb224 ≠ gb232)); have n7_ := Aside0.mk ((by rw [hg]; exact Nat.ne_of_gt (zbv (g := gb224) (o := .cells #[.int .i64 0, .slice none 0 0, .string ⟨#[]⟩] 33 (0, 0)) (by (with_reducible repeat (first | refine zae ?_ _ | refine zag ?_ | refine zaf ?_ _)); exact BK224.out)) : gb232 ≠ gb224)); clear HO228; clear BK224; clear HB; have HO228 := n0_; have BK224 := n1_; have HB := n2_; have BK232 := n3_; have GW232 := n4_; have GE232 := n5_; have NB224_232 := n6_; have NB232_224 := n7_; clear n0_ n1_ n2_ n3_ n4_ n5_ n6_ n7_; clear hb hbox hg; have hnb21 := NB232_224.out; have hnc21 := NB224_232.out; have hcz22_0 : w20.cell? ⟨gb232, 0, none⟩ = some (.string ⟨#[]⟩) := (zah BK232.out 0).trans rfl; have hcz22_1 : w20.cell? ⟨gb232, 1, none⟩ = some (.slice none 0 0) := (zah BK232.out 1).trans rfl; have hcz22_2 : w20.cell? ⟨gb232, 2, none⟩ = some (.string ⟨#[]⟩) := (zah BK232.out 2).trans rfl; have hfz22_0 := zai BK232.out 0; have hfz22_1 := zai BK232.out 1; have hfz22_2 := zai BK232.out 2; obtain ⟨Ao23, co23, eo23⟩ := Kd.zca HO228.out; subst eo23; have hcz24_0 : w20.cell? ⟨gb224, 0, none⟩ = some (.int .i64 0) := (zah BK224.out 0).trans rfl; have hcz24_1 : w20.cell? ⟨gb224, 1, none⟩ = some (.slice none 0 0) := (zah BK224.out 1).trans rfl; have hcz24_2 : w20.cell? ⟨gb224, 2, none⟩ = some (.string ⟨#[]⟩) := (zah BK224.out 2).trans rfl; have hfz24_0 := zai BK224.out 0; have hfz24_1 := zai BK224.out 1; have hfz24_2 := zai BK224.out 2))
  refine bodyPost_ret (zcr rfl _ _ gb224 33 #[.int .i64 0, .slice none 0 0, .string ⟨#[]⟩] (0, 0) _ rfl (by (with_reducible repeat (first | refine zae ?_ _ | refine zag ?_ | refine zaf ?_ _)); refine zav (cs := #[.int .i64 0, .slice none 0 0, .string ⟨#[]⟩]) ?_ 2 _ rfl; (with_reducible repeat (first | refine zae ?_ _ | refine zag ?_ | refine zaf ?_ _)); refine zav (cs := #[.int .i64 0, .slice none 0 0, .string ⟨#[]⟩]) ?_ 1 _ rfl; (with_reducible repeat (first | refine zae ?_ _ | refine zag ?_ | refine zaf ?_ _)); refine zav (cs := #[.int .i64 0, .slice none 0 0, .string ⟨#[]⟩]) ?_ 0 _ rfl; (with_reducible repeat (first | refine zae ?_ _ | refine zag ?_ | refine zaf ?_ _)); refine zbx ?_ NB224_232.out _; (with_reducible repeat (first | refine zae ?_ _ | refine zag ?_ | refine zaf ?_ _)); refine zbx ?_ NB224_232.out _; (with_reducible repeat (first | refine zae ?_ _ | refine zag ?_ | refine zaf ?_ _)); refine zbx ?_ NB224_232.out _; (with_reducible repeat (first | refine zae ?_ _ | refine zag ?_ | refine zaf ?_ _)); exact BK224.out) Tryz.underlying33 rfl (by kernel_rfl)) rfl ?_
  exact ⟨_, by first | rfl | (simp [zaq, zap] <;> rfl) | (simp [*, zaq, zap] <;> rfl), by first | exact Kd.zee _ _ _ _ _ | exact Kd.zen _ _ _ _ _ | exact Kd.zek _ _ _ _ _ | exact Kd.zem _ _ _ _ _ | exact Kd.zel _ _ _ _ _, by repeat (first | (with_reducible first | exact HB.out | apply zac | apply zaa | apply zab | refine zad ?_ GE224.out | refine zad ?_ GE232.out) | exact HB.out)⟩
def zcs.f (k : Nat) (a0_0 : ByteArray) (a0_1 : ByteArray) (l0_2 : List (S62)) (a0_3 : ByteArray) : Option (ByteArray × Int) := (zck.f k a0_0 a0_1).bind fun t240 => (if t240 = true then (if a0_0.size + 1 ≤ 9223372036854775807 then (if (a0_0 ++ (⟨#[32]⟩ : ByteArray)).size + a0_1.size ≤ 9223372036854775807 then (if ((a0_0 ++ (⟨#[32]⟩ : ByteArray)) ++ a0_1).size + 1 ≤ 9223372036854775807 then (if (((a0_0 ++ (⟨#[32]⟩ : ByteArray)) ++ a0_1) ++ (⟨#[32]⟩ : ByteArray)).size + 8 ≤ 9223372036854775807 then ((zaz.f k ((((a0_0 ++ (⟨#[32]⟩ : ByteArray)) ++ a0_1) ++ (⟨#[32]⟩ : ByteArray)) ++ (⟨#[72, 84, 84, 80, 47, 49, 46, 49]⟩ : ByteArray)) l0_2 a0_3).bind fun bt241 => (some (bt241.1, bt241.2))) else (none)) else (none)) else (none)) else (none)) else (some ((⟨#[]⟩ : ByteArray), 80)))
set_option maxHeartbeats 8000000 in
set_option maxRecDepth 100000 in
theorem zcs.calls (k : Nat) (a0_0 : ByteArray) (a0_1 : ByteArray) (A0_2 : Option Addr) (c0_2 : Nat) (l0_2 : List (S62)) (a0_3 : ByteArray) (r1 : ByteArray) (r2 : Int) (w : World) (hr0_2 : Kd.C k62 w A0_2 l0_2.length l0_2) (hc0_2 : l0_2.length ≤ c0_2) (hT : LaidM w) (h : zcs.f k a0_0 a0_1 l0_2 a0_3 = some (r1, r2)) :
  Calls Tryz.prog 11 #[.agg #[.string a0_0, .string a0_1, .slice A0_2 l0_2.length c0_2, .string a0_3]] w fun e w' => e = .returned (.tuple #[.string r1, .int .i64 r2]) ∧ Below w.heap.size w w' := by
 have hu25 := Tryz.underlying25
 have hu50 := Tryz.underlying50
 have HR0_2 := Aside0.mk hr0_2
 have HC0_2 := Aside0.mk hc0_2
 clear hr0_2 hc0_2
 have HB := Aside0.mk (Below.refl w.heap.size w)
 have HT := Aside0.mk hT
 clear hT
 have H : ((zck.f k a0_0 a0_1).bind fun t240 => (if t240 = true then (if a0_0.size + 1 ≤ 9223372036854775807 then (if (a0_0 ++ (⟨#[32]⟩ : ByteArray)).size + a0_1.size ≤ 9223372036854775807 then (if ((a0_0 ++ (⟨#[32]⟩ : ByteArray)) ++ a0_1).size + 1 ≤ 9223372036854775807 then (if (((a0_0 ++ (⟨#[32]⟩ : ByteArray)) ++ a0_1) ++ (⟨#[32]⟩ : ByteArray)).size + 8 ≤ 9223372036854775807 then ((zaz.f k ((((a0_0 ++ (⟨#[32]⟩ : ByteArray)) ++ a0_1) ++ (⟨#[32]⟩ : ByteArray)) ++ (⟨#[72, 84, 84, 80, 47, 49, 46, 49]⟩ : ByteArray)) l0_2 a0_3).bind fun bt241 => (some (bt241.1, bt241.2))) else (none)) else (none)) else (none)) else (none)) else (some ((⟨#[]⟩ : ByteArray), 80)))) = some (r1, r2) := h
 clear h
 replace H := Option.bind_eq_some_iff.mp H
 obtain ⟨t240, A20, H⟩ := H
 try dsimp only at H
 have A2 := Aside0.mk A20
 clear A20
 by_cases c3 : t240 = true
 ·subst c3
  have H1 : (if a0_0.size + 1 ≤ 9223372036854775807 then (if (a0_0 ++ (⟨#[32]⟩ : ByteArray)).size + a0_1.size ≤ 9223372036854775807 then (if ((a0_0 ++ (⟨#[32]⟩ : ByteArray)) ++ a0_1).size + 1 ≤ 9223372036854775807 then (if (((a0_0 ++ (⟨#[32]⟩ : ByteArray)) ++ a0_1) ++ (⟨#[32]⟩ : ByteArray)).size + 8 ≤ 9223372036854775807 then ((zaz.f k ((((a0_0 ++ (⟨#[32]⟩ : ByteArray)) ++ a0_1) ++ (⟨#[32]⟩ : ByteArray)) ++ (⟨#[72, 84, 84, 80, 47, 49, 46, 49]⟩ : ByteArray)) l0_2 a0_3).bind fun bt241 => (some (bt241.1, bt241.2))) else (none)) else (none)) else (none)) else (none)) = some (r1, r2) := by rw [if_pos rfl] at H; exact H
  clear H
  have H := H1
  clear H1
  by_cases c4 : a0_0.size + 1 ≤ 9223372036854775807
  ·rw [if_pos c4] at H
   have c4b0 := eq_true c4
   have c4b1 := decide_eq_true c4
   try have c4b2 := eq_false (Nat.not_lt.2 c4)
   by_cases c5 : (a0_0 ++ (⟨#[32]⟩ : ByteArray)).size + a0_1.size ≤ 9223372036854775807
   ·rw [if_pos c5] at H
    have c5e := c5
    (try simp only [ByteArray.size_append, gt_iff_lt, ge_iff_le, show (⟨#[32]⟩ : ByteArray).size = 1 from rfl] at c5e)
    (try simp only [Int.natCast_add, Int.cast_ofNat_Int] at c5e)
    (try (have c5e2 := decide_eq_true c5e))
    (try replace c5e := eq_true c5e)
    have c5b0 := eq_true c5
    have c5b1 := decide_eq_true c5
    try have c5b2 := eq_false (Nat.not_lt.2 c5)
    have c5b8 : (9223372036854775807 < a0_0.size + 1 + a0_1.size) = False := by have h_ := c5; simp only [ByteArray.size_append] at h_; exact eq_false (Nat.not_lt.2 h_)
    by_cases c6 : ((a0_0 ++ (⟨#[32]⟩ : ByteArray)) ++ a0_1).size + 1 ≤ 9223372036854775807
    ·rw [if_pos c6] at H
     have c6e := c6
     (try simp only [ByteArray.size_append, gt_iff_lt, ge_iff_le, show (⟨#[32]⟩ : ByteArray).size = 1 from rfl] at c6e)
     (try simp only [Int.natCast_add, Int.cast_ofNat_Int] at c6e)
     (try (have c6e2 := decide_eq_true c6e))
     (try replace c6e := eq_true c6e)
     have c6b0 := eq_true c6
     have c6b1 := decide_eq_true c6
     try have c6b2 := eq_false (Nat.not_lt.2 c6)
     have c6b8 : (9223372036854775807 < a0_0.size + 1 + a0_1.size + 1) = False := by have h_ := c6; simp only [ByteArray.size_append] at h_; exact eq_false (Nat.not_lt.2 h_)
     by_cases c7 : (((a0_0 ++ (⟨#[32]⟩ : ByteArray)) ++ a0_1) ++ (⟨#[32]⟩ : ByteArray)).size + 8 ≤ 9223372036854775807
     ·rw [if_pos c7] at H
      have c7e := c7
      (try simp only [ByteArray.size_append, gt_iff_lt, ge_iff_le, show (⟨#[32]⟩ : ByteArray).size = 1 from rfl] at c7e)
      (try simp only [Int.natCast_add, Int.cast_ofNat_Int] at c7e)
      (try (have c7e2 := decide_eq_true c7e))
      (try replace c7e := eq_true c7e)
      have c7b0 := eq_true c7
      have c7b1 := decide_eq_true c7
      try have c7b2 := eq_false (Nat.not_lt.2 c7)
      have c7b8 : (9223372036854775807 < a0_0.size + 1 + a0_1.size + 1 + 8) = False := by have h_ := c7; simp only [ByteArray.size_append] at h_; exact eq_false (Nat.not_lt.2 h_)
      replace H := Option.bind_eq_some_iff.mp H
      obtain ⟨⟨t241, t242⟩, A80, H⟩ := H
      replace H : (some (t241, t242)) = some (r1, r2) := H
      have A8 := Aside0.mk A80
      clear A80
      simp only [Option.some.injEq, Prod.mk.injEq] at H
      obtain ⟨rfl, rfl⟩ := H
      go_enter Tryz.func11, Tryz.ntmps11
      go_wp2_with (first | ((with_reducible refine zbj (N := 1) rfl ?_); refine zbf ?hg (N := 1) ?hd (cs := #[.string a0_0, .string a0_1, .slice A0_2 l0_2.length c0_2, .string a0_3]) (t := 25) ?hr ?_; (case hd => rfl); (case hg => rfl); (case hr => first | (go_simp; done) | (go_simp; rfl)); intro gb239 hg w9 hbox hb; have n0_ := Aside0.mk (zam (by repeat (first | (with_reducible first | exact HB.out | apply zac | apply zaa | apply zab) | exact HB.out)) hb); have n1_ := Aside0.mk (hbox); have n2_ := Aside0.mk ((by rw [hg]; exact (zan (by repeat (first | (with_reducible first | exact HB.out | apply zac | apply zaa | apply zab) | exact HB.out))) : w.heap.size ≤ gb239)); have n3_ := Aside0.mk ((by rw [hg]; exact (zan (by repeat (first | (with_reducible first | exact HB.out | apply zac | apply zaa | apply zab) | exact HB.out))) : w.heap.size ≤ gb239)); clear HB; have HB := n0_; have BK239 := n1_; have GW239 := n2_; have GE239 := n3_; clear n0_ n1_ n2_ n3_; clear hb hbox hg; have hcz10_0 : w9.cell? ⟨gb239, 0, none⟩ = some (.string a0_0) := (zah BK239.out 0).trans rfl; have hcz10_1 : w9.cell? ⟨gb239, 1, none⟩ = some (.string a0_1) := (zah BK239.out 1).trans rfl; have hcz10_2 : w9.cell? ⟨gb239, 2, none⟩ = some (.slice A0_2 l0_2.length c0_2) := (zah BK239.out 2).trans rfl; have hcz10_3 : w9.cell? ⟨gb239, 3, none⟩ = some (.string a0_3) := (zah BK239.out 3).trans rfl; have hfz10_0 := zai BK239.out 0; have hfz10_1 := zai BK239.out 1; have hfz10_2 := zai BK239.out 2; have hfz10_3 := zai BK239.out 3) | ((with_reducible refine zar (f := 21) rfl ?_); refine zbr (some 8) rfl rfl Tryz.func21 (by kernel_rfl) rfl #[.string a0_0, .string a0_1] rfl (by (try simp only [List.map_toArray, List.map_cons, List.map_nil]); first | done | rfl | (simp only [List.length_drop, List.length_take]; rfl)) ?_; (with_reducible refine (zck.calls k a0_0 a0_1 true _ A2.out).mono ?_); rintro e w' ⟨rfl, ⟨nd, rfl⟩⟩; refine ⟨_, rfl, ?_⟩) | ((with_reducible refine zar (f := 30) rfl ?_); refine zbr (some 23) rfl rfl Tryz.func30 (by kernel_rfl) rfl #[.agg #[.string ((((a0_0 ++ (⟨#[32]⟩ : ByteArray)) ++ a0_1) ++ (⟨#[32]⟩ : ByteArray)) ++ (⟨#[72, 84, 84, 80, 47, 49, 46, 49]⟩ : ByteArray)), .slice A0_2 l0_2.length c0_2, .string a0_3]] rfl (by (try simp only [List.map_toArray, List.map_cons, List.map_nil]); first | done | rfl | (simp only [List.length_drop, List.length_take]; rfl)) ?_; (with_reducible refine (zaz.calls k ((((a0_0 ++ (⟨#[32]⟩ : ByteArray)) ++ a0_1) ++ (⟨#[32]⟩ : ByteArray)) ++ (⟨#[72, 84, 84, 80, 47, 49, 46, 49]⟩ : ByteArray)) _ _ l0_2 a0_3 t241 t242 _ ?side1 ?side2 ?side3 A8.out).mono ?_); (case side1 => repeat (first | exact (Kd.zdf HR0_2.out (by repeat (first | (with_reducible first | exact HB.out | apply zac | apply zaa | apply zab | refine zad ?_ GE239.out) | exact HB.out))) | (with_reducible refine Kd.zde ?_ _) | (with_reducible refine Kd.zdd ?_ _) | (with_reducible refine Kd.zdp ?_))); (case side2 => exact HC0_2.out); (case side3 => exact LaidM.below HT.out (by repeat (first | (with_reducible first | exact HB.out | apply zac | apply zaa | apply zab | refine zad ?_ GE239.out) | exact HB.out))); rintro e w11 ⟨rfl, hb⟩; refine ⟨_, rfl, ?_⟩; have n0_ := Aside0.mk (zao (g := gb239) (o := .cells #[.string a0_0, .string a0_1, .slice A0_2 l0_2.length c0_2, .string a0_3] 25 (0, 0)) (by (with_reducible repeat (first | refine zae ?_ _ | refine zag ?_ | refine zaf ?_ _)); exact BK239.out) hb); have n1_ := Aside0.mk (zam (by repeat (first | (with_reducible first | exact HB.out | apply zac | apply zaa | apply zab | refine zad ?_ GE239.out) | exact HB.out)) hb); clear BK239; clear HB; have BK239 := n0_; have HB := n1_; clear n0_ n1_; (try clear hb); (try clear hb2); (try clear hk); (try clear hi)))
      go_ret2
      exact ⟨by first | rfl | (simp [zaq, zap] <;> rfl) | (simp [*, zaq, zap] <;> rfl), by repeat (first | (with_reducible first | exact HB.out | apply zac | apply zaa | apply zab | refine zad ?_ GE239.out) | exact HB.out)⟩
     ·rw [if_neg c7] at H
      have c7e := c7
      (try simp only [ByteArray.size_append, gt_iff_lt, ge_iff_le, show (⟨#[32]⟩ : ByteArray).size = 1 from rfl] at c7e)
      (try simp only [Int.natCast_add, Int.cast_ofNat_Int] at c7e)
      (try (have c7e2 := decide_eq_false c7e))
      (try replace c7e := eq_false c7e)
      exact absurd H (by simp)
    ·rw [if_neg c6] at H
     have c6e := c6
     (try simp only [ByteArray.size_append, gt_iff_lt, ge_iff_le, show (⟨#[32]⟩ : ByteArray).size = 1 from rfl] at c6e)
     (try simp only [Int.natCast_add, Int.cast_ofNat_Int] at c6e)
     (try (have c6e2 := decide_eq_false c6e))
     (try replace c6e := eq_false c6e)
     exact absurd H (by simp)
   ·rw [if_neg c5] at H
    have c5e := c5
    (try simp only [ByteArray.size_append, gt_iff_lt, ge_iff_le, show (⟨#[32]⟩ : ByteArray).size = 1 from rfl] at c5e)
    (try simp only [Int.natCast_add, Int.cast_ofNat_Int] at c5e)
    (try (have c5e2 := decide_eq_false c5e))
    (try replace c5e := eq_false c5e)
    exact absurd H (by simp)
  ·rw [if_neg c4] at H
   exact absurd H (by simp)
 ·replace c3 := Bool.eq_false_iff.mpr c3
  subst c3
  have H1 : (some ((⟨#[]⟩ : ByteArray), 80)) = some (r1, r2) := by rw [if_neg (show ¬ (false = true) by decide)] at H; exact H
  clear H
  have H := H1
  clear H1
  simp only [Option.some.injEq, Prod.mk.injEq] at H
  obtain ⟨rfl, rfl⟩ := H
  go_enter Tryz.func11, Tryz.ntmps11
  go_wp2_with (first | ((with_reducible refine zbj (N := 1) rfl ?_); refine zbf ?hg (N := 1) ?hd (cs := #[.string a0_0, .string a0_1, .slice A0_2 l0_2.length c0_2, .string a0_3]) (t := 25) ?hr ?_; (case hd => rfl); (case hg => rfl); (case hr => first | (go_simp; done) | (go_simp; rfl)); intro gb239 hg w12 hbox hb; have n0_ := Aside0.mk (zam (by repeat (first | (with_reducible first | exact HB.out | apply zac | apply zaa | apply zab) | exact HB.out)) hb); have n1_ := Aside0.mk (hbox); have n2_ := Aside0.mk ((by rw [hg]; exact (zan (by repeat (first | (with_reducible first | exact HB.out | apply zac | apply zaa | apply zab) | exact HB.out))) : w.heap.size ≤ gb239)); have n3_ := Aside0.mk ((by rw [hg]; exact (zan (by repeat (first | (with_reducible first | exact HB.out | apply zac | apply zaa | apply zab) | exact HB.out))) : w.heap.size ≤ gb239)); clear HB; have HB := n0_; have BK239 := n1_; have GW239 := n2_; have GE239 := n3_; clear n0_ n1_ n2_ n3_; clear hb hbox hg; have hcz13_0 : w12.cell? ⟨gb239, 0, none⟩ = some (.string a0_0) := (zah BK239.out 0).trans rfl; have hcz13_1 : w12.cell? ⟨gb239, 1, none⟩ = some (.string a0_1) := (zah BK239.out 1).trans rfl; have hcz13_2 : w12.cell? ⟨gb239, 2, none⟩ = some (.slice A0_2 l0_2.length c0_2) := (zah BK239.out 2).trans rfl; have hcz13_3 : w12.cell? ⟨gb239, 3, none⟩ = some (.string a0_3) := (zah BK239.out 3).trans rfl; have hfz13_0 := zai BK239.out 0; have hfz13_1 := zai BK239.out 1; have hfz13_2 := zai BK239.out 2; have hfz13_3 := zai BK239.out 3) | ((with_reducible refine zar (f := 21) rfl ?_); refine zbr (some 8) rfl rfl Tryz.func21 (by kernel_rfl) rfl #[.string a0_0, .string a0_1] rfl (by (try simp only [List.map_toArray, List.map_cons, List.map_nil]); first | done | rfl | (simp only [List.length_drop, List.length_take]; rfl)) ?_; (with_reducible refine (zck.calls k a0_0 a0_1 false _ A2.out).mono ?_); rintro e w' ⟨rfl, ⟨nd, rfl⟩⟩; refine ⟨_, rfl, ?_⟩))
  go_ret2
  exact ⟨by first | rfl | (simp [zaq, zap] <;> rfl) | (simp [*, zaq, zap] <;> rfl), by repeat (first | (with_reducible first | exact HB.out | apply zac | apply zaa | apply zab | refine zad ?_ GE239.out) | exact HB.out)⟩
end Go.Proofs.YtipfekjmcddelaaGreatDoor.XHttpWrites
