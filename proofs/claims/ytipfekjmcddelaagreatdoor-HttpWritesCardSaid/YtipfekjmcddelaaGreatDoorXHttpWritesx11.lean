-- written by wip/xprint.py: the kit's print with functions walked by hand
import Derived.Test.YtipfekjmcddelaaGreatDoorPk
import Derived.Test.YtipfekjmcddelaaGreatDoorXHttpWritesx0
import Derived.Test.YtipfekjmcddelaaGreatDoorXHttpWritesx3
import Derived.Test.YtipfekjmcddelaaGreatDoorXHttpWritesx5
import Derived.Test.YtipfekjmcddelaaGreatDoorXHttpWritesx6
import Derived.Test.YtipfekjmcddelaaGreatDoorXHttpWritesx7
import Derived.Test.YtipfekjmcddelaaGreatDoorXHttpWritesx9
import Derived.Test.YtipfekjmcddelaaGreatDoorXHttpWritesx10
namespace Go.Proofs.YtipfekjmcddelaaGreatDoor.XHttpWrites
open Go.RowKit Go.Proofs.YtipfekjmcddelaaGreatDoorW.zgo Go.Proofs.YtipfekjmcddelaaGreatDoorW.zgp Go.Proofs.YtipfekjmcddelaaGreatDoorW.zgq
attribute [local go_sem] zdk zdi zdx zdw zdc zdb zdj zdh   -- for this text's walks alone
set_option linter.unusedVariables false
set_option linter.unusedSimpArgs false
mutual
def zaj.j0 : Nat → ByteArray → Bool → ByteArray → ByteArray → List (S62) → ByteArray → Int → List (S62) → ByteArray → Option (Bool)
 | 0, _, _, _, _, _, _, _, _, _ => none
 | k + 1, x2, x33, x261000, x261001, x261002, x261003, x262000, x262001, x262002 => if x33 = true then (some true) else ((zcs.f k x261000 x261001 x261002 x261003).bind fun bt263 => ((zcq.f k x261000 x261001).bind fun t265 => (if t265 = true then (if x261000.size + 1 ≤ 9223372036854775807 then (if (x261000 ++ (⟨#[32]⟩ : ByteArray)).size + x261001.size ≤ 9223372036854775807 then (if ((x261000 ++ (⟨#[32]⟩ : ByteArray)) ++ x261001).size + 9 ≤ 9223372036854775807 then ((zal.f k (((x261000 ++ (⟨#[32]⟩ : ByteArray)) ++ x261001) ++ (⟨#[32, 72, 84, 84, 80, 47, 49, 46, 49]⟩ : ByteArray)) x261002 x261003).bind fun bt266 => (zaj.j1 k x2 bt263.1 bt263.2 bt266.1 bt266.2 x261000 x261001 x261002 x261003 x262000 x262001 x262002)) else (none)) else (none)) else (none)) else (zaj.j1 k x2 bt263.1 bt263.2 (⟨#[]⟩ : ByteArray) 80 x261000 x261001 x261002 x261003 x262000 x262001 x262002))))
def zaj.j1 : Nat → ByteArray → ByteArray → Int → ByteArray → Int → ByteArray → ByteArray → List (S62) → ByteArray → Int → List (S62) → ByteArray → Option (Bool)
 | 0, _, _, _, _, _, _, _, _, _, _, _, _ => none
 | k + 1, x2, x7, x8, x9, x10, x261000, x261001, x261002, x261003, x262000, x262001, x262002 => if x7.toList = x9.toList then (zaj.j2 k x2 x7 x10 (x8 != x10) x261000 x261001 x261002 x261003 x262000 x262001 x262002) else (zaj.j2 k x2 x7 x10 true x261000 x261001 x261002 x261003 x262000 x262001 x262002)
def zaj.j2 : Nat → ByteArray → ByteArray → Int → Bool → ByteArray → ByteArray → List (S62) → ByteArray → Int → List (S62) → ByteArray → Option (Bool)
 | 0, _, _, _, _, _, _, _, _, _, _, _ => none
 | k + 1, x2, x7, x10, x66, x261000, x261001, x261002, x261003, x262000, x262001, x262002 => if x66 = true then (some false) else (if x10 = 0 then (if x7.size + x2.size ≤ 9223372036854775807 then ((zat.f k (x7 ++ x2)).bind fun bt268 => (if bt268.2.2.2.2.2 = 0 then (if bt268.2.2.2.2.1 = (x7.size : Int) then (if bt268.1.toList = x261000.toList then (if bt268.2.1.toList = x261001.toList then (if bt268.2.2.2.1.toList = x261003.toList then ((zbo.f k bt268.2.2.1 x261002).bind fun t277 => (if t277 = true then (zaj.j3 k x2 x262000 x262001 x262002) else (some false))) else (some false)) else (some false)) else (some false)) else (some false)) else (some false))) else (none)) else (zaj.j3 k x2 x262000 x262001 x262002))
def zaj.j3 : Nat → ByteArray → Int → List (S62) → ByteArray → Option (Bool)
 | 0, _, _, _, _ => none
 | k + 1, x2, x262000, x262001, x262002 => (zas.f k x262000 x262001 x262002).bind fun bt278 => (if x262000 ≥ 100 then (zaj.j4 k x2 (⟨#[]⟩ : ByteArray) 80 bt278.1 bt278.2 (decide (x262000 ≤ 599)) x262000 x262001 x262002) else (zaj.j4 k x2 (⟨#[]⟩ : ByteArray) 80 bt278.1 bt278.2 false x262000 x262001 x262002))
def zaj.j4 : Nat → ByteArray → ByteArray → Int → ByteArray → Int → Bool → Int → List (S62) → ByteArray → Option (Bool)
 | 0, _, _, _, _, _, _, _, _, _ => none
 | k + 1, x2, x9, x10, x14, x15, x126, x262000, x262001, x262002 => if x126 = true then ((zbh.f k (IntKind.u64.wrap (x262000))).bind fun t280 => (if 9 + t280.size ≤ 9223372036854775807 then (if ((⟨#[72, 84, 84, 80, 47, 49, 46, 49, 32]⟩ : ByteArray) ++ t280).size + 1 ≤ 9223372036854775807 then ((zcf.f x262000).bind fun t281 => (if (((⟨#[72, 84, 84, 80, 47, 49, 46, 49, 32]⟩ : ByteArray) ++ t280) ++ (⟨#[32]⟩ : ByteArray)).size + t281.size ≤ 9223372036854775807 then ((zal.f k ((((⟨#[72, 84, 84, 80, 47, 49, 46, 49, 32]⟩ : ByteArray) ++ t280) ++ (⟨#[32]⟩ : ByteArray)) ++ t281) x262001 x262002).bind fun bt282 => (zaj.j5 k x2 bt282.1 bt282.2 x14 x15 x262000 x262001 x262002)) else (none))) else (none)) else (none))) else (zaj.j5 k x2 x9 x10 x14 x15 x262000 x262001 x262002)
def zaj.j5 : Nat → ByteArray → ByteArray → Int → ByteArray → Int → Int → List (S62) → ByteArray → Option (Bool)
 | 0, _, _, _, _, _, _, _, _ => none
 | k + 1, x2, x9, x10, x14, x15, x262000, x262001, x262002 => if x14.toList = x9.toList then (if x15 = x10 then ((zcx.f x262000).bind fun t284 => ((zcf.f x262000).bind fun t285 => (zaj.j6 k x2 x10 x14 (t284.toList != t285.toList) x262000 x262001 x262002))) else (zaj.j6 k x2 x10 x14 true x262000 x262001 x262002)) else (zaj.j6 k x2 x10 x14 true x262000 x262001 x262002)
def zaj.j6 : Nat → ByteArray → Int → ByteArray → Bool → Int → List (S62) → ByteArray → Option (Bool)
 | 0, _, _, _, _, _, _, _ => none
 | k + 1, x2, x10, x14, x161, x262000, x262001, x262002 => if x161 = true then (some false) else (if x10 = 0 then (if x14.size + x2.size ≤ 9223372036854775807 then ((zcc.f k (x14 ++ x2)).bind fun bt286 => (if bt286.2.2.2.2 = 0 then (if bt286.2.2.2.1 = (x14.size : Int) then (if bt286.1 = x262000 then (if bt286.2.2.1.toList = x262002.toList then ((zbo.f k bt286.2.1 x262001).bind fun t294 => (some t294)) else (some false)) else (some false)) else (some false)) else (some false))) else (none)) else (some true))
end
def zaj.f (k : Nat) (a0_0 : ByteArray) (a0_1 : ByteArray) (l0_2 : List (S62)) (a0_3 : ByteArray) (a1_0 : Int) (l1_1 : List (S62)) (a1_2 : ByteArray) (a2 : ByteArray) : Option (Bool) := (zcb.f k).bind fun t262 => (if t262 = true then (if (wrap64 ((l0_2.length : Int) + (l1_1.length : Int))) > 200 then (zaj.j0 k a2 true a0_0 a0_1 l0_2 a0_3 a1_0 l1_1 a1_2) else (zaj.j0 k a2 (decide ((a2.size : Int) > 20000)) a0_0 a0_1 l0_2 a0_3 a1_0 l1_1 a1_2)) else (some false))
def zaj.T18 : Bool × List (List Nat × List Nat) := (true, [([], []), ([0], [0]), ([1], [1]), ([2], [2]), ([3], [3]), ([4], [4]), ([], []), ([6], [6]), ([7, 3], [7]), ([5, 8], [5, 8]), ([], []), ([10], [10]), ([], []), ([12], [12]), ([9, 11, 13, 8], [9, 11, 13]), ([14], [14]), ([15], [15]), ([15], [15]), ([16, 14, 0, 1, 2, 3, 4, 5, 6, 7, 8, 9, 10, 11, 12, 13, 14, 15, 16], [16]), ([17, 18, 0, 1, 2, 3, 4, 5, 6, 7, 8, 9, 10, 11, 12, 13, 14, 15, 16, 17, 18], [17])])
def zaj.B18 : List Nat := [0, 1, 3, 7, 15, 31, 0, 64, 207, 511, 0, 1024, 0, 4096, 16383, 32767, 65535, 65535, 131071, 524287]
theorem zaj.tab18 : rtab .any (opsOf Tryz.f4 18) = zaj.T18 := by kernel_rfl
theorem zaj.bits18 : waitsOk zaj.T18.2 zaj.B18 = true := by kernel_rfl
def zaj.T19 : Bool × List (List Nat × List Nat) := (true, [([], []), ([], []), ([0, 1], [0, 1]), ([2], [2]), ([3], [3]), ([3], [3]), ([4, 5, 3], [3, 4, 5]), ([3, 6], [3, 6]), ([7, 3], [7]), ([8], [8]), ([9, 8], [8, 9]), ([10, 8, 8], [8, 10]), ([8], [8]), ([12, 8], [8, 12]), ([13, 11, 8], [8, 13]), ([11, 14, 8], [8, 11, 14]), ([8, 15], [8, 15])])
def zaj.B19 : List Nat := [0, 0, 3, 7, 15, 15, 63, 127, 255, 511, 1023, 2047, 511, 4607, 16383, 32767, 65535]
theorem zaj.tab19 : rtab .any (opsOf Tryz.f4 19) = zaj.T19 := by kernel_rfl
theorem zaj.bits19 : waitsOk zaj.T19.2 zaj.B19 = true := by kernel_rfl
set_option maxHeartbeats 8000000 in
set_option maxRecDepth 100000 in
theorem zaj.calls (k : Nat) (a0_0 : ByteArray) (a0_1 : ByteArray) (A0_2 : Option Addr) (c0_2 : Nat) (l0_2 : List (S62)) (a0_3 : ByteArray) (a1_0 : Int) (A1_1 : Option Addr) (c1_1 : Nat) (l1_1 : List (S62)) (a1_2 : ByteArray) (a2 : ByteArray) (r : Bool) (w : World) (hr0_2 : Kd.C k62 w A0_2 l0_2.length l0_2) (hc0_2 : l0_2.length ≤ c0_2) (hr1_1 : Kd.C k62 w A1_1 l1_1.length l1_1) (hc1_1 : l1_1.length ≤ c1_1) (hT : LaidM w) (h : zaj.f k a0_0 a0_1 l0_2 a0_3 a1_0 l1_1 a1_2 a2 = some r) :
  Calls Tryz.prog 4 #[.agg #[.string a0_0, .string a0_1, .slice A0_2 l0_2.length c0_2, .string a0_3], .agg #[.int .i64 a1_0, .slice A1_1 l1_1.length c1_1, .string a1_2], .string a2] w fun e w' => e = .returned (.bool r) ∧ Below w.heap.size w w' := by
 have hu25 := Tryz.underlying25
 have hu33 := Tryz.underlying33
 have HR0_2 := Aside0.mk hr0_2
 have HC0_2 := Aside0.mk hc0_2
 clear hr0_2 hc0_2
 have HR1_1 := Aside0.mk hr1_1
 have HC1_1 := Aside0.mk hc1_1
 clear hr1_1 hc1_1
 have HB := Aside0.mk (Below.refl w.heap.size w)
 have HT := Aside0.mk hT
 clear hT
 have H : ((zcb.f k).bind fun t262 => (if t262 = true then (if (wrap64 ((l0_2.length : Int) + (l1_1.length : Int))) > 200 then (zaj.j0 k a2 true a0_0 a0_1 l0_2 a0_3 a1_0 l1_1 a1_2) else (zaj.j0 k a2 (decide ((a2.size : Int) > 20000)) a0_0 a0_1 l0_2 a0_3 a1_0 l1_1 a1_2)) else (some false))) = some r := h
 clear h
 replace H := Option.bind_eq_some_iff.mp H
 obtain ⟨t262, A40, H⟩ := H
 replace H : (if t262 = true then (if (wrap64 ((l0_2.length : Int) + (l1_1.length : Int))) > 200 then (zaj.j0 k a2 true a0_0 a0_1 l0_2 a0_3 a1_0 l1_1 a1_2) else (zaj.j0 k a2 (decide ((a2.size : Int) > 20000)) a0_0 a0_1 l0_2 a0_3 a1_0 l1_1 a1_2)) else (some false)) = some r := H
 have A4 := Aside0.mk A40
 clear A40
 by_cases c5 : t262 = true
 ·subst c5
  have H1 : (if (wrap64 ((l0_2.length : Int) + (l1_1.length : Int))) > 200 then (zaj.j0 k a2 true a0_0 a0_1 l0_2 a0_3 a1_0 l1_1 a1_2) else (zaj.j0 k a2 (decide ((a2.size : Int) > 20000)) a0_0 a0_1 l0_2 a0_3 a1_0 l1_1 a1_2)) = some r := by rw [if_pos rfl] at H; exact H
  clear H
  have H := H1
  clear H1
  have HC6 := Aside0.mk H
  clear H
  go_enter Tryz.func4, Tryz.ntmps4
  go_upto_region 3 with (first | ((with_reducible refine zbj (N := 3) rfl ?_); (try (refine zbi (by rfl) ?_; dsimp only)); refine zbf ?hg (N := 3) ?hd (cs := #[.string a0_0, .string a0_1, .slice A0_2 l0_2.length c0_2, .string a0_3]) (t := 25) ?hr ?_; (case hd => rfl); (case hg => rfl); (case hr => first | (go_simp; done) | (go_simp; rfl)); intro gb260 hg w7 hbox hb; have n0_ := Aside0.mk (zam (by repeat (first | (with_reducible first | exact HB.out | apply zac | apply zaa | apply zab) | exact HB.out)) hb); have n1_ := Aside0.mk (hbox); have n2_ := Aside0.mk ((by rw [hg]; exact (zan (by repeat (first | (with_reducible first | exact HB.out | apply zac | apply zaa | apply zab) | exact HB.out))) : w.heap.size ≤ gb260)); have n3_ := Aside0.mk ((by rw [hg]; exact (zan (by repeat (first | (with_reducible first | exact HB.out | apply zac | apply zaa | apply zab) | exact HB.out))) : w.heap.size ≤ gb260)); clear HB; have HB := n0_; have BK260 := n1_; have GW260 := n2_; have GE260 := n3_; clear n0_ n1_ n2_ n3_; clear hb hbox hg) | ((with_reducible refine zbj (N := 4) rfl ?_); (try (refine zbi (by rfl) ?_; dsimp only)); refine zbf ?hg (N := 4) ?hd (cs := #[.int .i64 a1_0, .slice A1_1 l1_1.length c1_1, .string a1_2]) (t := 33) ?hr ?_; (case hd => rfl); (case hg => rfl); (case hr => first | (go_simp; done) | (go_simp; rfl)); intro gb261 hg w8 hbox hb; have n0_ := Aside0.mk (zao (g := gb260) (o := .cells #[.string a0_0, .string a0_1, .slice A0_2 l0_2.length c0_2, .string a0_3] 25 (0, 0)) (by (with_reducible repeat (first | refine zae ?_ _ | refine zag ?_ | refine zaf ?_ _)); exact BK260.out) hb); have n1_ := Aside0.mk (zam (by repeat (first | (with_reducible first | exact HB.out | apply zac | apply zaa | apply zab | refine zad ?_ GE260.out) | exact HB.out)) hb); have n2_ := Aside0.mk (hbox); have n3_ := Aside0.mk ((by rw [hg]; exact (zan (by repeat (first | (with_reducible first | exact HB.out | apply zac | apply zaa | apply zab | refine zad ?_ GE260.out) | exact HB.out))) : w.heap.size ≤ gb261)); have n4_ := Aside0.mk ((by rw [hg]; exact (zan (by repeat (first | (with_reducible first | exact HB.out | apply zac | apply zaa | apply zab | refine zad ?_ GE260.out) | exact HB.out))) : w.heap.size ≤ gb261)); have n5_ := Aside0.mk ((by rw [hg]; exact Nat.ne_of_lt (zbv (g := gb260) (o := .cells #[.string a0_0, .string a0_1, .slice A0_2 l0_2.length c0_2, .string a0_3] 25 (0, 0)) (by (with_reducible repeat (first | refine zae ?_ _ | refine zag ?_ | refine zaf ?_ _)); exact BK260.out)) : gb260 ≠ gb261)); have n6_ := Aside0.mk ((by rw [hg]; exact Nat.ne_of_gt (zbv (g := gb260) (o := .cells #[.string a0_0, .string a0_1, .slice A0_2 l0_2.length c0_2, .string a0_3] 25 (0, 0)) (by (with_reducible repeat (first | refine zae ?_ _ | refine zag ?_ | refine zaf ?_ _)); exact BK260.out)) : gb261 ≠ gb260)); clear BK260; clear HB; have BK260 := n0_; have HB := n1_; have BK261 := n2_; have GW261 := n3_; have GE261 := n4_; have NB260_261 := n5_; have NB261_260 := n6_; clear n0_ n1_ n2_ n3_ n4_ n5_ n6_; clear hb hbox hg) | ((with_reducible refine zar (f := 5) rfl ?_); refine zbr (some 19) rfl rfl Tryz.func5 (by kernel_rfl) rfl #[] rfl (by (try simp only [List.map_toArray, List.map_cons, List.map_nil]); first | done | rfl | (simp only [List.length_drop, List.length_take]; rfl)) ?_; (with_reducible refine (zcb.calls k  true _ ?side1 A4.out).mono ?_); (case side1 => exact LaidM.below HT.out (by repeat (first | (with_reducible first | exact HB.out | apply zac | apply zaa | apply zab | refine zad ?_ GE260.out | refine zad ?_ GE261.out) | exact HB.out))); rintro e w9 ⟨rfl, hb⟩; refine ⟨_, rfl, ?_⟩; have n0_ := Aside0.mk (zao (g := gb260) (o := .cells #[.string a0_0, .string a0_1, .slice A0_2 l0_2.length c0_2, .string a0_3] 25 (0, 0)) (by (with_reducible repeat (first | refine zae ?_ _ | refine zag ?_ | refine zaf ?_ _)); exact BK260.out) hb); have n1_ := Aside0.mk (zao (g := gb261) (o := .cells #[.int .i64 a1_0, .slice A1_1 l1_1.length c1_1, .string a1_2] 33 (0, 0)) (by (with_reducible repeat (first | refine zae ?_ _ | refine zag ?_ | refine zaf ?_ _)); exact BK261.out) hb); have n2_ := Aside0.mk (zam (by repeat (first | (with_reducible first | exact HB.out | apply zac | apply zaa | apply zab | refine zad ?_ GE260.out | refine zad ?_ GE261.out) | exact HB.out)) hb); clear BK260; clear BK261; clear HB; have BK260 := n0_; have BK261 := n1_; have HB := n2_; clear n0_ n1_ n2_; (try clear hb); (try clear hb2); (try clear hk); (try clear hi)))
  (try simp only [Act.put, List.setIfInBounds_toArray, List.set_cons_zero, List.set_cons_succ])
  go_cut [33] (fun v33 wc => ∃ (kq : Nat) (x33_5 : Bool), v33 = .bool x33_5 ∧ Aside0 (zaj.j0 kq a2 x33_5 a0_0 a0_1 l0_2 a0_3 a1_0 l1_1 a1_2 = some r) ∧ Aside0 (kq ≤ k) ∧ Aside0 (wc.heap[gb260]? = some (.cells #[.string a0_0, .string a0_1, (.slice A0_2 l0_2.length c0_2), .string a0_3] 25 (0, 0))) ∧ Aside0 (wc.heap[gb261]? = some (.cells #[.int .i64 a1_0, (.slice A1_1 l1_1.length c1_1), .string a1_2] 33 (0, 0))) ∧ Aside0 (Below w.heap.size w wc))
  case first => as_aux_lemma =>
   have H := HC6.out
   clear HC6
   by_cases c10 : (wrap64 ((l0_2.length : Int) + (l1_1.length : Int))) > 200
   ·rw [if_pos c10] at H
    have c10b0 := decide_eq_true c10
    clear c10
    (first | rw [c10b0] | (simp only [zbq, zbs]; rw [c10b0]) | skip)
    have H' := Aside0.mk H
    clear H
    have hnb11 := NB260_261.out
    have hnc11 := NB261_260.out
    have hcz12_0 : w9.cell? ⟨gb260, 0, none⟩ = some (.string a0_0) := (zah BK260.out 0).trans rfl
    have hcz12_1 : w9.cell? ⟨gb260, 1, none⟩ = some (.string a0_1) := (zah BK260.out 1).trans rfl
    have hcz12_2 : w9.cell? ⟨gb260, 2, none⟩ = some (.slice A0_2 l0_2.length c0_2) := (zah BK260.out 2).trans rfl
    have hcz12_3 : w9.cell? ⟨gb260, 3, none⟩ = some (.string a0_3) := (zah BK260.out 3).trans rfl
    have hfz12_0 := zai BK260.out 0
    have hfz12_1 := zai BK260.out 1
    have hfz12_2 := zai BK260.out 2
    have hfz12_3 := zai BK260.out 3
    have hcz13_0 : w9.cell? ⟨gb261, 0, none⟩ = some (.int .i64 a1_0) := (zah BK261.out 0).trans rfl
    have hcz13_1 : w9.cell? ⟨gb261, 1, none⟩ = some (.slice A1_1 l1_1.length c1_1) := (zah BK261.out 1).trans rfl
    have hcz13_2 : w9.cell? ⟨gb261, 2, none⟩ = some (.string a1_2) := (zah BK261.out 2).trans rfl
    have hfz13_0 := zai BK261.out 0
    have hfz13_1 := zai BK261.out 1
    have hfz13_2 := zai BK261.out 2
    go_wp2
    go_meet
    case rel => exact ⟨_, (true), (by first | rfl | (simp; done) | (simp [*]; done)), H', ⟨by first | omega | exact Nat.le_refl _⟩, ⟨by (with_reducible repeat (first | refine zae ?_ _ | refine zag ?_ | refine zaf ?_ _)); exact BK260.out⟩, ⟨by (with_reducible repeat (first | refine zae ?_ _ | refine zag ?_ | refine zaf ?_ _)); exact BK261.out⟩, ⟨by repeat (first | (with_reducible first | exact HB.out | apply zac | apply zaa | apply zab | refine zad ?_ GE260.out | refine zad ?_ GE261.out) | exact HB.out)⟩⟩
   ·rw [if_neg c10] at H
    have c10b0 : decide (200 < (wrap64 ((l0_2.length : Int) + (l1_1.length : Int)))) = false := decide_eq_false c10
    clear c10
    (first | rw [c10b0] | (simp only [zbq, zbs]; rw [c10b0]) | skip)
    have H' := Aside0.mk H
    clear H
    have hnb14 := NB260_261.out
    have hnc14 := NB261_260.out
    have hcz15_0 : w9.cell? ⟨gb260, 0, none⟩ = some (.string a0_0) := (zah BK260.out 0).trans rfl
    have hcz15_1 : w9.cell? ⟨gb260, 1, none⟩ = some (.string a0_1) := (zah BK260.out 1).trans rfl
    have hcz15_2 : w9.cell? ⟨gb260, 2, none⟩ = some (.slice A0_2 l0_2.length c0_2) := (zah BK260.out 2).trans rfl
    have hcz15_3 : w9.cell? ⟨gb260, 3, none⟩ = some (.string a0_3) := (zah BK260.out 3).trans rfl
    have hfz15_0 := zai BK260.out 0
    have hfz15_1 := zai BK260.out 1
    have hfz15_2 := zai BK260.out 2
    have hfz15_3 := zai BK260.out 3
    have hcz16_0 : w9.cell? ⟨gb261, 0, none⟩ = some (.int .i64 a1_0) := (zah BK261.out 0).trans rfl
    have hcz16_1 : w9.cell? ⟨gb261, 1, none⟩ = some (.slice A1_1 l1_1.length c1_1) := (zah BK261.out 1).trans rfl
    have hcz16_2 : w9.cell? ⟨gb261, 2, none⟩ = some (.string a1_2) := (zah BK261.out 2).trans rfl
    have hfz16_0 := zai BK261.out 0
    have hfz16_1 := zai BK261.out 1
    have hfz16_2 := zai BK261.out 2
    go_wp2
    go_meet
    case rel => exact ⟨_, (decide ((a2.size : Int) > 20000)), (by first | rfl | (simp; done) | (simp [*]; done)), H', ⟨by first | omega | exact Nat.le_refl _⟩, ⟨by (with_reducible repeat (first | refine zae ?_ _ | refine zag ?_ | refine zaf ?_ _)); exact BK260.out⟩, ⟨by (with_reducible repeat (first | refine zae ?_ _ | refine zag ?_ | refine zaf ?_ _)); exact BK261.out⟩, ⟨by repeat (first | (with_reducible first | exact HB.out | apply zac | apply zaa | apply zab | refine zad ?_ GE260.out | refine zad ?_ GE261.out) | exact HB.out)⟩⟩
  case rest =>
   clear HC6
   try clear c1
   try clear p2
   try clear c4
   try clear c5
   try clear p6
   try clear c10
   try clear c10b0
   try clear c11
   try clear c14
   try clear hcz12_0
   try clear hcz12_1
   try clear hcz12_2
   try clear hcz12_3
   try clear hcz13_0
   try clear hcz13_1
   try clear hcz13_2
   try clear hcz15_0
   try clear hcz15_1
   try clear hcz15_2
   try clear hcz15_3
   try clear hcz16_0
   try clear hcz16_1
   try clear hcz16_2
   try clear hfz12_0
   try clear hfz12_1
   try clear hfz12_2
   try clear hfz12_3
   try clear hfz13_0
   try clear hfz13_1
   try clear hfz13_2
   try clear hfz15_0
   try clear hfz15_1
   try clear hfz15_2
   try clear hfz15_3
   try clear hfz16_0
   try clear hfz16_1
   try clear hfz16_2
   obtain ⟨kq, x33_5, rfl, HA, HJ5, BK260, BK261, HB⟩ := hcut
   cases kq with
   | zero => exact absurd HA.out (by simp [zaj.j0])
   | succ kj5 =>
    have H := HA.out
    clear HA
    simp only [zaj.j0] at H
    by_cases c17 : x33_5 = true
    ·subst c17
     have H1 : (some true) = some r := by rw [if_pos rfl] at H; exact H
     clear H
     have H := H1
     clear H1
     obtain rfl := Option.some.inj H
     go_wp2
     go_ret
     exact ⟨by first | rfl | (simp [zaq, zap] <;> rfl) | (simp [*, zaq, zap] <;> rfl), by repeat (first | (with_reducible first | exact HB.out | apply zac | apply zaa | apply zab | refine zad ?_ GE260.out | refine zad ?_ GE261.out) | exact HB.out)⟩
    ·replace c17 := Bool.eq_false_iff.mpr c17
     subst c17
     have H1 : ((zcs.f kj5 a0_0 a0_1 l0_2 a0_3).bind fun bt263 => ((zcq.f kj5 a0_0 a0_1).bind fun t265 => (if t265 = true then (if a0_0.size + 1 ≤ 9223372036854775807 then (if (a0_0 ++ (⟨#[32]⟩ : ByteArray)).size + a0_1.size ≤ 9223372036854775807 then (if ((a0_0 ++ (⟨#[32]⟩ : ByteArray)) ++ a0_1).size + 9 ≤ 9223372036854775807 then ((zal.f kj5 (((a0_0 ++ (⟨#[32]⟩ : ByteArray)) ++ a0_1) ++ (⟨#[32, 72, 84, 84, 80, 47, 49, 46, 49]⟩ : ByteArray)) l0_2 a0_3).bind fun bt266 => (zaj.j1 kj5 a2 bt263.1 bt263.2 bt266.1 bt266.2 a0_0 a0_1 l0_2 a0_3 a1_0 l1_1 a1_2)) else (none)) else (none)) else (none)) else (zaj.j1 kj5 a2 bt263.1 bt263.2 (⟨#[]⟩ : ByteArray) 80 a0_0 a0_1 l0_2 a0_3 a1_0 l1_1 a1_2)))) = some r := by rw [if_neg (show ¬ (false = true) by decide)] at H; exact H
     clear H
     have H := H1
     clear H1
     replace H := Option.bind_eq_some_iff.mp H
     obtain ⟨⟨t263, t264⟩, A180, H⟩ := H
     replace H : ((zcq.f kj5 a0_0 a0_1).bind fun t265 => (if t265 = true then (if a0_0.size + 1 ≤ 9223372036854775807 then (if (a0_0 ++ (⟨#[32]⟩ : ByteArray)).size + a0_1.size ≤ 9223372036854775807 then (if ((a0_0 ++ (⟨#[32]⟩ : ByteArray)) ++ a0_1).size + 9 ≤ 9223372036854775807 then ((zal.f kj5 (((a0_0 ++ (⟨#[32]⟩ : ByteArray)) ++ a0_1) ++ (⟨#[32, 72, 84, 84, 80, 47, 49, 46, 49]⟩ : ByteArray)) l0_2 a0_3).bind fun bt266 => (zaj.j1 kj5 a2 t263 t264 bt266.1 bt266.2 a0_0 a0_1 l0_2 a0_3 a1_0 l1_1 a1_2)) else (none)) else (none)) else (none)) else (zaj.j1 kj5 a2 t263 t264 (⟨#[]⟩ : ByteArray) 80 a0_0 a0_1 l0_2 a0_3 a1_0 l1_1 a1_2))) = some r := H
     have A18 := Aside0.mk A180
     clear A180
     replace H := Option.bind_eq_some_iff.mp H
     obtain ⟨t265, A190, H⟩ := H
     try dsimp only at H
     have A19 := Aside0.mk A190
     clear A190
     have HC20 := Aside0.mk H
     clear H
     have hnb21 := NB260_261.out
     have hnc21 := NB261_260.out
     have hcz22_0 : wc.cell? ⟨gb260, 0, none⟩ = some (.string a0_0) := (zah BK260.out 0).trans rfl
     have hcz22_1 : wc.cell? ⟨gb260, 1, none⟩ = some (.string a0_1) := (zah BK260.out 1).trans rfl
     have hcz22_2 : wc.cell? ⟨gb260, 2, none⟩ = some (.slice A0_2 l0_2.length c0_2) := (zah BK260.out 2).trans rfl
     have hcz22_3 : wc.cell? ⟨gb260, 3, none⟩ = some (.string a0_3) := (zah BK260.out 3).trans rfl
     have hfz22_0 := zai BK260.out 0
     have hfz22_1 := zai BK260.out 1
     have hfz22_2 := zai BK260.out 2
     have hfz22_3 := zai BK260.out 3
     go_upto_if 43 with (first | ((with_reducible refine zar (f := 11) rfl ?_); refine zbr (some 36) rfl rfl Tryz.func11 (by kernel_rfl) rfl #[.agg #[.string a0_0, .string a0_1, .slice A0_2 l0_2.length c0_2, .string a0_3]] rfl (by (try simp only [List.map_toArray, List.map_cons, List.map_nil]); first | done | rfl | (simp only [List.length_drop, List.length_take]; rfl)) ?_; (with_reducible refine (zcs.calls kj5 a0_0 a0_1 _ _ l0_2 a0_3 t263 t264 _ ?side1 ?side2 ?side3 A18.out).mono ?_); (case side1 => repeat (first | exact (Kd.zdf HR0_2.out HB.out) | (with_reducible refine Kd.zde ?_ _) | (with_reducible refine Kd.zdd ?_ _) | (with_reducible refine Kd.zdp ?_))); (case side2 => exact HC0_2.out); (case side3 => exact LaidM.below HT.out (by repeat (first | (with_reducible first | exact HB.out | apply zac | apply zaa | apply zab | refine zad ?_ GE260.out | refine zad ?_ GE261.out) | exact HB.out))); rintro e w23 ⟨rfl, hb⟩; refine ⟨_, rfl, ?_⟩; have n0_ := Aside0.mk (zao (g := gb260) (o := .cells #[.string a0_0, .string a0_1, .slice A0_2 l0_2.length c0_2, .string a0_3] 25 (0, 0)) (by (with_reducible repeat (first | refine zae ?_ _ | refine zag ?_ | refine zaf ?_ _)); exact BK260.out) hb); have n1_ := Aside0.mk (zao (g := gb261) (o := .cells #[.int .i64 a1_0, .slice A1_1 l1_1.length c1_1, .string a1_2] 33 (0, 0)) (by (with_reducible repeat (first | refine zae ?_ _ | refine zag ?_ | refine zaf ?_ _)); exact BK261.out) hb); have n2_ := Aside0.mk (zam (by repeat (first | (with_reducible first | exact HB.out | apply zac | apply zaa | apply zab | refine zad ?_ GE260.out | refine zad ?_ GE261.out) | exact HB.out)) hb); clear BK260; clear BK261; clear HB; have BK260 := n0_; have BK261 := n1_; have HB := n2_; clear n0_ n1_ n2_; (try clear hb); (try clear hb2); (try clear hk); (try clear hi); have hcz24_0 : w23.cell? ⟨gb260, 0, none⟩ = some (.string a0_0) := (zah BK260.out 0).trans rfl; have hcz24_1 : w23.cell? ⟨gb260, 1, none⟩ = some (.string a0_1) := (zah BK260.out 1).trans rfl; have hcz24_2 : w23.cell? ⟨gb260, 2, none⟩ = some (.slice A0_2 l0_2.length c0_2) := (zah BK260.out 2).trans rfl; have hcz24_3 : w23.cell? ⟨gb260, 3, none⟩ = some (.string a0_3) := (zah BK260.out 3).trans rfl; have hfz24_0 := zai BK260.out 0; have hfz24_1 := zai BK260.out 1; have hfz24_2 := zai BK260.out 2; have hfz24_3 := zai BK260.out 3) | ((with_reducible refine zar (f := 12) rfl ?_); refine zbr (some 43) rfl rfl Tryz.func12 (by kernel_rfl) rfl #[.string a0_0, .string a0_1] rfl (by (try simp only [List.map_toArray, List.map_cons, List.map_nil]); first | done | rfl | (simp only [List.length_drop, List.length_take]; rfl)) ?_; (with_reducible refine (zcq.calls kj5 a0_0 a0_1 t265 _ A19.out).mono ?_); rintro e w' ⟨rfl, ⟨nd, rfl⟩⟩; refine ⟨_, rfl, ?_⟩))
     (try simp only [Act.put, List.setIfInBounds_toArray, List.set_cons_zero, List.set_cons_succ])
     go_cut [9, 10] (fun v9 v10 wc => ∃ (kq : Nat) (x9_19 : ByteArray) (x10_19 : Int), v9 = .string x9_19 ∧ v10 = .int .i64 x10_19 ∧ Aside0 (zaj.j1 kq a2 t263 t264 x9_19 x10_19 a0_0 a0_1 l0_2 a0_3 a1_0 l1_1 a1_2 = some r) ∧ Aside0 (kq ≤ kj5) ∧ Aside0 (wc.heap[gb260]? = some (.cells #[.string a0_0, .string a0_1, (.slice A0_2 l0_2.length c0_2), .string a0_3] 25 (0, 0))) ∧ Aside0 (wc.heap[gb261]? = some (.cells #[.int .i64 a1_0, (.slice A1_1 l1_1.length c1_1), .string a1_2] 33 (0, 0))) ∧ Aside0 (Below w.heap.size w wc))
     case first => as_aux_lemma =>
      have H := HC20.out
      clear HC20
      by_cases c25 : t265 = true
      ·subst c25
       have H1 : (if a0_0.size + 1 ≤ 9223372036854775807 then (if (a0_0 ++ (⟨#[32]⟩ : ByteArray)).size + a0_1.size ≤ 9223372036854775807 then (if ((a0_0 ++ (⟨#[32]⟩ : ByteArray)) ++ a0_1).size + 9 ≤ 9223372036854775807 then ((zal.f kj5 (((a0_0 ++ (⟨#[32]⟩ : ByteArray)) ++ a0_1) ++ (⟨#[32, 72, 84, 84, 80, 47, 49, 46, 49]⟩ : ByteArray)) l0_2 a0_3).bind fun bt266 => (zaj.j1 kj5 a2 t263 t264 bt266.1 bt266.2 a0_0 a0_1 l0_2 a0_3 a1_0 l1_1 a1_2)) else (none)) else (none)) else (none)) = some r := by rw [if_pos rfl] at H; exact H
       clear H
       have H := H1
       clear H1
       by_cases c26 : a0_0.size + 1 ≤ 9223372036854775807
       ·rw [if_pos c26] at H
        have c26b0 := eq_true c26
        have c26b1 := decide_eq_true c26
        try have c26b2 := eq_false (Nat.not_lt.2 c26)
        by_cases c27 : (a0_0 ++ (⟨#[32]⟩ : ByteArray)).size + a0_1.size ≤ 9223372036854775807
        ·rw [if_pos c27] at H
         have c27e := c27
         (try simp only [ByteArray.size_append, gt_iff_lt, ge_iff_le, show (⟨#[32]⟩ : ByteArray).size = 1 from rfl] at c27e)
         (try simp only [Int.natCast_add, Int.cast_ofNat_Int] at c27e)
         (try (have c27e2 := decide_eq_true c27e))
         (try replace c27e := eq_true c27e)
         have c27b0 := eq_true c27
         have c27b1 := decide_eq_true c27
         try have c27b2 := eq_false (Nat.not_lt.2 c27)
         have c27b8 : (9223372036854775807 < a0_0.size + 1 + a0_1.size) = False := by have h_ := c27; simp only [ByteArray.size_append] at h_; exact eq_false (Nat.not_lt.2 h_)
         by_cases c28 : ((a0_0 ++ (⟨#[32]⟩ : ByteArray)) ++ a0_1).size + 9 ≤ 9223372036854775807
         ·rw [if_pos c28] at H
          have c28e := c28
          (try simp only [ByteArray.size_append, gt_iff_lt, ge_iff_le, show (⟨#[32]⟩ : ByteArray).size = 1 from rfl] at c28e)
          (try simp only [Int.natCast_add, Int.cast_ofNat_Int] at c28e)
          (try (have c28e2 := decide_eq_true c28e))
          (try replace c28e := eq_true c28e)
          have c28b0 := eq_true c28
          have c28b1 := decide_eq_true c28
          try have c28b2 := eq_false (Nat.not_lt.2 c28)
          have c28b8 : (9223372036854775807 < a0_0.size + 1 + a0_1.size + 9) = False := by have h_ := c28; simp only [ByteArray.size_append] at h_; exact eq_false (Nat.not_lt.2 h_)
          replace H := Option.bind_eq_some_iff.mp H
          obtain ⟨⟨t266, t267⟩, A290, H⟩ := H
          replace H : (zaj.j1 kj5 a2 t263 t264 t266 t267 a0_0 a0_1 l0_2 a0_3 a1_0 l1_1 a1_2) = some r := H
          have A29 := Aside0.mk A290
          clear A290
          have H' := Aside0.mk H
          clear H
          have hnb30 := NB260_261.out
          have hnc30 := NB261_260.out
          have hcz31_0 : w23.cell? ⟨gb260, 0, none⟩ = some (.string a0_0) := (zah BK260.out 0).trans rfl
          have hcz31_1 : w23.cell? ⟨gb260, 1, none⟩ = some (.string a0_1) := (zah BK260.out 1).trans rfl
          have hcz31_2 : w23.cell? ⟨gb260, 2, none⟩ = some (.slice A0_2 l0_2.length c0_2) := (zah BK260.out 2).trans rfl
          have hcz31_3 : w23.cell? ⟨gb260, 3, none⟩ = some (.string a0_3) := (zah BK260.out 3).trans rfl
          have hfz31_0 := zai BK260.out 0
          have hfz31_1 := zai BK260.out 1
          have hfz31_2 := zai BK260.out 2
          have hfz31_3 := zai BK260.out 3
          go_wp2_with (first | ((with_reducible refine zar (f := 13) rfl ?_); refine zbr (some 56) rfl rfl Tryz.func13 (by kernel_rfl) rfl #[.string (((a0_0 ++ (⟨#[32]⟩ : ByteArray)) ++ a0_1) ++ (⟨#[32, 72, 84, 84, 80, 47, 49, 46, 49]⟩ : ByteArray)), .slice A0_2 l0_2.length c0_2, .string a0_3] rfl (by (try simp only [List.map_toArray, List.map_cons, List.map_nil]); first | done | rfl | (simp only [List.length_drop, List.length_take]; rfl)) ?_; (with_reducible refine (zal.calls kj5 (((a0_0 ++ (⟨#[32]⟩ : ByteArray)) ++ a0_1) ++ (⟨#[32, 72, 84, 84, 80, 47, 49, 46, 49]⟩ : ByteArray)) _ _ l0_2 a0_3 t266 t267 _ ?side1 ?side2 ?side3 A29.out).mono ?_); (case side1 => repeat (first | exact (Kd.zdf HR0_2.out HB.out) | (with_reducible refine Kd.zde ?_ _) | (with_reducible refine Kd.zdd ?_ _) | (with_reducible refine Kd.zdp ?_))); (case side2 => exact HC0_2.out); (case side3 => exact LaidM.below HT.out (by repeat (first | (with_reducible first | exact HB.out | apply zac | apply zaa | apply zab | refine zad ?_ GE260.out | refine zad ?_ GE261.out) | exact HB.out))); rintro e w32 ⟨rfl, hb⟩; refine ⟨_, rfl, ?_⟩; have n0_ := Aside0.mk (zao (g := gb260) (o := .cells #[.string a0_0, .string a0_1, .slice A0_2 l0_2.length c0_2, .string a0_3] 25 (0, 0)) (by (with_reducible repeat (first | refine zae ?_ _ | refine zag ?_ | refine zaf ?_ _)); exact BK260.out) hb); have n1_ := Aside0.mk (zao (g := gb261) (o := .cells #[.int .i64 a1_0, .slice A1_1 l1_1.length c1_1, .string a1_2] 33 (0, 0)) (by (with_reducible repeat (first | refine zae ?_ _ | refine zag ?_ | refine zaf ?_ _)); exact BK261.out) hb); have n2_ := Aside0.mk (zam (by repeat (first | (with_reducible first | exact HB.out | apply zac | apply zaa | apply zab | refine zad ?_ GE260.out | refine zad ?_ GE261.out) | exact HB.out)) hb); clear BK260; clear BK261; clear HB; have BK260 := n0_; have BK261 := n1_; have HB := n2_; clear n0_ n1_ n2_; (try clear hb); (try clear hb2); (try clear hk); (try clear hi)))
          go_meet
          case rel => exact ⟨_, (t266), (t267), (by first | rfl | (simp; done) | (simp [*]; done)), (by first | rfl | (simp; done) | (simp [*]; done)), H', ⟨by have := HJ5.out; first | omega | exact Nat.le_refl _⟩, ⟨by (with_reducible repeat (first | refine zae ?_ _ | refine zag ?_ | refine zaf ?_ _)); exact BK260.out⟩, ⟨by (with_reducible repeat (first | refine zae ?_ _ | refine zag ?_ | refine zaf ?_ _)); exact BK261.out⟩, ⟨by repeat (first | (with_reducible first | exact HB.out | apply zac | apply zaa | apply zab | refine zad ?_ GE260.out | refine zad ?_ GE261.out) | exact HB.out)⟩⟩
         ·rw [if_neg c28] at H
          have c28e := c28
          (try simp only [ByteArray.size_append, gt_iff_lt, ge_iff_le, show (⟨#[32]⟩ : ByteArray).size = 1 from rfl] at c28e)
          (try simp only [Int.natCast_add, Int.cast_ofNat_Int] at c28e)
          (try (have c28e2 := decide_eq_false c28e))
          (try replace c28e := eq_false c28e)
          exact absurd H (by simp)
        ·rw [if_neg c27] at H
         have c27e := c27
         (try simp only [ByteArray.size_append, gt_iff_lt, ge_iff_le, show (⟨#[32]⟩ : ByteArray).size = 1 from rfl] at c27e)
         (try simp only [Int.natCast_add, Int.cast_ofNat_Int] at c27e)
         (try (have c27e2 := decide_eq_false c27e))
         (try replace c27e := eq_false c27e)
         exact absurd H (by simp)
       ·rw [if_neg c26] at H
        exact absurd H (by simp)
      ·replace c25 := Bool.eq_false_iff.mpr c25
       subst c25
       have H1 : (zaj.j1 kj5 a2 t263 t264 (⟨#[]⟩ : ByteArray) 80 a0_0 a0_1 l0_2 a0_3 a1_0 l1_1 a1_2) = some r := by rw [if_neg (show ¬ (false = true) by decide)] at H; exact H
       clear H
       have H := H1
       clear H1
       have H' := Aside0.mk H
       clear H
       go_wp2
       go_meet
       case rel => exact ⟨_, ((⟨#[]⟩ : ByteArray)), (80), (by first | rfl | (simp; done) | (simp [*]; done)), (by first | rfl | (simp; done) | (simp [*]; done)), H', ⟨by have := HJ5.out; first | omega | exact Nat.le_refl _⟩, ⟨by (with_reducible repeat (first | refine zae ?_ _ | refine zag ?_ | refine zaf ?_ _)); exact BK260.out⟩, ⟨by (with_reducible repeat (first | refine zae ?_ _ | refine zag ?_ | refine zaf ?_ _)); exact BK261.out⟩, ⟨by repeat (first | (with_reducible first | exact HB.out | apply zac | apply zaa | apply zab | refine zad ?_ GE260.out | refine zad ?_ GE261.out) | exact HB.out)⟩⟩
     case rest =>
      clear HC20
      try clear c1
      try clear c2
      try clear p2
      try clear c3
      try clear c4
      try clear c5
      try clear p6
      try clear c10
      try clear c10b0
      try clear c11
      try clear c12
      try clear c13
      try clear c14
      try clear c17
      try clear c21
      try clear c25
      try clear c26
      try clear c26b0
      try clear c26b1
      try clear c26b2
      try clear c27
      try clear c27b0
      try clear c27b1
      try clear c27b2
      try clear c28
      try clear c28b0
      try clear c28b1
      try clear c28b2
      try clear c30
      try clear hcz12_0
      try clear hcz12_1
      try clear hcz12_2
      try clear hcz12_3
      try clear hcz13_0
      try clear hcz13_1
      try clear hcz13_2
      try clear hcz15_0
      try clear hcz15_1
      try clear hcz15_2
      try clear hcz15_3
      try clear hcz16_0
      try clear hcz16_1
      try clear hcz16_2
      try clear hcz22_0
      try clear hcz22_1
      try clear hcz22_2
      try clear hcz22_3
      try clear hcz24_0
      try clear hcz24_1
      try clear hcz24_2
      try clear hcz24_3
      try clear hcz31_0
      try clear hcz31_1
      try clear hcz31_2
      try clear hcz31_3
      try clear hfz12_0
      try clear hfz12_1
      try clear hfz12_2
      try clear hfz12_3
      try clear hfz13_0
      try clear hfz13_1
      try clear hfz13_2
      try clear hfz15_0
      try clear hfz15_1
      try clear hfz15_2
      try clear hfz15_3
      try clear hfz16_0
      try clear hfz16_1
      try clear hfz16_2
      try clear hfz22_0
      try clear hfz22_1
      try clear hfz22_2
      try clear hfz22_3
      try clear hfz24_0
      try clear hfz24_1
      try clear hfz24_2
      try clear hfz24_3
      try clear hfz31_0
      try clear hfz31_1
      try clear hfz31_2
      try clear hfz31_3
      try clear p2
      try clear p6
      obtain ⟨kq, x9_19, x10_19, rfl, rfl, HA, HJ19, BK260, BK261, HB⟩ := hcut
      cases kq with
      | zero => exact absurd HA.out (by simp [zaj.j1])
      | succ kj19 =>
       have H := HA.out
       clear HA
       simp only [zaj.j1] at H
       have HC33 := Aside0.mk H
       clear H
       go_upto_region 9 with (fail)
       go_cut [66] (fun v66 wc => ∃ (kq : Nat) (x66_32 : Bool), v66 = .bool x66_32 ∧ Aside0 (zaj.j2 kq a2 t263 x10_19 x66_32 a0_0 a0_1 l0_2 a0_3 a1_0 l1_1 a1_2 = some r) ∧ Aside0 (kq ≤ kj19) ∧ Aside0 (wc.heap[gb260]? = some (.cells #[.string a0_0, .string a0_1, (.slice A0_2 l0_2.length c0_2), .string a0_3] 25 (0, 0))) ∧ Aside0 (wc.heap[gb261]? = some (.cells #[.int .i64 a1_0, (.slice A1_1 l1_1.length c1_1), .string a1_2] 33 (0, 0))) ∧ Aside0 (Below w.heap.size w wc))
       case first => as_aux_lemma =>
        have H := HC33.out
        clear HC33
        by_cases c34 : t263.toList = x9_19.toList
        ·rw [if_pos c34] at H
         have c34b0 : (t263.toList == x9_19.toList) = true := beq_iff_eq.mpr c34
         have c34b1 : (t263.toList != x9_19.toList) = false := bne_eq_false_iff_eq.mpr c34
         clear c34
         (first | rw [c34b0] | rw [c34b1] | (simp only [zbq, zbs]; rw [c34b0]) | skip)
         have H' := Aside0.mk H
         clear H
         go_wp2
         go_meet
         case rel => exact ⟨_, ((t264 != x10_19)), (by first | rfl | (simp; done) | (simp [*]; done)), H', ⟨by have := HJ5.out; have := HJ19.out; first | omega | exact Nat.le_refl _⟩, ⟨by (with_reducible repeat (first | refine zae ?_ _ | refine zag ?_ | refine zaf ?_ _)); exact BK260.out⟩, ⟨by (with_reducible repeat (first | refine zae ?_ _ | refine zag ?_ | refine zaf ?_ _)); exact BK261.out⟩, ⟨by repeat (first | (with_reducible first | exact HB.out | apply zac | apply zaa | apply zab | refine zad ?_ GE260.out | refine zad ?_ GE261.out) | exact HB.out)⟩⟩
        ·rw [if_neg c34] at H
         have c34b0 : (t263.toList == x9_19.toList) = false := beq_eq_false_iff_ne.mpr c34
         have c34b1 : (t263.toList != x9_19.toList) = true := bne_iff_ne.mpr c34
         (first | rw [c34b0] | rw [c34b1] | rw [c34b1] | (simp only [zbq, zbs]; rw [c34b0]) | skip)
         have H' := Aside0.mk H
         clear H
         go_wp2
         go_meet
         case rel => exact ⟨_, (true), (by first | rfl | (simp; done) | (simp [*]; done)), H', ⟨by have := HJ5.out; have := HJ19.out; first | omega | exact Nat.le_refl _⟩, ⟨by (with_reducible repeat (first | refine zae ?_ _ | refine zag ?_ | refine zaf ?_ _)); exact BK260.out⟩, ⟨by (with_reducible repeat (first | refine zae ?_ _ | refine zag ?_ | refine zaf ?_ _)); exact BK261.out⟩, ⟨by repeat (first | (with_reducible first | exact HB.out | apply zac | apply zaa | apply zab | refine zad ?_ GE260.out | refine zad ?_ GE261.out) | exact HB.out)⟩⟩
       case rest =>
        clear HC33
        try clear c1
        try clear c2
        try clear p2
        try clear c3
        try clear c4
        try clear c5
        try clear p6
        try clear c10
        try clear c10b0
        try clear c11
        try clear c12
        try clear c13
        try clear c14
        try clear c17
        try clear c21
        try clear c25
        try clear c26
        try clear c26b0
        try clear c26b1
        try clear c26b2
        try clear c27
        try clear c27b0
        try clear c27b1
        try clear c27b2
        try clear c28
        try clear c28b0
        try clear c28b1
        try clear c28b2
        try clear c30
        try clear c34
        try clear c34b0
        try clear c34b1
        try clear hcz12_0
        try clear hcz12_1
        try clear hcz12_2
        try clear hcz12_3
        try clear hcz13_0
        try clear hcz13_1
        try clear hcz13_2
        try clear hcz15_0
        try clear hcz15_1
        try clear hcz15_2
        try clear hcz15_3
        try clear hcz16_0
        try clear hcz16_1
        try clear hcz16_2
        try clear hcz22_0
        try clear hcz22_1
        try clear hcz22_2
        try clear hcz22_3
        try clear hcz24_0
        try clear hcz24_1
        try clear hcz24_2
        try clear hcz24_3
        try clear hcz31_0
        try clear hcz31_1
        try clear hcz31_2
        try clear hcz31_3
        try clear hfz12_0
        try clear hfz12_1
        try clear hfz12_2
        try clear hfz12_3
        try clear hfz13_0
        try clear hfz13_1
        try clear hfz13_2
        try clear hfz15_0
        try clear hfz15_1
        try clear hfz15_2
        try clear hfz15_3
        try clear hfz16_0
        try clear hfz16_1
        try clear hfz16_2
        try clear hfz22_0
        try clear hfz22_1
        try clear hfz22_2
        try clear hfz22_3
        try clear hfz24_0
        try clear hfz24_1
        try clear hfz24_2
        try clear hfz24_3
        try clear hfz31_0
        try clear hfz31_1
        try clear hfz31_2
        try clear hfz31_3
        try clear p2
        try clear p6
        obtain ⟨kq, x66_32, rfl, HA, HJ32, BK260, BK261, HB⟩ := hcut
        cases kq with
        | zero => exact absurd HA.out (by simp [zaj.j2])
        | succ kj32 =>
         have H := HA.out
         clear HA
         simp only [zaj.j2] at H
         by_cases c35 : x66_32 = true
         ·subst c35
          have H1 : (some false) = some r := by rw [if_pos rfl] at H; exact H
          clear H
          have H := H1
          clear H1
          obtain rfl := Option.some.inj H
          go_wp2
          go_ret
          exact ⟨by first | rfl | (simp [zaq, zap] <;> rfl) | (simp [*, zaq, zap] <;> rfl), by repeat (first | (with_reducible first | exact HB.out | apply zac | apply zaa | apply zab | refine zad ?_ GE260.out | refine zad ?_ GE261.out) | exact HB.out)⟩
         ·replace c35 := Bool.eq_false_iff.mpr c35
          subst c35
          have H1 : (if x10_19 = 0 then (if t263.size + a2.size ≤ 9223372036854775807 then ((zat.f kj32 (t263 ++ a2)).bind fun bt268 => (if bt268.2.2.2.2.2 = 0 then (if bt268.2.2.2.2.1 = (t263.size : Int) then (if bt268.1.toList = a0_0.toList then (if bt268.2.1.toList = a0_1.toList then (if bt268.2.2.2.1.toList = a0_3.toList then ((zbo.f kj32 bt268.2.2.1 l0_2).bind fun t277 => (if t277 = true then (zaj.j3 kj32 a2 a1_0 l1_1 a1_2) else (some false))) else (some false)) else (some false)) else (some false)) else (some false)) else (some false))) else (none)) else (zaj.j3 kj32 a2 a1_0 l1_1 a1_2)) = some r := by rw [if_neg (show ¬ (false = true) by decide)] at H; exact H
          clear H
          have H := H1
          clear H1
          have HC36 := Aside0.mk H
          clear H
          go_upto_if 68 with (fail)
          go_cut [] (fun wc => ∃ (kq : Nat), Aside0 (zaj.j3 kq a2 a1_0 l1_1 a1_2 = some r) ∧ Aside0 (kq ≤ kj32) ∧ Aside0 (wc.heap[gb260]? = some (.cells #[.string a0_0, .string a0_1, (.slice A0_2 l0_2.length c0_2), .string a0_3] 25 (0, 0))) ∧ Aside0 (wc.heap[gb261]? = some (.cells #[.int .i64 a1_0, (.slice A1_1 l1_1.length c1_1), .string a1_2] 33 (0, 0))) ∧ Aside0 (Below w.heap.size w wc))
          case first => as_aux_lemma =>
           have H := HC36.out
           clear HC36
           by_cases c37 : x10_19 = 0
           ·rw [if_pos c37] at H
            have c37b0 : (x10_19 == 0) = true := beq_iff_eq.mpr c37
            have c37b1 : (x10_19 != 0) = false := bne_eq_false_iff_eq.mpr c37
            clear c37
            (first | rw [c37b0] | rw [c37b1] | (simp only [zbq, zbs]; rw [c37b0]) | skip)
            by_cases c38 : t263.size + a2.size ≤ 9223372036854775807
            ·rw [if_pos c38] at H
             have c38b0 := eq_true c38
             have c38b1 := decide_eq_true c38
             try have c38b2 := eq_false (Nat.not_lt.2 c38)
             replace H := Option.bind_eq_some_iff.mp H
             obtain ⟨⟨t268, t269, t270, t273, t274, t275⟩, A390, H⟩ := H
             try dsimp only at H
             have A39 := Aside0.mk A390
             clear A390
             by_cases c40 : t275 = 0
             ·rw [if_pos c40] at H
              have c40b0 : (t275 == 0) = true := beq_iff_eq.mpr c40
              have c40b1 : (t275 != 0) = false := bne_eq_false_iff_eq.mpr c40
              clear c40
              by_cases c41 : t274 = (t263.size : Int)
              ·rw [if_pos c41] at H
               have c41b0 : (t274 == (t263.size : Int)) = true := beq_iff_eq.mpr c41
               have c41b1 : (t274 != (t263.size : Int)) = false := bne_eq_false_iff_eq.mpr c41
               clear c41
               by_cases c42 : t268.toList = a0_0.toList
               ·rw [if_pos c42] at H
                have c42b0 : (t268.toList == a0_0.toList) = true := beq_iff_eq.mpr c42
                have c42b1 : (t268.toList != a0_0.toList) = false := bne_eq_false_iff_eq.mpr c42
                clear c42
                by_cases c43 : t269.toList = a0_1.toList
                ·rw [if_pos c43] at H
                 have c43b0 : (t269.toList == a0_1.toList) = true := beq_iff_eq.mpr c43
                 have c43b1 : (t269.toList != a0_1.toList) = false := bne_eq_false_iff_eq.mpr c43
                 clear c43
                 by_cases c44 : t273.toList = a0_3.toList
                 ·rw [if_pos c44] at H
                  have c44b0 : (t273.toList == a0_3.toList) = true := beq_iff_eq.mpr c44
                  have c44b1 : (t273.toList != a0_3.toList) = false := bne_eq_false_iff_eq.mpr c44
                  clear c44
                  replace H := Option.bind_eq_some_iff.mp H
                  obtain ⟨t277, A450, H⟩ := H
                  replace H : (if t277 = true then (zaj.j3 kj32 a2 a1_0 l1_1 a1_2) else (some false)) = some r := H
                  have A45 := Aside0.mk A450
                  clear A450
                  by_cases c46 : t277 = true
                  ·subst c46
                   have H1 : (zaj.j3 kj32 a2 a1_0 l1_1 a1_2) = some r := by rw [if_pos rfl] at H; exact H
                   clear H
                   have H := H1
                   clear H1
                   have H' := Aside0.mk H
                   clear H
                   go_wp2_with (first | ((with_reducible refine zar (f := 6) rfl ?_); refine zbr (some 73) rfl rfl Tryz.func6 (by kernel_rfl) rfl #[.string (t263 ++ a2)] rfl (by (try simp only [List.map_toArray, List.map_cons, List.map_nil]); first | done | rfl | (simp only [List.length_drop, List.length_take]; rfl)) ?_; (with_reducible refine (zat.calls kj32 (t263 ++ a2) t268 t269 t270 t273 t274 t275 _ ?side1 A39.out).mono ?_); (case side1 => exact LaidM.below HT.out (by repeat (first | (with_reducible first | exact HB.out | apply zac | apply zaa | apply zab | refine zad ?_ GE260.out | refine zad ?_ GE261.out) | exact HB.out))); rintro e w47 ⟨v271, rfl, ho0, hb⟩; refine ⟨_, rfl, ?_⟩; have n0_ := Aside0.mk (Kd.zby ho0 (zan (by repeat (first | (with_reducible first | exact HB.out | apply zac | apply zaa | apply zab | refine zad ?_ GE260.out | refine zad ?_ GE261.out) | exact HB.out)))); have n1_ := Aside0.mk (zao (g := gb260) (o := .cells #[.string a0_0, .string a0_1, .slice A0_2 l0_2.length c0_2, .string a0_3] 25 (0, 0)) (by (with_reducible repeat (first | refine zae ?_ _ | refine zag ?_ | refine zaf ?_ _)); exact BK260.out) hb); have n2_ := Aside0.mk (zao (g := gb261) (o := .cells #[.int .i64 a1_0, .slice A1_1 l1_1.length c1_1, .string a1_2] 33 (0, 0)) (by (with_reducible repeat (first | refine zae ?_ _ | refine zag ?_ | refine zaf ?_ _)); exact BK261.out) hb); have n3_ := Aside0.mk (zam (by repeat (first | (with_reducible first | exact HB.out | apply zac | apply zaa | apply zab | refine zad ?_ GE260.out | refine zad ?_ GE261.out) | exact HB.out)) hb); clear BK260; clear BK261; clear HB; have HO272 := n0_; have BK260 := n1_; have BK261 := n2_; have HB := n3_; clear n0_ n1_ n2_ n3_; (try clear hb); (try clear hb2); (try clear hk); (try clear hi); (try clear ho0)) | ((with_reducible refine zbj (N := 11) rfl ?_); (try (refine zbi (by rfl) ?_; dsimp only)); refine zbf ?hg (N := 11) ?hd (cs := #[.string ⟨#[]⟩, .string ⟨#[]⟩, .slice none 0 0, .string ⟨#[]⟩]) (t := 25) ?hr ?_; (case hd => rfl); (case hg => rfl); (case hr => first | (go_simp; done) | (go_simp; rfl)); intro gb276 hg w48 hbox hb; have n0_ := Aside0.mk (Kd.zbl (by (with_reducible repeat (first | apply Kd.zbc | apply Kd.zbb | apply Kd.zbg)); exact HO272.out) hb); have n1_ := Aside0.mk (zao (g := gb260) (o := .cells #[.string a0_0, .string a0_1, .slice A0_2 l0_2.length c0_2, .string a0_3] 25 (0, 0)) (by (with_reducible repeat (first | refine zae ?_ _ | refine zag ?_ | refine zaf ?_ _)); exact BK260.out) hb); have n2_ := Aside0.mk (zao (g := gb261) (o := .cells #[.int .i64 a1_0, .slice A1_1 l1_1.length c1_1, .string a1_2] 33 (0, 0)) (by (with_reducible repeat (first | refine zae ?_ _ | refine zag ?_ | refine zaf ?_ _)); exact BK261.out) hb); have n3_ := Aside0.mk (zam (by repeat (first | (with_reducible first | exact HB.out | apply zac | apply zaa | apply zab | refine zad ?_ GE260.out | refine zad ?_ GE261.out) | exact HB.out)) hb); have n4_ := Aside0.mk (hbox); have n5_ := Aside0.mk ((by rw [hg]; exact (zan (by repeat (first | (with_reducible first | exact HB.out | apply zac | apply zaa | apply zab | refine zad ?_ GE260.out | refine zad ?_ GE261.out) | exact HB.out))) : w.heap.size ≤ gb276)); have n6_ := Aside0.mk ((by rw [hg]; exact (zan (by repeat (first | (with_reducible first | exact HB.out | apply zac | apply zaa | apply zab | refine zad ?_ GE260.out | refine zad ?_ GE261.out) | exact HB.out))) : w.heap.size ≤ gb276)); have n7_ := Aside0.mk ((by rw [hg]; exact Nat.ne_of_lt (zbv (g := gb260) (o := .cells #[.string a0_0, .string a0_1, .slice A0_2 l0_2.length c0_2, .string a0_3] 25 (0, 0)) (by (with_reducible repeat (first | refine zae ?_ _ | refine zag ?_ | refine zaf ?_ _)); exact BK260.out)) : gb260 ≠ gb276)); have n8_ := Aside0.mk ((by rw [hg]; exact Nat.ne_of_gt (zbv (g := gb260) (o := .cells #[.string a0_0, .string a0_1, .slice A0_2 l0_2.length c0_2, .string a0_3] 25 (0, 0)) (by (with_reducible repeat (first | refine zae ?_ _ | refine zag ?_ | refine zaf ?_ _)); exact BK260.out)) : gb276 ≠ gb260)); have n9_ := Aside0.mk ((by rw [hg]; exact Nat.ne_of_lt (zbv (g := gb261) (o := .cells #[.int .i64 a1_0, .slice A1_1 l1_1.length c1_1, .string a1_2] 33 (0, 0)) (by (with_reducible repeat (first | refine zae ?_ _ | refine zag ?_ | refine zaf ?_ _)); exact BK261.out)) : gb261 ≠ gb276)); have n10_ := Aside0.mk ((by rw [hg]; exact Nat.ne_of_gt (zbv (g := gb261) (o := .cells #[.int .i64 a1_0, .slice A1_1 l1_1.length c1_1, .string a1_2] 33 (0, 0)) (by (with_reducible repeat (first | refine zae ?_ _ | refine zag ?_ | refine zaf ?_ _)); exact BK261.out)) : gb276 ≠ gb261)); clear HO272; clear BK260; clear BK261; clear HB; have HO272 := n0_; have BK260 := n1_; have BK261 := n2_; have HB := n3_; have BK276 := n4_; have GW276 := n5_; have GE276 := n6_; have NB260_276 := n7_; have NB276_260 := n8_; have NB261_276 := n9_; have NB276_261 := n10_; clear n0_ n1_ n2_ n3_ n4_ n5_ n6_ n7_ n8_ n9_ n10_; clear hb hbox hg; have hnb49 := NB276_260.out; have hnc49 := NB260_276.out; have hnb50 := NB276_261.out; have hnc50 := NB261_276.out; have hcz51_0 : w48.cell? ⟨gb276, 0, none⟩ = some (.string ⟨#[]⟩) := (zah BK276.out 0).trans rfl; have hcz51_1 : w48.cell? ⟨gb276, 1, none⟩ = some (.string ⟨#[]⟩) := (zah BK276.out 1).trans rfl; have hcz51_2 : w48.cell? ⟨gb276, 2, none⟩ = some (.slice none 0 0) := (zah BK276.out 2).trans rfl; have hcz51_3 : w48.cell? ⟨gb276, 3, none⟩ = some (.string ⟨#[]⟩) := (zah BK276.out 3).trans rfl; have hfz51_0 := zai BK276.out 0; have hfz51_1 := zai BK276.out 1; have hfz51_2 := zai BK276.out 2; have hfz51_3 := zai BK276.out 3; obtain ⟨Ao52, co52, eo52⟩ := Kd.zca HO272.out; subst eo52; have hnb53 := NB260_261.out; have hnc53 := NB261_260.out; have hcz54_0 : w48.cell? ⟨gb260, 0, none⟩ = some (.string a0_0) := (zah BK260.out 0).trans rfl; have hcz54_1 : w48.cell? ⟨gb260, 1, none⟩ = some (.string a0_1) := (zah BK260.out 1).trans rfl; have hcz54_2 : w48.cell? ⟨gb260, 2, none⟩ = some (.slice A0_2 l0_2.length c0_2) := (zah BK260.out 2).trans rfl; have hcz54_3 : w48.cell? ⟨gb260, 3, none⟩ = some (.string a0_3) := (zah BK260.out 3).trans rfl; have hfz54_0 := zai BK260.out 0; have hfz54_1 := zai BK260.out 1; have hfz54_2 := zai BK260.out 2; have hfz54_3 := zai BK260.out 3) | (go_at_call 8; (with_reducible refine (zbo.calls kj32 _ _ t270 _ _ l0_2 true _ ?side1 ?side2 ?side3 ?side4 A45.out).mono ?_); (case side1 => refine (Kd.zbu (e := 62) (base := w.heap.size) (ok := fun k_ => True) (n := t270.length) (c := co52) ?_).2.2; exact (by (with_reducible repeat (first | apply Kd.zbc | apply Kd.zbb | apply Kd.zbg)); exact (Kd.zco (Kd.zbp (p := ⟨gb276, 3, none⟩) (Kd.zbp (p := ⟨gb276, 2, none⟩) (Kd.zbp (p := ⟨gb276, 1, none⟩) (Kd.zbp (p := ⟨gb276, 0, none⟩) (Kd.zch HO272.out BK276.out (by decide)) (fun _ hk => hk.2) (.string t268)) (fun _ hk => hk.2) (.string t269)) (fun _ hk => hk.2) (.slice Ao52 t270.length co52)) (fun _ hk => hk.2) (.string t273)) (fun _ h_ => h_.1)))); (case side2 => exact (Kd.zbu HO272.out).2.1); (case side3 => exact Kd.zdf HR0_2.out (by repeat (first | (with_reducible first | exact HB.out | apply zac | apply zaa | apply zab | refine zad ?_ GE260.out | refine zad ?_ GE261.out | refine zad ?_ GE276.out) | exact HB.out))); (case side4 => exact HC0_2.out); rintro e w' ⟨rfl, ⟨nd, rfl⟩⟩))
                   go_meet
                   case rel => exact ⟨_, H', ⟨by have := HJ5.out; have := HJ19.out; have := HJ32.out; first | omega | exact Nat.le_refl _⟩, ⟨by (with_reducible repeat (first | refine zae ?_ _ | refine zag ?_ | refine zaf ?_ _)); refine zbx ?_ NB260_276.out _; (with_reducible repeat (first | refine zae ?_ _ | refine zag ?_ | refine zaf ?_ _)); refine zbx ?_ NB260_276.out _; (with_reducible repeat (first | refine zae ?_ _ | refine zag ?_ | refine zaf ?_ _)); refine zbx ?_ NB260_276.out _; (with_reducible repeat (first | refine zae ?_ _ | refine zag ?_ | refine zaf ?_ _)); refine zbx ?_ NB260_276.out _; (with_reducible repeat (first | refine zae ?_ _ | refine zag ?_ | refine zaf ?_ _)); exact BK260.out⟩, ⟨by (with_reducible repeat (first | refine zae ?_ _ | refine zag ?_ | refine zaf ?_ _)); refine zbx ?_ NB261_276.out _; (with_reducible repeat (first | refine zae ?_ _ | refine zag ?_ | refine zaf ?_ _)); refine zbx ?_ NB261_276.out _; (with_reducible repeat (first | refine zae ?_ _ | refine zag ?_ | refine zaf ?_ _)); refine zbx ?_ NB261_276.out _; (with_reducible repeat (first | refine zae ?_ _ | refine zag ?_ | refine zaf ?_ _)); refine zbx ?_ NB261_276.out _; (with_reducible repeat (first | refine zae ?_ _ | refine zag ?_ | refine zaf ?_ _)); exact BK261.out⟩, ⟨by repeat (first | (with_reducible first | exact HB.out | apply zac | apply zaa | apply zab | refine zad ?_ GE260.out | refine zad ?_ GE261.out | refine zad ?_ GE276.out) | exact HB.out)⟩⟩
                  ·replace c46 := Bool.eq_false_iff.mpr c46
                   subst c46
                   have H1 : (some false) = some r := by rw [if_neg (show ¬ (false = true) by decide)] at H; exact H
                   clear H
                   have H := H1
                   clear H1
                   obtain rfl := Option.some.inj H
                   go_wp2_with (first | ((with_reducible refine zar (f := 6) rfl ?_); refine zbr (some 73) rfl rfl Tryz.func6 (by kernel_rfl) rfl #[.string (t263 ++ a2)] rfl (by (try simp only [List.map_toArray, List.map_cons, List.map_nil]); first | done | rfl | (simp only [List.length_drop, List.length_take]; rfl)) ?_; (with_reducible refine (zat.calls kj32 (t263 ++ a2) t268 t269 t270 t273 t274 t275 _ ?side1 A39.out).mono ?_); (case side1 => exact LaidM.below HT.out (by repeat (first | (with_reducible first | exact HB.out | apply zac | apply zaa | apply zab | refine zad ?_ GE260.out | refine zad ?_ GE261.out) | exact HB.out))); rintro e w55 ⟨v271, rfl, ho0, hb⟩; refine ⟨_, rfl, ?_⟩; have n0_ := Aside0.mk (Kd.zby ho0 (zan (by repeat (first | (with_reducible first | exact HB.out | apply zac | apply zaa | apply zab | refine zad ?_ GE260.out | refine zad ?_ GE261.out) | exact HB.out)))); have n1_ := Aside0.mk (zao (g := gb260) (o := .cells #[.string a0_0, .string a0_1, .slice A0_2 l0_2.length c0_2, .string a0_3] 25 (0, 0)) (by (with_reducible repeat (first | refine zae ?_ _ | refine zag ?_ | refine zaf ?_ _)); exact BK260.out) hb); have n2_ := Aside0.mk (zao (g := gb261) (o := .cells #[.int .i64 a1_0, .slice A1_1 l1_1.length c1_1, .string a1_2] 33 (0, 0)) (by (with_reducible repeat (first | refine zae ?_ _ | refine zag ?_ | refine zaf ?_ _)); exact BK261.out) hb); have n3_ := Aside0.mk (zam (by repeat (first | (with_reducible first | exact HB.out | apply zac | apply zaa | apply zab | refine zad ?_ GE260.out | refine zad ?_ GE261.out) | exact HB.out)) hb); clear BK260; clear BK261; clear HB; have HO272 := n0_; have BK260 := n1_; have BK261 := n2_; have HB := n3_; clear n0_ n1_ n2_ n3_; (try clear hb); (try clear hb2); (try clear hk); (try clear hi); (try clear ho0)) | ((with_reducible refine zbj (N := 11) rfl ?_); (try (refine zbi (by rfl) ?_; dsimp only)); refine zbf ?hg (N := 11) ?hd (cs := #[.string ⟨#[]⟩, .string ⟨#[]⟩, .slice none 0 0, .string ⟨#[]⟩]) (t := 25) ?hr ?_; (case hd => rfl); (case hg => rfl); (case hr => first | (go_simp; done) | (go_simp; rfl)); intro gb276 hg w56 hbox hb; have n0_ := Aside0.mk (Kd.zbl (by (with_reducible repeat (first | apply Kd.zbc | apply Kd.zbb | apply Kd.zbg)); exact HO272.out) hb); have n1_ := Aside0.mk (zao (g := gb260) (o := .cells #[.string a0_0, .string a0_1, .slice A0_2 l0_2.length c0_2, .string a0_3] 25 (0, 0)) (by (with_reducible repeat (first | refine zae ?_ _ | refine zag ?_ | refine zaf ?_ _)); exact BK260.out) hb); have n2_ := Aside0.mk (zao (g := gb261) (o := .cells #[.int .i64 a1_0, .slice A1_1 l1_1.length c1_1, .string a1_2] 33 (0, 0)) (by (with_reducible repeat (first | refine zae ?_ _ | refine zag ?_ | refine zaf ?_ _)); exact BK261.out) hb); have n3_ := Aside0.mk (zam (by repeat (first | (with_reducible first | exact HB.out | apply zac | apply zaa | apply zab | refine zad ?_ GE260.out | refine zad ?_ GE261.out) | exact HB.out)) hb); have n4_ := Aside0.mk (hbox); have n5_ := Aside0.mk ((by rw [hg]; exact (zan (by repeat (first | (with_reducible first | exact HB.out | apply zac | apply zaa | apply zab | refine zad ?_ GE260.out | refine zad ?_ GE261.out) | exact HB.out))) : w.heap.size ≤ gb276)); have n6_ := Aside0.mk ((by rw [hg]; exact (zan (by repeat (first | (with_reducible first | exact HB.out | apply zac | apply zaa | apply zab | refine zad ?_ GE260.out | refine zad ?_ GE261.out) | exact HB.out))) : w.heap.size ≤ gb276)); have n7_ := Aside0.mk ((by rw [hg]; exact Nat.ne_of_lt (zbv (g := gb260) (o := .cells #[.string a0_0, .string a0_1, .slice A0_2 l0_2.length c0_2, .string a0_3] 25 (0, 0)) (by (with_reducible repeat (first | refine zae ?_ _ | refine zag ?_ | refine zaf ?_ _)); exact BK260.out)) : gb260 ≠ gb276)); have n8_ := Aside0.mk ((by rw [hg]; exact Nat.ne_of_gt (zbv (g := gb260) (o := .cells #[.string a0_0, .string a0_1, .slice A0_2 l0_2.length c0_2, .string a0_3] 25 (0, 0)) (by (with_reducible repeat (first | refine zae ?_ _ | refine zag ?_ | refine zaf ?_ _)); exact BK260.out)) : gb276 ≠ gb260)); have n9_ := Aside0.mk ((by rw [hg]; exact Nat.ne_of_lt (zbv (g := gb261) (o := .cells #[.int .i64 a1_0, .slice A1_1 l1_1.length c1_1, .string a1_2] 33 (0, 0)) (by (with_reducible repeat (first | refine zae ?_ _ | refine zag ?_ | refine zaf ?_ _)); exact BK261.out)) : gb261 ≠ gb276)); have n10_ := Aside0.mk ((by rw [hg]; exact Nat.ne_of_gt (zbv (g := gb261) (o := .cells #[.int .i64 a1_0, .slice A1_1 l1_1.length c1_1, .string a1_2] 33 (0, 0)) (by (with_reducible repeat (first | refine zae ?_ _ | refine zag ?_ | refine zaf ?_ _)); exact BK261.out)) : gb276 ≠ gb261)); clear HO272; clear BK260; clear BK261; clear HB; have HO272 := n0_; have BK260 := n1_; have BK261 := n2_; have HB := n3_; have BK276 := n4_; have GW276 := n5_; have GE276 := n6_; have NB260_276 := n7_; have NB276_260 := n8_; have NB261_276 := n9_; have NB276_261 := n10_; clear n0_ n1_ n2_ n3_ n4_ n5_ n6_ n7_ n8_ n9_ n10_; clear hb hbox hg; have hnb57 := NB276_260.out; have hnc57 := NB260_276.out; have hnb58 := NB276_261.out; have hnc58 := NB261_276.out; have hcz59_0 : w56.cell? ⟨gb276, 0, none⟩ = some (.string ⟨#[]⟩) := (zah BK276.out 0).trans rfl; have hcz59_1 : w56.cell? ⟨gb276, 1, none⟩ = some (.string ⟨#[]⟩) := (zah BK276.out 1).trans rfl; have hcz59_2 : w56.cell? ⟨gb276, 2, none⟩ = some (.slice none 0 0) := (zah BK276.out 2).trans rfl; have hcz59_3 : w56.cell? ⟨gb276, 3, none⟩ = some (.string ⟨#[]⟩) := (zah BK276.out 3).trans rfl; have hfz59_0 := zai BK276.out 0; have hfz59_1 := zai BK276.out 1; have hfz59_2 := zai BK276.out 2; have hfz59_3 := zai BK276.out 3; obtain ⟨Ao60, co60, eo60⟩ := Kd.zca HO272.out; subst eo60; have hnb61 := NB260_261.out; have hnc61 := NB261_260.out; have hcz62_0 : w56.cell? ⟨gb260, 0, none⟩ = some (.string a0_0) := (zah BK260.out 0).trans rfl; have hcz62_1 : w56.cell? ⟨gb260, 1, none⟩ = some (.string a0_1) := (zah BK260.out 1).trans rfl; have hcz62_2 : w56.cell? ⟨gb260, 2, none⟩ = some (.slice A0_2 l0_2.length c0_2) := (zah BK260.out 2).trans rfl; have hcz62_3 : w56.cell? ⟨gb260, 3, none⟩ = some (.string a0_3) := (zah BK260.out 3).trans rfl; have hfz62_0 := zai BK260.out 0; have hfz62_1 := zai BK260.out 1; have hfz62_2 := zai BK260.out 2; have hfz62_3 := zai BK260.out 3) | (go_at_call 8; (with_reducible refine (zbo.calls kj32 _ _ t270 _ _ l0_2 false _ ?side1 ?side2 ?side3 ?side4 A45.out).mono ?_); (case side1 => refine (Kd.zbu (e := 62) (base := w.heap.size) (ok := fun k_ => True) (n := t270.length) (c := co60) ?_).2.2; exact (by (with_reducible repeat (first | apply Kd.zbc | apply Kd.zbb | apply Kd.zbg)); exact (Kd.zco (Kd.zbp (p := ⟨gb276, 3, none⟩) (Kd.zbp (p := ⟨gb276, 2, none⟩) (Kd.zbp (p := ⟨gb276, 1, none⟩) (Kd.zbp (p := ⟨gb276, 0, none⟩) (Kd.zch HO272.out BK276.out (by decide)) (fun _ hk => hk.2) (.string t268)) (fun _ hk => hk.2) (.string t269)) (fun _ hk => hk.2) (.slice Ao60 t270.length co60)) (fun _ hk => hk.2) (.string t273)) (fun _ h_ => h_.1)))); (case side2 => exact (Kd.zbu HO272.out).2.1); (case side3 => exact Kd.zdf HR0_2.out (by repeat (first | (with_reducible first | exact HB.out | apply zac | apply zaa | apply zab | refine zad ?_ GE260.out | refine zad ?_ GE261.out | refine zad ?_ GE276.out) | exact HB.out))); (case side4 => exact HC0_2.out); rintro e w' ⟨rfl, ⟨nd, rfl⟩⟩))
                   go_ret
                   exact ⟨by first | rfl | (simp [zaq, zap] <;> rfl) | (simp [*, zaq, zap] <;> rfl), by repeat (first | (with_reducible first | exact HB.out | apply zac | apply zaa | apply zab | refine zad ?_ GE260.out | refine zad ?_ GE261.out | refine zad ?_ GE276.out) | exact HB.out)⟩
                 ·rw [if_neg c44] at H
                  have c44b0 : (t273.toList == a0_3.toList) = false := beq_eq_false_iff_ne.mpr c44
                  have c44b1 : (t273.toList != a0_3.toList) = true := bne_iff_ne.mpr c44
                  obtain rfl := Option.some.inj H
                  go_wp2_with (first | ((with_reducible refine zar (f := 6) rfl ?_); refine zbr (some 73) rfl rfl Tryz.func6 (by kernel_rfl) rfl #[.string (t263 ++ a2)] rfl (by (try simp only [List.map_toArray, List.map_cons, List.map_nil]); first | done | rfl | (simp only [List.length_drop, List.length_take]; rfl)) ?_; (with_reducible refine (zat.calls kj32 (t263 ++ a2) t268 t269 t270 t273 t274 t275 _ ?side1 A39.out).mono ?_); (case side1 => exact LaidM.below HT.out (by repeat (first | (with_reducible first | exact HB.out | apply zac | apply zaa | apply zab | refine zad ?_ GE260.out | refine zad ?_ GE261.out) | exact HB.out))); rintro e w63 ⟨v271, rfl, ho0, hb⟩; refine ⟨_, rfl, ?_⟩; have n0_ := Aside0.mk (Kd.zby ho0 (zan (by repeat (first | (with_reducible first | exact HB.out | apply zac | apply zaa | apply zab | refine zad ?_ GE260.out | refine zad ?_ GE261.out) | exact HB.out)))); have n1_ := Aside0.mk (zao (g := gb260) (o := .cells #[.string a0_0, .string a0_1, .slice A0_2 l0_2.length c0_2, .string a0_3] 25 (0, 0)) (by (with_reducible repeat (first | refine zae ?_ _ | refine zag ?_ | refine zaf ?_ _)); exact BK260.out) hb); have n2_ := Aside0.mk (zao (g := gb261) (o := .cells #[.int .i64 a1_0, .slice A1_1 l1_1.length c1_1, .string a1_2] 33 (0, 0)) (by (with_reducible repeat (first | refine zae ?_ _ | refine zag ?_ | refine zaf ?_ _)); exact BK261.out) hb); have n3_ := Aside0.mk (zam (by repeat (first | (with_reducible first | exact HB.out | apply zac | apply zaa | apply zab | refine zad ?_ GE260.out | refine zad ?_ GE261.out) | exact HB.out)) hb); clear BK260; clear BK261; clear HB; have HO272 := n0_; have BK260 := n1_; have BK261 := n2_; have HB := n3_; clear n0_ n1_ n2_ n3_; (try clear hb); (try clear hb2); (try clear hk); (try clear hi); (try clear ho0)) | ((with_reducible refine zbj (N := 11) rfl ?_); (try (refine zbi (by rfl) ?_; dsimp only)); refine zbf ?hg (N := 11) ?hd (cs := #[.string ⟨#[]⟩, .string ⟨#[]⟩, .slice none 0 0, .string ⟨#[]⟩]) (t := 25) ?hr ?_; (case hd => rfl); (case hg => rfl); (case hr => first | (go_simp; done) | (go_simp; rfl)); intro gb276 hg w64 hbox hb; have n0_ := Aside0.mk (Kd.zbl (by (with_reducible repeat (first | apply Kd.zbc | apply Kd.zbb | apply Kd.zbg)); exact HO272.out) hb); have n1_ := Aside0.mk (zao (g := gb260) (o := .cells #[.string a0_0, .string a0_1, .slice A0_2 l0_2.length c0_2, .string a0_3] 25 (0, 0)) (by (with_reducible repeat (first | refine zae ?_ _ | refine zag ?_ | refine zaf ?_ _)); exact BK260.out) hb); have n2_ := Aside0.mk (zao (g := gb261) (o := .cells #[.int .i64 a1_0, .slice A1_1 l1_1.length c1_1, .string a1_2] 33 (0, 0)) (by (with_reducible repeat (first | refine zae ?_ _ | refine zag ?_ | refine zaf ?_ _)); exact BK261.out) hb); have n3_ := Aside0.mk (zam (by repeat (first | (with_reducible first | exact HB.out | apply zac | apply zaa | apply zab | refine zad ?_ GE260.out | refine zad ?_ GE261.out) | exact HB.out)) hb); have n4_ := Aside0.mk (hbox); have n5_ := Aside0.mk ((by rw [hg]; exact (zan (by repeat (first | (with_reducible first | exact HB.out | apply zac | apply zaa | apply zab | refine zad ?_ GE260.out | refine zad ?_ GE261.out) | exact HB.out))) : w.heap.size ≤ gb276)); have n6_ := Aside0.mk ((by rw [hg]; exact (zan (by repeat (first | (with_reducible first | exact HB.out | apply zac | apply zaa | apply zab | refine zad ?_ GE260.out | refine zad ?_ GE261.out) | exact HB.out))) : w.heap.size ≤ gb276)); have n7_ := Aside0.mk ((by rw [hg]; exact Nat.ne_of_lt (zbv (g := gb260) (o := .cells #[.string a0_0, .string a0_1, .slice A0_2 l0_2.length c0_2, .string a0_3] 25 (0, 0)) (by (with_reducible repeat (first | refine zae ?_ _ | refine zag ?_ | refine zaf ?_ _)); exact BK260.out)) : gb260 ≠ gb276)); have n8_ := Aside0.mk ((by rw [hg]; exact Nat.ne_of_gt (zbv (g := gb260) (o := .cells #[.string a0_0, .string a0_1, .slice A0_2 l0_2.length c0_2, .string a0_3] 25 (0, 0)) (by (with_reducible repeat (first | refine zae ?_ _ | refine zag ?_ | refine zaf ?_ _)); exact BK260.out)) : gb276 ≠ gb260)); have n9_ := Aside0.mk ((by rw [hg]; exact Nat.ne_of_lt (zbv (g := gb261) (o := .cells #[.int .i64 a1_0, .slice A1_1 l1_1.length c1_1, .string a1_2] 33 (0, 0)) (by (with_reducible repeat (first | refine zae ?_ _ | refine zag ?_ | refine zaf ?_ _)); exact BK261.out)) : gb261 ≠ gb276)); have n10_ := Aside0.mk ((by rw [hg]; exact Nat.ne_of_gt (zbv (g := gb261) (o := .cells #[.int .i64 a1_0, .slice A1_1 l1_1.length c1_1, .string a1_2] 33 (0, 0)) (by (with_reducible repeat (first | refine zae ?_ _ | refine zag ?_ | refine zaf ?_ _)); exact BK261.out)) : gb276 ≠ gb261)); clear HO272; clear BK260; clear BK261; clear HB; have HO272 := n0_; have BK260 := n1_; have BK261 := n2_; have HB := n3_; have BK276 := n4_; have GW276 := n5_; have GE276 := n6_; have NB260_276 := n7_; have NB276_260 := n8_; have NB261_276 := n9_; have NB276_261 := n10_; clear n0_ n1_ n2_ n3_ n4_ n5_ n6_ n7_ n8_ n9_ n10_; clear hb hbox hg; have hnb65 := NB276_260.out; have hnc65 := NB260_276.out; have hnb66 := NB276_261.out; have hnc66 := NB261_276.out; have hcz67_0 : w64.cell? ⟨gb276, 0, none⟩ = some (.string ⟨#[]⟩) := (zah BK276.out 0).trans rfl; have hcz67_1 : w64.cell? ⟨gb276, 1, none⟩ = some (.string ⟨#[]⟩) := (zah BK276.out 1).trans rfl; have hcz67_2 : w64.cell? ⟨gb276, 2, none⟩ = some (.slice none 0 0) := (zah BK276.out 2).trans rfl; have hcz67_3 : w64.cell? ⟨gb276, 3, none⟩ = some (.string ⟨#[]⟩) := (zah BK276.out 3).trans rfl; have hfz67_0 := zai BK276.out 0; have hfz67_1 := zai BK276.out 1; have hfz67_2 := zai BK276.out 2; have hfz67_3 := zai BK276.out 3; obtain ⟨Ao68, co68, eo68⟩ := Kd.zca HO272.out; subst eo68; have hnb69 := NB260_261.out; have hnc69 := NB261_260.out; have hcz70_0 : w64.cell? ⟨gb260, 0, none⟩ = some (.string a0_0) := (zah BK260.out 0).trans rfl; have hcz70_1 : w64.cell? ⟨gb260, 1, none⟩ = some (.string a0_1) := (zah BK260.out 1).trans rfl; have hcz70_2 : w64.cell? ⟨gb260, 2, none⟩ = some (.slice A0_2 l0_2.length c0_2) := (zah BK260.out 2).trans rfl; have hcz70_3 : w64.cell? ⟨gb260, 3, none⟩ = some (.string a0_3) := (zah BK260.out 3).trans rfl; have hfz70_0 := zai BK260.out 0; have hfz70_1 := zai BK260.out 1; have hfz70_2 := zai BK260.out 2; have hfz70_3 := zai BK260.out 3))
                  go_ret
                  exact ⟨by first | rfl | (simp [zaq, zap] <;> rfl) | (simp [*, zaq, zap] <;> rfl), by repeat (first | (with_reducible first | exact HB.out | apply zac | apply zaa | apply zab | refine zad ?_ GE260.out | refine zad ?_ GE261.out | refine zad ?_ GE276.out) | exact HB.out)⟩
                ·rw [if_neg c43] at H
                 have c43b0 : (t269.toList == a0_1.toList) = false := beq_eq_false_iff_ne.mpr c43
                 have c43b1 : (t269.toList != a0_1.toList) = true := bne_iff_ne.mpr c43
                 obtain rfl := Option.some.inj H
                 go_wp2_with (first | ((with_reducible refine zar (f := 6) rfl ?_); refine zbr (some 73) rfl rfl Tryz.func6 (by kernel_rfl) rfl #[.string (t263 ++ a2)] rfl (by (try simp only [List.map_toArray, List.map_cons, List.map_nil]); first | done | rfl | (simp only [List.length_drop, List.length_take]; rfl)) ?_; (with_reducible refine (zat.calls kj32 (t263 ++ a2) t268 t269 t270 t273 t274 t275 _ ?side1 A39.out).mono ?_); (case side1 => exact LaidM.below HT.out (by repeat (first | (with_reducible first | exact HB.out | apply zac | apply zaa | apply zab | refine zad ?_ GE260.out | refine zad ?_ GE261.out) | exact HB.out))); rintro e w71 ⟨v271, rfl, ho0, hb⟩; refine ⟨_, rfl, ?_⟩; have n0_ := Aside0.mk (Kd.zby ho0 (zan (by repeat (first | (with_reducible first | exact HB.out | apply zac | apply zaa | apply zab | refine zad ?_ GE260.out | refine zad ?_ GE261.out) | exact HB.out)))); have n1_ := Aside0.mk (zao (g := gb260) (o := .cells #[.string a0_0, .string a0_1, .slice A0_2 l0_2.length c0_2, .string a0_3] 25 (0, 0)) (by (with_reducible repeat (first | refine zae ?_ _ | refine zag ?_ | refine zaf ?_ _)); exact BK260.out) hb); have n2_ := Aside0.mk (zao (g := gb261) (o := .cells #[.int .i64 a1_0, .slice A1_1 l1_1.length c1_1, .string a1_2] 33 (0, 0)) (by (with_reducible repeat (first | refine zae ?_ _ | refine zag ?_ | refine zaf ?_ _)); exact BK261.out) hb); have n3_ := Aside0.mk (zam (by repeat (first | (with_reducible first | exact HB.out | apply zac | apply zaa | apply zab | refine zad ?_ GE260.out | refine zad ?_ GE261.out) | exact HB.out)) hb); clear BK260; clear BK261; clear HB; have HO272 := n0_; have BK260 := n1_; have BK261 := n2_; have HB := n3_; clear n0_ n1_ n2_ n3_; (try clear hb); (try clear hb2); (try clear hk); (try clear hi); (try clear ho0)) | ((with_reducible refine zbj (N := 11) rfl ?_); (try (refine zbi (by rfl) ?_; dsimp only)); refine zbf ?hg (N := 11) ?hd (cs := #[.string ⟨#[]⟩, .string ⟨#[]⟩, .slice none 0 0, .string ⟨#[]⟩]) (t := 25) ?hr ?_; (case hd => rfl); (case hg => rfl); (case hr => first | (go_simp; done) | (go_simp; rfl)); intro gb276 hg w72 hbox hb; have n0_ := Aside0.mk (Kd.zbl (by (with_reducible repeat (first | apply Kd.zbc | apply Kd.zbb | apply Kd.zbg)); exact HO272.out) hb); have n1_ := Aside0.mk (zao (g := gb260) (o := .cells #[.string a0_0, .string a0_1, .slice A0_2 l0_2.length c0_2, .string a0_3] 25 (0, 0)) (by (with_reducible repeat (first | refine zae ?_ _ | refine zag ?_ | refine zaf ?_ _)); exact BK260.out) hb); have n2_ := Aside0.mk (zao (g := gb261) (o := .cells #[.int .i64 a1_0, .slice A1_1 l1_1.length c1_1, .string a1_2] 33 (0, 0)) (by (with_reducible repeat (first | refine zae ?_ _ | refine zag ?_ | refine zaf ?_ _)); exact BK261.out) hb); have n3_ := Aside0.mk (zam (by repeat (first | (with_reducible first | exact HB.out | apply zac | apply zaa | apply zab | refine zad ?_ GE260.out | refine zad ?_ GE261.out) | exact HB.out)) hb); have n4_ := Aside0.mk (hbox); have n5_ := Aside0.mk ((by rw [hg]; exact (zan (by repeat (first | (with_reducible first | exact HB.out | apply zac | apply zaa | apply zab | refine zad ?_ GE260.out | refine zad ?_ GE261.out) | exact HB.out))) : w.heap.size ≤ gb276)); have n6_ := Aside0.mk ((by rw [hg]; exact (zan (by repeat (first | (with_reducible first | exact HB.out | apply zac | apply zaa | apply zab | refine zad ?_ GE260.out | refine zad ?_ GE261.out) | exact HB.out))) : w.heap.size ≤ gb276)); have n7_ := Aside0.mk ((by rw [hg]; exact Nat.ne_of_lt (zbv (g := gb260) (o := .cells #[.string a0_0, .string a0_1, .slice A0_2 l0_2.length c0_2, .string a0_3] 25 (0, 0)) (by (with_reducible repeat (first | refine zae ?_ _ | refine zag ?_ | refine zaf ?_ _)); exact BK260.out)) : gb260 ≠ gb276)); have n8_ := Aside0.mk ((by rw [hg]; exact Nat.ne_of_gt (zbv (g := gb260) (o := .cells #[.string a0_0, .string a0_1, .slice A0_2 l0_2.length c0_2, .string a0_3] 25 (0, 0)) (by (with_reducible repeat (first | refine zae ?_ _ | refine zag ?_ | refine zaf ?_ _)); exact BK260.out)) : gb276 ≠ gb260)); have n9_ := Aside0.mk ((by rw [hg]; exact Nat.ne_of_lt (zbv (g := gb261) (o := .cells #[.int .i64 a1_0, .slice A1_1 l1_1.length c1_1, .string a1_2] 33 (0, 0)) (by (with_reducible repeat (first | refine zae ?_ _ | refine zag ?_ | refine zaf ?_ _)); exact BK261.out)) : gb261 ≠ gb276)); have n10_ := Aside0.mk ((by rw [hg]; exact Nat.ne_of_gt (zbv (g := gb261) (o := .cells #[.int .i64 a1_0, .slice A1_1 l1_1.length c1_1, .string a1_2] 33 (0, 0)) (by (with_reducible repeat (first | refine zae ?_ _ | refine zag ?_ | refine zaf ?_ _)); exact BK261.out)) : gb276 ≠ gb261)); clear HO272; clear BK260; clear BK261; clear HB; have HO272 := n0_; have BK260 := n1_; have BK261 := n2_; have HB := n3_; have BK276 := n4_; have GW276 := n5_; have GE276 := n6_; have NB260_276 := n7_; have NB276_260 := n8_; have NB261_276 := n9_; have NB276_261 := n10_; clear n0_ n1_ n2_ n3_ n4_ n5_ n6_ n7_ n8_ n9_ n10_; clear hb hbox hg; have hnb73 := NB276_260.out; have hnc73 := NB260_276.out; have hnb74 := NB276_261.out; have hnc74 := NB261_276.out; have hcz75_0 : w72.cell? ⟨gb276, 0, none⟩ = some (.string ⟨#[]⟩) := (zah BK276.out 0).trans rfl; have hcz75_1 : w72.cell? ⟨gb276, 1, none⟩ = some (.string ⟨#[]⟩) := (zah BK276.out 1).trans rfl; have hcz75_2 : w72.cell? ⟨gb276, 2, none⟩ = some (.slice none 0 0) := (zah BK276.out 2).trans rfl; have hcz75_3 : w72.cell? ⟨gb276, 3, none⟩ = some (.string ⟨#[]⟩) := (zah BK276.out 3).trans rfl; have hfz75_0 := zai BK276.out 0; have hfz75_1 := zai BK276.out 1; have hfz75_2 := zai BK276.out 2; have hfz75_3 := zai BK276.out 3; obtain ⟨Ao76, co76, eo76⟩ := Kd.zca HO272.out; subst eo76; have hnb77 := NB260_261.out; have hnc77 := NB261_260.out; have hcz78_0 : w72.cell? ⟨gb260, 0, none⟩ = some (.string a0_0) := (zah BK260.out 0).trans rfl; have hcz78_1 : w72.cell? ⟨gb260, 1, none⟩ = some (.string a0_1) := (zah BK260.out 1).trans rfl; have hcz78_2 : w72.cell? ⟨gb260, 2, none⟩ = some (.slice A0_2 l0_2.length c0_2) := (zah BK260.out 2).trans rfl; have hcz78_3 : w72.cell? ⟨gb260, 3, none⟩ = some (.string a0_3) := (zah BK260.out 3).trans rfl; have hfz78_0 := zai BK260.out 0; have hfz78_1 := zai BK260.out 1; have hfz78_2 := zai BK260.out 2; have hfz78_3 := zai BK260.out 3))
                 go_ret
                 exact ⟨by first | rfl | (simp [zaq, zap] <;> rfl) | (simp [*, zaq, zap] <;> rfl), by repeat (first | (with_reducible first | exact HB.out | apply zac | apply zaa | apply zab | refine zad ?_ GE260.out | refine zad ?_ GE261.out | refine zad ?_ GE276.out) | exact HB.out)⟩
               ·rw [if_neg c42] at H
                have c42b0 : (t268.toList == a0_0.toList) = false := beq_eq_false_iff_ne.mpr c42
                have c42b1 : (t268.toList != a0_0.toList) = true := bne_iff_ne.mpr c42
                obtain rfl := Option.some.inj H
                go_wp2_with (first | ((with_reducible refine zar (f := 6) rfl ?_); refine zbr (some 73) rfl rfl Tryz.func6 (by kernel_rfl) rfl #[.string (t263 ++ a2)] rfl (by (try simp only [List.map_toArray, List.map_cons, List.map_nil]); first | done | rfl | (simp only [List.length_drop, List.length_take]; rfl)) ?_; (with_reducible refine (zat.calls kj32 (t263 ++ a2) t268 t269 t270 t273 t274 t275 _ ?side1 A39.out).mono ?_); (case side1 => exact LaidM.below HT.out (by repeat (first | (with_reducible first | exact HB.out | apply zac | apply zaa | apply zab | refine zad ?_ GE260.out | refine zad ?_ GE261.out) | exact HB.out))); rintro e w79 ⟨v271, rfl, ho0, hb⟩; refine ⟨_, rfl, ?_⟩; have n0_ := Aside0.mk (Kd.zby ho0 (zan (by repeat (first | (with_reducible first | exact HB.out | apply zac | apply zaa | apply zab | refine zad ?_ GE260.out | refine zad ?_ GE261.out) | exact HB.out)))); have n1_ := Aside0.mk (zao (g := gb260) (o := .cells #[.string a0_0, .string a0_1, .slice A0_2 l0_2.length c0_2, .string a0_3] 25 (0, 0)) (by (with_reducible repeat (first | refine zae ?_ _ | refine zag ?_ | refine zaf ?_ _)); exact BK260.out) hb); have n2_ := Aside0.mk (zao (g := gb261) (o := .cells #[.int .i64 a1_0, .slice A1_1 l1_1.length c1_1, .string a1_2] 33 (0, 0)) (by (with_reducible repeat (first | refine zae ?_ _ | refine zag ?_ | refine zaf ?_ _)); exact BK261.out) hb); have n3_ := Aside0.mk (zam (by repeat (first | (with_reducible first | exact HB.out | apply zac | apply zaa | apply zab | refine zad ?_ GE260.out | refine zad ?_ GE261.out) | exact HB.out)) hb); clear BK260; clear BK261; clear HB; have HO272 := n0_; have BK260 := n1_; have BK261 := n2_; have HB := n3_; clear n0_ n1_ n2_ n3_; (try clear hb); (try clear hb2); (try clear hk); (try clear hi); (try clear ho0)) | ((with_reducible refine zbj (N := 11) rfl ?_); (try (refine zbi (by rfl) ?_; dsimp only)); refine zbf ?hg (N := 11) ?hd (cs := #[.string ⟨#[]⟩, .string ⟨#[]⟩, .slice none 0 0, .string ⟨#[]⟩]) (t := 25) ?hr ?_; (case hd => rfl); (case hg => rfl); (case hr => first | (go_simp; done) | (go_simp; rfl)); intro gb276 hg w80 hbox hb; have n0_ := Aside0.mk (Kd.zbl (by (with_reducible repeat (first | apply Kd.zbc | apply Kd.zbb | apply Kd.zbg)); exact HO272.out) hb); have n1_ := Aside0.mk (zao (g := gb260) (o := .cells #[.string a0_0, .string a0_1, .slice A0_2 l0_2.length c0_2, .string a0_3] 25 (0, 0)) (by (with_reducible repeat (first | refine zae ?_ _ | refine zag ?_ | refine zaf ?_ _)); exact BK260.out) hb); have n2_ := Aside0.mk (zao (g := gb261) (o := .cells #[.int .i64 a1_0, .slice A1_1 l1_1.length c1_1, .string a1_2] 33 (0, 0)) (by (with_reducible repeat (first | refine zae ?_ _ | refine zag ?_ | refine zaf ?_ _)); exact BK261.out) hb); have n3_ := Aside0.mk (zam (by repeat (first | (with_reducible first | exact HB.out | apply zac | apply zaa | apply zab | refine zad ?_ GE260.out | refine zad ?_ GE261.out) | exact HB.out)) hb); have n4_ := Aside0.mk (hbox); have n5_ := Aside0.mk ((by rw [hg]; exact (zan (by repeat (first | (with_reducible first | exact HB.out | apply zac | apply zaa | apply zab | refine zad ?_ GE260.out | refine zad ?_ GE261.out) | exact HB.out))) : w.heap.size ≤ gb276)); have n6_ := Aside0.mk ((by rw [hg]; exact (zan (by repeat (first | (with_reducible first | exact HB.out | apply zac | apply zaa | apply zab | refine zad ?_ GE260.out | refine zad ?_ GE261.out) | exact HB.out))) : w.heap.size ≤ gb276)); have n7_ := Aside0.mk ((by rw [hg]; exact Nat.ne_of_lt (zbv (g := gb260) (o := .cells #[.string a0_0, .string a0_1, .slice A0_2 l0_2.length c0_2, .string a0_3] 25 (0, 0)) (by (with_reducible repeat (first | refine zae ?_ _ | refine zag ?_ | refine zaf ?_ _)); exact BK260.out)) : gb260 ≠ gb276)); have n8_ := Aside0.mk ((by rw [hg]; exact Nat.ne_of_gt (zbv (g := gb260) (o := .cells #[.string a0_0, .string a0_1, .slice A0_2 l0_2.length c0_2, .string a0_3] 25 (0, 0)) (by (with_reducible repeat (first | refine zae ?_ _ | refine zag ?_ | refine zaf ?_ _)); exact BK260.out)) : gb276 ≠ gb260)); have n9_ := Aside0.mk ((by rw [hg]; exact Nat.ne_of_lt (zbv (g := gb261) (o := .cells #[.int .i64 a1_0, .slice A1_1 l1_1.length c1_1, .string a1_2] 33 (0, 0)) (by (with_reducible repeat (first | refine zae ?_ _ | refine zag ?_ | refine zaf ?_ _)); exact BK261.out)) : gb261 ≠ gb276)); have n10_ := Aside0.mk ((by rw [hg]; exact Nat.ne_of_gt (zbv (g := gb261) (o := .cells #[.int .i64 a1_0, .slice A1_1 l1_1.length c1_1, .string a1_2] 33 (0, 0)) (by (with_reducible repeat (first | refine zae ?_ _ | refine zag ?_ | refine zaf ?_ _)); exact BK261.out)) : gb276 ≠ gb261)); clear HO272; clear BK260; clear BK261; clear HB; have HO272 := n0_; have BK260 := n1_; have BK261 := n2_; have HB := n3_; have BK276 := n4_; have GW276 := n5_; have GE276 := n6_; have NB260_276 := n7_; have NB276_260 := n8_; have NB261_276 := n9_; have NB276_261 := n10_; clear n0_ n1_ n2_ n3_ n4_ n5_ n6_ n7_ n8_ n9_ n10_; clear hb hbox hg; have hnb81 := NB276_260.out; have hnc81 := NB260_276.out; have hnb82 := NB276_261.out; have hnc82 := NB261_276.out; have hcz83_0 : w80.cell? ⟨gb276, 0, none⟩ = some (.string ⟨#[]⟩) := (zah BK276.out 0).trans rfl; have hcz83_1 : w80.cell? ⟨gb276, 1, none⟩ = some (.string ⟨#[]⟩) := (zah BK276.out 1).trans rfl; have hcz83_2 : w80.cell? ⟨gb276, 2, none⟩ = some (.slice none 0 0) := (zah BK276.out 2).trans rfl; have hcz83_3 : w80.cell? ⟨gb276, 3, none⟩ = some (.string ⟨#[]⟩) := (zah BK276.out 3).trans rfl; have hfz83_0 := zai BK276.out 0; have hfz83_1 := zai BK276.out 1; have hfz83_2 := zai BK276.out 2; have hfz83_3 := zai BK276.out 3; obtain ⟨Ao84, co84, eo84⟩ := Kd.zca HO272.out; subst eo84; have hnb85 := NB260_261.out; have hnc85 := NB261_260.out; have hcz86_0 : w80.cell? ⟨gb260, 0, none⟩ = some (.string a0_0) := (zah BK260.out 0).trans rfl; have hcz86_1 : w80.cell? ⟨gb260, 1, none⟩ = some (.string a0_1) := (zah BK260.out 1).trans rfl; have hcz86_2 : w80.cell? ⟨gb260, 2, none⟩ = some (.slice A0_2 l0_2.length c0_2) := (zah BK260.out 2).trans rfl; have hcz86_3 : w80.cell? ⟨gb260, 3, none⟩ = some (.string a0_3) := (zah BK260.out 3).trans rfl; have hfz86_0 := zai BK260.out 0; have hfz86_1 := zai BK260.out 1; have hfz86_2 := zai BK260.out 2; have hfz86_3 := zai BK260.out 3))
                go_ret
                exact ⟨by first | rfl | (simp [zaq, zap] <;> rfl) | (simp [*, zaq, zap] <;> rfl), by repeat (first | (with_reducible first | exact HB.out | apply zac | apply zaa | apply zab | refine zad ?_ GE260.out | refine zad ?_ GE261.out | refine zad ?_ GE276.out) | exact HB.out)⟩
              ·rw [if_neg c41] at H
               have c41b0 : (t274 == (t263.size : Int)) = false := beq_eq_false_iff_ne.mpr c41
               have c41b1 : (t274 != (t263.size : Int)) = true := bne_iff_ne.mpr c41
               obtain rfl := Option.some.inj H
               go_wp2_with (first | ((with_reducible refine zar (f := 6) rfl ?_); refine zbr (some 73) rfl rfl Tryz.func6 (by kernel_rfl) rfl #[.string (t263 ++ a2)] rfl (by (try simp only [List.map_toArray, List.map_cons, List.map_nil]); first | done | rfl | (simp only [List.length_drop, List.length_take]; rfl)) ?_; (with_reducible refine (zat.calls kj32 (t263 ++ a2) t268 t269 t270 t273 t274 t275 _ ?side1 A39.out).mono ?_); (case side1 => exact LaidM.below HT.out (by repeat (first | (with_reducible first | exact HB.out | apply zac | apply zaa | apply zab | refine zad ?_ GE260.out | refine zad ?_ GE261.out) | exact HB.out))); rintro e w87 ⟨v271, rfl, ho0, hb⟩; refine ⟨_, rfl, ?_⟩; have n0_ := Aside0.mk (Kd.zby ho0 (zan (by repeat (first | (with_reducible first | exact HB.out | apply zac | apply zaa | apply zab | refine zad ?_ GE260.out | refine zad ?_ GE261.out) | exact HB.out)))); have n1_ := Aside0.mk (zao (g := gb260) (o := .cells #[.string a0_0, .string a0_1, .slice A0_2 l0_2.length c0_2, .string a0_3] 25 (0, 0)) (by (with_reducible repeat (first | refine zae ?_ _ | refine zag ?_ | refine zaf ?_ _)); exact BK260.out) hb); have n2_ := Aside0.mk (zao (g := gb261) (o := .cells #[.int .i64 a1_0, .slice A1_1 l1_1.length c1_1, .string a1_2] 33 (0, 0)) (by (with_reducible repeat (first | refine zae ?_ _ | refine zag ?_ | refine zaf ?_ _)); exact BK261.out) hb); have n3_ := Aside0.mk (zam (by repeat (first | (with_reducible first | exact HB.out | apply zac | apply zaa | apply zab | refine zad ?_ GE260.out | refine zad ?_ GE261.out) | exact HB.out)) hb); clear BK260; clear BK261; clear HB; have HO272 := n0_; have BK260 := n1_; have BK261 := n2_; have HB := n3_; clear n0_ n1_ n2_ n3_; (try clear hb); (try clear hb2); (try clear hk); (try clear hi); (try clear ho0)) | ((with_reducible refine zbj (N := 11) rfl ?_); (try (refine zbi (by rfl) ?_; dsimp only)); refine zbf ?hg (N := 11) ?hd (cs := #[.string ⟨#[]⟩, .string ⟨#[]⟩, .slice none 0 0, .string ⟨#[]⟩]) (t := 25) ?hr ?_; (case hd => rfl); (case hg => rfl); (case hr => first | (go_simp; done) | (go_simp; rfl)); intro gb276 hg w88 hbox hb; have n0_ := Aside0.mk (Kd.zbl (by (with_reducible repeat (first | apply Kd.zbc | apply Kd.zbb | apply Kd.zbg)); exact HO272.out) hb); have n1_ := Aside0.mk (zao (g := gb260) (o := .cells #[.string a0_0, .string a0_1, .slice A0_2 l0_2.length c0_2, .string a0_3] 25 (0, 0)) (by (with_reducible repeat (first | refine zae ?_ _ | refine zag ?_ | refine zaf ?_ _)); exact BK260.out) hb); have n2_ := Aside0.mk (zao (g := gb261) (o := .cells #[.int .i64 a1_0, .slice A1_1 l1_1.length c1_1, .string a1_2] 33 (0, 0)) (by (with_reducible repeat (first | refine zae ?_ _ | refine zag ?_ | refine zaf ?_ _)); exact BK261.out) hb); have n3_ := Aside0.mk (zam (by repeat (first | (with_reducible first | exact HB.out | apply zac | apply zaa | apply zab | refine zad ?_ GE260.out | refine zad ?_ GE261.out) | exact HB.out)) hb); have n4_ := Aside0.mk (hbox); have n5_ := Aside0.mk ((by rw [hg]; exact (zan (by repeat (first | (with_reducible first | exact HB.out | apply zac | apply zaa | apply zab | refine zad ?_ GE260.out | refine zad ?_ GE261.out) | exact HB.out))) : w.heap.size ≤ gb276)); have n6_ := Aside0.mk ((by rw [hg]; exact (zan (by repeat (first | (with_reducible first | exact HB.out | apply zac | apply zaa | apply zab | refine zad ?_ GE260.out | refine zad ?_ GE261.out) | exact HB.out))) : w.heap.size ≤ gb276)); have n7_ := Aside0.mk ((by rw [hg]; exact Nat.ne_of_lt (zbv (g := gb260) (o := .cells #[.string a0_0, .string a0_1, .slice A0_2 l0_2.length c0_2, .string a0_3] 25 (0, 0)) (by (with_reducible repeat (first | refine zae ?_ _ | refine zag ?_ | refine zaf ?_ _)); exact BK260.out)) : gb260 ≠ gb276)); have n8_ := Aside0.mk ((by rw [hg]; exact Nat.ne_of_gt (zbv (g := gb260) (o := .cells #[.string a0_0, .string a0_1, .slice A0_2 l0_2.length c0_2, .string a0_3] 25 (0, 0)) (by (with_reducible repeat (first | refine zae ?_ _ | refine zag ?_ | refine zaf ?_ _)); exact BK260.out)) : gb276 ≠ gb260)); have n9_ := Aside0.mk ((by rw [hg]; exact Nat.ne_of_lt (zbv (g := gb261) (o := .cells #[.int .i64 a1_0, .slice A1_1 l1_1.length c1_1, .string a1_2] 33 (0, 0)) (by (with_reducible repeat (first | refine zae ?_ _ | refine zag ?_ | refine zaf ?_ _)); exact BK261.out)) : gb261 ≠ gb276)); have n10_ := Aside0.mk ((by rw [hg]; exact Nat.ne_of_gt (zbv (g := gb261) (o := .cells #[.int .i64 a1_0, .slice A1_1 l1_1.length c1_1, .string a1_2] 33 (0, 0)) (by (with_reducible repeat (first | refine zae ?_ _ | refine zag ?_ | refine zaf ?_ _)); exact BK261.out)) : gb276 ≠ gb261)); clear HO272; clear BK260; clear BK261; clear HB; have HO272 := n0_; have BK260 := n1_; have BK261 := n2_; have HB := n3_; have BK276 := n4_; have GW276 := n5_; have GE276 := n6_; have NB260_276 := n7_; have NB276_260 := n8_; have NB261_276 := n9_; have NB276_261 := n10_; clear n0_ n1_ n2_ n3_ n4_ n5_ n6_ n7_ n8_ n9_ n10_; clear hb hbox hg; have hnb89 := NB276_260.out; have hnc89 := NB260_276.out; have hnb90 := NB276_261.out; have hnc90 := NB261_276.out; have hcz91_0 : w88.cell? ⟨gb276, 0, none⟩ = some (.string ⟨#[]⟩) := (zah BK276.out 0).trans rfl; have hcz91_1 : w88.cell? ⟨gb276, 1, none⟩ = some (.string ⟨#[]⟩) := (zah BK276.out 1).trans rfl; have hcz91_2 : w88.cell? ⟨gb276, 2, none⟩ = some (.slice none 0 0) := (zah BK276.out 2).trans rfl; have hcz91_3 : w88.cell? ⟨gb276, 3, none⟩ = some (.string ⟨#[]⟩) := (zah BK276.out 3).trans rfl; have hfz91_0 := zai BK276.out 0; have hfz91_1 := zai BK276.out 1; have hfz91_2 := zai BK276.out 2; have hfz91_3 := zai BK276.out 3; obtain ⟨Ao92, co92, eo92⟩ := Kd.zca HO272.out; subst eo92))
               go_ret
               exact ⟨by first | rfl | (simp [zaq, zap] <;> rfl) | (simp [*, zaq, zap] <;> rfl), by repeat (first | (with_reducible first | exact HB.out | apply zac | apply zaa | apply zab | refine zad ?_ GE260.out | refine zad ?_ GE261.out | refine zad ?_ GE276.out) | exact HB.out)⟩
             ·rw [if_neg c40] at H
              have c40b0 : (t275 == 0) = false := beq_eq_false_iff_ne.mpr c40
              have c40b1 : (t275 != 0) = true := bne_iff_ne.mpr c40
              obtain rfl := Option.some.inj H
              go_wp2_with (first | ((with_reducible refine zar (f := 6) rfl ?_); refine zbr (some 73) rfl rfl Tryz.func6 (by kernel_rfl) rfl #[.string (t263 ++ a2)] rfl (by (try simp only [List.map_toArray, List.map_cons, List.map_nil]); first | done | rfl | (simp only [List.length_drop, List.length_take]; rfl)) ?_; (with_reducible refine (zat.calls kj32 (t263 ++ a2) t268 t269 t270 t273 t274 t275 _ ?side1 A39.out).mono ?_); (case side1 => exact LaidM.below HT.out (by repeat (first | (with_reducible first | exact HB.out | apply zac | apply zaa | apply zab | refine zad ?_ GE260.out | refine zad ?_ GE261.out) | exact HB.out))); rintro e w93 ⟨v271, rfl, ho0, hb⟩; refine ⟨_, rfl, ?_⟩; have n0_ := Aside0.mk (Kd.zby ho0 (zan (by repeat (first | (with_reducible first | exact HB.out | apply zac | apply zaa | apply zab | refine zad ?_ GE260.out | refine zad ?_ GE261.out) | exact HB.out)))); have n1_ := Aside0.mk (zao (g := gb260) (o := .cells #[.string a0_0, .string a0_1, .slice A0_2 l0_2.length c0_2, .string a0_3] 25 (0, 0)) (by (with_reducible repeat (first | refine zae ?_ _ | refine zag ?_ | refine zaf ?_ _)); exact BK260.out) hb); have n2_ := Aside0.mk (zao (g := gb261) (o := .cells #[.int .i64 a1_0, .slice A1_1 l1_1.length c1_1, .string a1_2] 33 (0, 0)) (by (with_reducible repeat (first | refine zae ?_ _ | refine zag ?_ | refine zaf ?_ _)); exact BK261.out) hb); have n3_ := Aside0.mk (zam (by repeat (first | (with_reducible first | exact HB.out | apply zac | apply zaa | apply zab | refine zad ?_ GE260.out | refine zad ?_ GE261.out) | exact HB.out)) hb); clear BK260; clear BK261; clear HB; have HO272 := n0_; have BK260 := n1_; have BK261 := n2_; have HB := n3_; clear n0_ n1_ n2_ n3_; (try clear hb); (try clear hb2); (try clear hk); (try clear hi); (try clear ho0)) | ((with_reducible refine zbj (N := 11) rfl ?_); (try (refine zbi (by rfl) ?_; dsimp only)); refine zbf ?hg (N := 11) ?hd (cs := #[.string ⟨#[]⟩, .string ⟨#[]⟩, .slice none 0 0, .string ⟨#[]⟩]) (t := 25) ?hr ?_; (case hd => rfl); (case hg => rfl); (case hr => first | (go_simp; done) | (go_simp; rfl)); intro gb276 hg w94 hbox hb; have n0_ := Aside0.mk (Kd.zbl (by (with_reducible repeat (first | apply Kd.zbc | apply Kd.zbb | apply Kd.zbg)); exact HO272.out) hb); have n1_ := Aside0.mk (zao (g := gb260) (o := .cells #[.string a0_0, .string a0_1, .slice A0_2 l0_2.length c0_2, .string a0_3] 25 (0, 0)) (by (with_reducible repeat (first | refine zae ?_ _ | refine zag ?_ | refine zaf ?_ _)); exact BK260.out) hb); have n2_ := Aside0.mk (zao (g := gb261) (o := .cells #[.int .i64 a1_0, .slice A1_1 l1_1.length c1_1, .string a1_2] 33 (0, 0)) (by (with_reducible repeat (first | refine zae ?_ _ | refine zag ?_ | refine zaf ?_ _)); exact BK261.out) hb); have n3_ := Aside0.mk (zam (by repeat (first | (with_reducible first | exact HB.out | apply zac | apply zaa | apply zab | refine zad ?_ GE260.out | refine zad ?_ GE261.out) | exact HB.out)) hb); have n4_ := Aside0.mk (hbox); have n5_ := Aside0.mk ((by rw [hg]; exact (zan (by repeat (first | (with_reducible first | exact HB.out | apply zac | apply zaa | apply zab | refine zad ?_ GE260.out | refine zad ?_ GE261.out) | exact HB.out))) : w.heap.size ≤ gb276)); have n6_ := Aside0.mk ((by rw [hg]; exact (zan (by repeat (first | (with_reducible first | exact HB.out | apply zac | apply zaa | apply zab | refine zad ?_ GE260.out | refine zad ?_ GE261.out) | exact HB.out))) : w.heap.size ≤ gb276)); have n7_ := Aside0.mk ((by rw [hg]; exact Nat.ne_of_lt (zbv (g := gb260) (o := .cells #[.string a0_0, .string a0_1, .slice A0_2 l0_2.length c0_2, .string a0_3] 25 (0, 0)) (by (with_reducible repeat (first | refine zae ?_ _ | refine zag ?_ | refine zaf ?_ _)); exact BK260.out)) : gb260 ≠ gb276)); have n8_ := Aside0.mk ((by rw [hg]; exact Nat.ne_of_gt (zbv (g := gb260) (o := .cells #[.string a0_0, .string a0_1, .slice A0_2 l0_2.length c0_2, .string a0_3] 25 (0, 0)) (by (with_reducible repeat (first | refine zae ?_ _ | refine zag ?_ | refine zaf ?_ _)); exact BK260.out)) : gb276 ≠ gb260)); have n9_ := Aside0.mk ((by rw [hg]; exact Nat.ne_of_lt (zbv (g := gb261) (o := .cells #[.int .i64 a1_0, .slice A1_1 l1_1.length c1_1, .string a1_2] 33 (0, 0)) (by (with_reducible repeat (first | refine zae ?_ _ | refine zag ?_ | refine zaf ?_ _)); exact BK261.out)) : gb261 ≠ gb276)); have n10_ := Aside0.mk ((by rw [hg]; exact Nat.ne_of_gt (zbv (g := gb261) (o := .cells #[.int .i64 a1_0, .slice A1_1 l1_1.length c1_1, .string a1_2] 33 (0, 0)) (by (with_reducible repeat (first | refine zae ?_ _ | refine zag ?_ | refine zaf ?_ _)); exact BK261.out)) : gb276 ≠ gb261)); clear HO272; clear BK260; clear BK261; clear HB; have HO272 := n0_; have BK260 := n1_; have BK261 := n2_; have HB := n3_; have BK276 := n4_; have GW276 := n5_; have GE276 := n6_; have NB260_276 := n7_; have NB276_260 := n8_; have NB261_276 := n9_; have NB276_261 := n10_; clear n0_ n1_ n2_ n3_ n4_ n5_ n6_ n7_ n8_ n9_ n10_; clear hb hbox hg; have hnb95 := NB276_260.out; have hnc95 := NB260_276.out; have hnb96 := NB276_261.out; have hnc96 := NB261_276.out; have hcz97_0 : w94.cell? ⟨gb276, 0, none⟩ = some (.string ⟨#[]⟩) := (zah BK276.out 0).trans rfl; have hcz97_1 : w94.cell? ⟨gb276, 1, none⟩ = some (.string ⟨#[]⟩) := (zah BK276.out 1).trans rfl; have hcz97_2 : w94.cell? ⟨gb276, 2, none⟩ = some (.slice none 0 0) := (zah BK276.out 2).trans rfl; have hcz97_3 : w94.cell? ⟨gb276, 3, none⟩ = some (.string ⟨#[]⟩) := (zah BK276.out 3).trans rfl; have hfz97_0 := zai BK276.out 0; have hfz97_1 := zai BK276.out 1; have hfz97_2 := zai BK276.out 2; have hfz97_3 := zai BK276.out 3; obtain ⟨Ao98, co98, eo98⟩ := Kd.zca HO272.out; subst eo98))
              go_ret
              exact ⟨by first | rfl | (simp [zaq, zap] <;> rfl) | (simp [*, zaq, zap] <;> rfl), by repeat (first | (with_reducible first | exact HB.out | apply zac | apply zaa | apply zab | refine zad ?_ GE260.out | refine zad ?_ GE261.out | refine zad ?_ GE276.out) | exact HB.out)⟩
            ·rw [if_neg c38] at H
             exact absurd H (by simp)
           ·rw [if_neg c37] at H
            have c37b0 : (x10_19 == 0) = false := beq_eq_false_iff_ne.mpr c37
            have c37b1 : (x10_19 != 0) = true := bne_iff_ne.mpr c37
            (first | rw [c37b0] | rw [c37b1] | (simp only [zbq, zbs]; rw [c37b0]) | skip)
            have H' := Aside0.mk H
            clear H
            go_wp2
            go_meet
            case rel => exact ⟨_, H', ⟨by have := HJ5.out; have := HJ19.out; have := HJ32.out; first | omega | exact Nat.le_refl _⟩, ⟨by (with_reducible repeat (first | refine zae ?_ _ | refine zag ?_ | refine zaf ?_ _)); exact BK260.out⟩, ⟨by (with_reducible repeat (first | refine zae ?_ _ | refine zag ?_ | refine zaf ?_ _)); exact BK261.out⟩, ⟨by repeat (first | (with_reducible first | exact HB.out | apply zac | apply zaa | apply zab | refine zad ?_ GE260.out | refine zad ?_ GE261.out) | exact HB.out)⟩⟩
          case rest =>
           clear HC36
           try clear c1
           try clear c2
           try clear p2
           try clear c3
           try clear c4
           try clear c5
           try clear c6
           try clear p6
           try clear c7
           try clear c8
           try clear c9
           try clear c10
           try clear c10b0
           try clear c11
           try clear c12
           try clear c13
           try clear c14
           try clear c17
           try clear c21
           try clear c25
           try clear c26
           try clear c26b0
           try clear c26b1
           try clear c26b2
           try clear c27
           try clear c27b0
           try clear c27b1
           try clear c27b2
           try clear c28
           try clear c28b0
           try clear c28b1
           try clear c28b2
           try clear c30
           try clear c34
           try clear c34b0
           try clear c34b1
           try clear c35
           try clear c37
           try clear c37b0
           try clear c37b1
           try clear c38
           try clear c38b0
           try clear c38b1
           try clear c38b2
           try clear c40
           try clear c40b0
           try clear c40b1
           try clear c41
           try clear c41b0
           try clear c41b1
           try clear c42
           try clear c42b0
           try clear c42b1
           try clear c43
           try clear c43b0
           try clear c43b1
           try clear c44
           try clear c44b0
           try clear c44b1
           try clear c46
           try clear c49
           try clear c50
           try clear c53
           try clear c57
           try clear c58
           try clear c61
           try clear p64
           try clear c65
           try clear c66
           try clear c69
           try clear c73
           try clear c74
           try clear c77
           try clear c81
           try clear c82
           try clear c85
           try clear c89
           try clear c90
           try clear c95
           try clear c96
           try clear hcz12_0
           try clear hcz12_1
           try clear hcz12_2
           try clear hcz12_3
           try clear hcz13_0
           try clear hcz13_1
           try clear hcz13_2
           try clear hcz15_0
           try clear hcz15_1
           try clear hcz15_2
           try clear hcz15_3
           try clear hcz16_0
           try clear hcz16_1
           try clear hcz16_2
           try clear hcz22_0
           try clear hcz22_1
           try clear hcz22_2
           try clear hcz22_3
           try clear hcz24_0
           try clear hcz24_1
           try clear hcz24_2
           try clear hcz24_3
           try clear hcz31_0
           try clear hcz31_1
           try clear hcz31_2
           try clear hcz31_3
           try clear hcz51_0
           try clear hcz51_1
           try clear hcz51_2
           try clear hcz51_3
           try clear hcz54_0
           try clear hcz54_1
           try clear hcz54_2
           try clear hcz54_3
           try clear hcz59_0
           try clear hcz59_1
           try clear hcz59_2
           try clear hcz59_3
           try clear hcz62_0
           try clear hcz62_1
           try clear hcz62_2
           try clear hcz62_3
           try clear hcz67_0
           try clear hcz67_1
           try clear hcz67_2
           try clear hcz67_3
           try clear hcz70_0
           try clear hcz70_1
           try clear hcz70_2
           try clear hcz70_3
           try clear hcz75_0
           try clear hcz75_1
           try clear hcz75_2
           try clear hcz75_3
           try clear hcz78_0
           try clear hcz78_1
           try clear hcz78_2
           try clear hcz78_3
           try clear hcz83_0
           try clear hcz83_1
           try clear hcz83_2
           try clear hcz83_3
           try clear hcz86_0
           try clear hcz86_1
           try clear hcz86_2
           try clear hcz86_3
           try clear hcz91_0
           try clear hcz91_1
           try clear hcz91_2
           try clear hcz91_3
           try clear hcz97_0
           try clear hcz97_1
           try clear hcz97_2
           try clear hcz97_3
           try clear hfz12_0
           try clear hfz12_1
           try clear hfz12_2
           try clear hfz12_3
           try clear hfz13_0
           try clear hfz13_1
           try clear hfz13_2
           try clear hfz15_0
           try clear hfz15_1
           try clear hfz15_2
           try clear hfz15_3
           try clear hfz16_0
           try clear hfz16_1
           try clear hfz16_2
           try clear hfz22_0
           try clear hfz22_1
           try clear hfz22_2
           try clear hfz22_3
           try clear hfz24_0
           try clear hfz24_1
           try clear hfz24_2
           try clear hfz24_3
           try clear hfz31_0
           try clear hfz31_1
           try clear hfz31_2
           try clear hfz31_3
           try clear hfz51_0
           try clear hfz51_1
           try clear hfz51_2
           try clear hfz51_3
           try clear hfz54_0
           try clear hfz54_1
           try clear hfz54_2
           try clear hfz54_3
           try clear hfz59_0
           try clear hfz59_1
           try clear hfz59_2
           try clear hfz59_3
           try clear hfz62_0
           try clear hfz62_1
           try clear hfz62_2
           try clear hfz62_3
           try clear hfz67_0
           try clear hfz67_1
           try clear hfz67_2
           try clear hfz67_3
           try clear hfz70_0
           try clear hfz70_1
           try clear hfz70_2
           try clear hfz70_3
           try clear hfz75_0
           try clear hfz75_1
           try clear hfz75_2
           try clear hfz75_3
           try clear hfz78_0
           try clear hfz78_1
           try clear hfz78_2
           try clear hfz78_3
           try clear hfz83_0
           try clear hfz83_1
           try clear hfz83_2
           try clear hfz83_3
           try clear hfz86_0
           try clear hfz86_1
           try clear hfz86_2
           try clear hfz86_3
           try clear hfz91_0
           try clear hfz91_1
           try clear hfz91_2
           try clear hfz91_3
           try clear hfz97_0
           try clear hfz97_1
           try clear hfz97_2
           try clear hfz97_3
           try clear p2
           try clear p6
           obtain ⟨kq, HA, HJ35, BK260, BK261, HB⟩ := hcut
           cases kq with
           | zero => exact absurd HA.out (by simp [zaj.j3])
           | succ kj35 =>
            have H := HA.out
            clear HA
            simp only [zaj.j3] at H
            replace H := Option.bind_eq_some_iff.mp H
            obtain ⟨⟨t278, t279⟩, A990, H⟩ := H
            replace H : (if a1_0 ≥ 100 then (zaj.j4 kj35 a2 (⟨#[]⟩ : ByteArray) 80 t278 t279 (decide (a1_0 ≤ 599)) a1_0 l1_1 a1_2) else (zaj.j4 kj35 a2 (⟨#[]⟩ : ByteArray) 80 t278 t279 false a1_0 l1_1 a1_2)) = some r := H
            have A99 := Aside0.mk A990
            clear A990
            have HC100 := Aside0.mk H
            clear H
            have hnb101 := NB261_260.out
            have hnc101 := NB260_261.out
            have hcz102_0 : wc.cell? ⟨gb261, 0, none⟩ = some (.int .i64 a1_0) := (zah BK261.out 0).trans rfl
            have hcz102_1 : wc.cell? ⟨gb261, 1, none⟩ = some (.slice A1_1 l1_1.length c1_1) := (zah BK261.out 1).trans rfl
            have hcz102_2 : wc.cell? ⟨gb261, 2, none⟩ = some (.string a1_2) := (zah BK261.out 2).trans rfl
            have hfz102_0 := zai BK261.out 0
            have hfz102_1 := zai BK261.out 1
            have hfz102_2 := zai BK261.out 2
            go_upto_region 17 with (first | ((with_reducible refine zar (f := 14) rfl ?_); refine zbr (some 116) rfl rfl Tryz.func14 (by kernel_rfl) rfl #[.agg #[.int .i64 a1_0, .slice A1_1 l1_1.length c1_1, .string a1_2]] rfl (by (try simp only [List.map_toArray, List.map_cons, List.map_nil]); first | done | rfl | (simp only [List.length_drop, List.length_take]; rfl)) ?_; (with_reducible refine (zas.calls kj35 a1_0 _ _ l1_1 a1_2 t278 t279 _ ?side1 ?side2 ?side3 A99.out).mono ?_); (case side1 => repeat (first | exact (Kd.zdf HR1_1.out HB.out) | (with_reducible refine Kd.zde ?_ _) | (with_reducible refine Kd.zdd ?_ _) | (with_reducible refine Kd.zdp ?_))); (case side2 => exact HC1_1.out); (case side3 => exact LaidM.below HT.out (by repeat (first | (with_reducible first | exact HB.out | apply zac | apply zaa | apply zab | refine zad ?_ GE260.out | refine zad ?_ GE261.out) | exact HB.out))); rintro e w103 ⟨rfl, hb⟩; refine ⟨_, rfl, ?_⟩; have n0_ := Aside0.mk (zao (g := gb260) (o := .cells #[.string a0_0, .string a0_1, .slice A0_2 l0_2.length c0_2, .string a0_3] 25 (0, 0)) (by (with_reducible repeat (first | refine zae ?_ _ | refine zag ?_ | refine zaf ?_ _)); exact BK260.out) hb); have n1_ := Aside0.mk (zao (g := gb261) (o := .cells #[.int .i64 a1_0, .slice A1_1 l1_1.length c1_1, .string a1_2] 33 (0, 0)) (by (with_reducible repeat (first | refine zae ?_ _ | refine zag ?_ | refine zaf ?_ _)); exact BK261.out) hb); have n2_ := Aside0.mk (zam (by repeat (first | (with_reducible first | exact HB.out | apply zac | apply zaa | apply zab | refine zad ?_ GE260.out | refine zad ?_ GE261.out) | exact HB.out)) hb); clear BK260; clear BK261; clear HB; have BK260 := n0_; have BK261 := n1_; have HB := n2_; clear n0_ n1_ n2_; (try clear hb); (try clear hb2); (try clear hk); (try clear hi)))
            (try simp only [Act.put, List.setIfInBounds_toArray, List.set_cons_zero, List.set_cons_succ])
            go_cut [126] (fun v126 wc => ∃ (kq : Nat) (x126_99 : Bool), v126 = .bool x126_99 ∧ Aside0 (zaj.j4 kq a2 (⟨#[]⟩ : ByteArray) 80 t278 t279 x126_99 a1_0 l1_1 a1_2 = some r) ∧ Aside0 (kq ≤ kj35) ∧ Aside0 (wc.heap[gb260]? = some (.cells #[.string a0_0, .string a0_1, (.slice A0_2 l0_2.length c0_2), .string a0_3] 25 (0, 0))) ∧ Aside0 (wc.heap[gb261]? = some (.cells #[.int .i64 a1_0, (.slice A1_1 l1_1.length c1_1), .string a1_2] 33 (0, 0))) ∧ Aside0 (Below w.heap.size w wc))
            case first => as_aux_lemma =>
             have H := HC100.out
             clear HC100
             by_cases c104 : a1_0 ≥ 100
             ·rw [if_pos c104] at H
              have c104b0 := decide_eq_true c104
              clear c104
              (first | rw [c104b0] | (simp only [zbq, zbs]; rw [c104b0]) | skip)
              have H' := Aside0.mk H
              clear H
              have hnb105 := NB261_260.out
              have hnc105 := NB260_261.out
              have hcz106_0 : w103.cell? ⟨gb261, 0, none⟩ = some (.int .i64 a1_0) := (zah BK261.out 0).trans rfl
              have hcz106_1 : w103.cell? ⟨gb261, 1, none⟩ = some (.slice A1_1 l1_1.length c1_1) := (zah BK261.out 1).trans rfl
              have hcz106_2 : w103.cell? ⟨gb261, 2, none⟩ = some (.string a1_2) := (zah BK261.out 2).trans rfl
              have hfz106_0 := zai BK261.out 0
              have hfz106_1 := zai BK261.out 1
              have hfz106_2 := zai BK261.out 2
              go_wp2
              go_meet
              case rel => exact ⟨_, (decide (a1_0 ≤ 599)), (by first | rfl | (simp; done) | (simp [*]; done)), H', ⟨by have := HJ5.out; have := HJ19.out; have := HJ32.out; have := HJ35.out; first | omega | exact Nat.le_refl _⟩, ⟨by (with_reducible repeat (first | refine zae ?_ _ | refine zag ?_ | refine zaf ?_ _)); exact BK260.out⟩, ⟨by (with_reducible repeat (first | refine zae ?_ _ | refine zag ?_ | refine zaf ?_ _)); exact BK261.out⟩, ⟨by repeat (first | (with_reducible first | exact HB.out | apply zac | apply zaa | apply zab | refine zad ?_ GE260.out | refine zad ?_ GE261.out) | exact HB.out)⟩⟩
             ·rw [if_neg c104] at H
              have c104b0 : decide (100 ≤ a1_0) = false := decide_eq_false c104
              clear c104
              (first | rw [c104b0] | (simp only [zbq, zbs]; rw [c104b0]) | skip)
              have H' := Aside0.mk H
              clear H
              have hnb107 := NB261_260.out
              have hnc107 := NB260_261.out
              have hcz108_0 : w103.cell? ⟨gb261, 0, none⟩ = some (.int .i64 a1_0) := (zah BK261.out 0).trans rfl
              have hcz108_1 : w103.cell? ⟨gb261, 1, none⟩ = some (.slice A1_1 l1_1.length c1_1) := (zah BK261.out 1).trans rfl
              have hcz108_2 : w103.cell? ⟨gb261, 2, none⟩ = some (.string a1_2) := (zah BK261.out 2).trans rfl
              have hfz108_0 := zai BK261.out 0
              have hfz108_1 := zai BK261.out 1
              have hfz108_2 := zai BK261.out 2
              go_wp2
              go_meet
              case rel => exact ⟨_, (false), (by first | rfl | (simp; done) | (simp [*]; done)), H', ⟨by have := HJ5.out; have := HJ19.out; have := HJ32.out; have := HJ35.out; first | omega | exact Nat.le_refl _⟩, ⟨by (with_reducible repeat (first | refine zae ?_ _ | refine zag ?_ | refine zaf ?_ _)); exact BK260.out⟩, ⟨by (with_reducible repeat (first | refine zae ?_ _ | refine zag ?_ | refine zaf ?_ _)); exact BK261.out⟩, ⟨by repeat (first | (with_reducible first | exact HB.out | apply zac | apply zaa | apply zab | refine zad ?_ GE260.out | refine zad ?_ GE261.out) | exact HB.out)⟩⟩
            case rest =>
             clear HC100
             try clear c1
             try clear c2
             try clear p2
             try clear c3
             try clear c4
             try clear c5
             try clear c6
             try clear p6
             try clear c7
             try clear c8
             try clear c9
             try clear c10
             try clear c10b0
             try clear c11
             try clear c12
             try clear c13
             try clear c14
             try clear c17
             try clear c21
             try clear c25
             try clear c26
             try clear c26b0
             try clear c26b1
             try clear c26b2
             try clear c27
             try clear c27b0
             try clear c27b1
             try clear c27b2
             try clear c28
             try clear c28b0
             try clear c28b1
             try clear c28b2
             try clear c30
             try clear c34
             try clear c34b0
             try clear c34b1
             try clear c35
             try clear c37
             try clear c37b0
             try clear c37b1
             try clear c38
             try clear c38b0
             try clear c38b1
             try clear c38b2
             try clear c40
             try clear c40b0
             try clear c40b1
             try clear c41
             try clear c41b0
             try clear c41b1
             try clear c42
             try clear c42b0
             try clear c42b1
             try clear c43
             try clear c43b0
             try clear c43b1
             try clear c44
             try clear c44b0
             try clear c44b1
             try clear c46
             try clear c49
             try clear c50
             try clear c53
             try clear c57
             try clear c58
             try clear c61
             try clear p64
             try clear c65
             try clear c66
             try clear c69
             try clear c73
             try clear c74
             try clear c77
             try clear c81
             try clear c82
             try clear c85
             try clear c89
             try clear c90
             try clear c95
             try clear c96
             try clear c101
             try clear c104
             try clear c104b0
             try clear c105
             try clear c107
             try clear hcz102_0
             try clear hcz102_1
             try clear hcz102_2
             try clear hcz106_0
             try clear hcz106_1
             try clear hcz106_2
             try clear hcz108_0
             try clear hcz108_1
             try clear hcz108_2
             try clear hcz12_0
             try clear hcz12_1
             try clear hcz12_2
             try clear hcz12_3
             try clear hcz13_0
             try clear hcz13_1
             try clear hcz13_2
             try clear hcz15_0
             try clear hcz15_1
             try clear hcz15_2
             try clear hcz15_3
             try clear hcz16_0
             try clear hcz16_1
             try clear hcz16_2
             try clear hcz22_0
             try clear hcz22_1
             try clear hcz22_2
             try clear hcz22_3
             try clear hcz24_0
             try clear hcz24_1
             try clear hcz24_2
             try clear hcz24_3
             try clear hcz31_0
             try clear hcz31_1
             try clear hcz31_2
             try clear hcz31_3
             try clear hcz51_0
             try clear hcz51_1
             try clear hcz51_2
             try clear hcz51_3
             try clear hcz54_0
             try clear hcz54_1
             try clear hcz54_2
             try clear hcz54_3
             try clear hcz59_0
             try clear hcz59_1
             try clear hcz59_2
             try clear hcz59_3
             try clear hcz62_0
             try clear hcz62_1
             try clear hcz62_2
             try clear hcz62_3
             try clear hcz67_0
             try clear hcz67_1
             try clear hcz67_2
             try clear hcz67_3
             try clear hcz70_0
             try clear hcz70_1
             try clear hcz70_2
             try clear hcz70_3
             try clear hcz75_0
             try clear hcz75_1
             try clear hcz75_2
             try clear hcz75_3
             try clear hcz78_0
             try clear hcz78_1
             try clear hcz78_2
             try clear hcz78_3
             try clear hcz83_0
             try clear hcz83_1
             try clear hcz83_2
             try clear hcz83_3
             try clear hcz86_0
             try clear hcz86_1
             try clear hcz86_2
             try clear hcz86_3
             try clear hcz91_0
             try clear hcz91_1
             try clear hcz91_2
             try clear hcz91_3
             try clear hcz97_0
             try clear hcz97_1
             try clear hcz97_2
             try clear hcz97_3
             try clear hfz102_0
             try clear hfz102_1
             try clear hfz102_2
             try clear hfz106_0
             try clear hfz106_1
             try clear hfz106_2
             try clear hfz108_0
             try clear hfz108_1
             try clear hfz108_2
             try clear hfz12_0
             try clear hfz12_1
             try clear hfz12_2
             try clear hfz12_3
             try clear hfz13_0
             try clear hfz13_1
             try clear hfz13_2
             try clear hfz15_0
             try clear hfz15_1
             try clear hfz15_2
             try clear hfz15_3
             try clear hfz16_0
             try clear hfz16_1
             try clear hfz16_2
             try clear hfz22_0
             try clear hfz22_1
             try clear hfz22_2
             try clear hfz22_3
             try clear hfz24_0
             try clear hfz24_1
             try clear hfz24_2
             try clear hfz24_3
             try clear hfz31_0
             try clear hfz31_1
             try clear hfz31_2
             try clear hfz31_3
             try clear hfz51_0
             try clear hfz51_1
             try clear hfz51_2
             try clear hfz51_3
             try clear hfz54_0
             try clear hfz54_1
             try clear hfz54_2
             try clear hfz54_3
             try clear hfz59_0
             try clear hfz59_1
             try clear hfz59_2
             try clear hfz59_3
             try clear hfz62_0
             try clear hfz62_1
             try clear hfz62_2
             try clear hfz62_3
             try clear hfz67_0
             try clear hfz67_1
             try clear hfz67_2
             try clear hfz67_3
             try clear hfz70_0
             try clear hfz70_1
             try clear hfz70_2
             try clear hfz70_3
             try clear hfz75_0
             try clear hfz75_1
             try clear hfz75_2
             try clear hfz75_3
             try clear hfz78_0
             try clear hfz78_1
             try clear hfz78_2
             try clear hfz78_3
             try clear hfz83_0
             try clear hfz83_1
             try clear hfz83_2
             try clear hfz83_3
             try clear hfz86_0
             try clear hfz86_1
             try clear hfz86_2
             try clear hfz86_3
             try clear hfz91_0
             try clear hfz91_1
             try clear hfz91_2
             try clear hfz91_3
             try clear hfz97_0
             try clear hfz97_1
             try clear hfz97_2
             try clear hfz97_3
             try clear p2
             try clear p6
             try clear p64
             obtain ⟨kq, x126_99, rfl, HA, HJ99, BK260, BK261, HB⟩ := hcut
             cases kq with
             | zero => exact absurd HA.out (by simp [zaj.j4])
             | succ kj99 =>
              have H := HA.out
              clear HA
              simp only [zaj.j4] at H
              have HC109 := Aside0.mk H
              clear H
              go_upto_if 126 with (fail)
              go_cut [9, 10] (fun v9 v10 wc => ∃ (kq : Nat) (x9_108 : ByteArray) (x10_108 : Int), v9 = .string x9_108 ∧ v10 = .int .i64 x10_108 ∧ Aside0 (zaj.j5 kq a2 x9_108 x10_108 t278 t279 a1_0 l1_1 a1_2 = some r) ∧ Aside0 (kq ≤ kj99) ∧ Aside0 (wc.heap[gb260]? = some (.cells #[.string a0_0, .string a0_1, (.slice A0_2 l0_2.length c0_2), .string a0_3] 25 (0, 0))) ∧ Aside0 (wc.heap[gb261]? = some (.cells #[.int .i64 a1_0, (.slice A1_1 l1_1.length c1_1), .string a1_2] 33 (0, 0))) ∧ Aside0 (Below w.heap.size w wc))
              case first => as_aux_lemma =>
               have H := HC109.out
               clear HC109
               by_cases c110 : x126_99 = true
               ·subst c110
                have H1 : ((zbh.f kj99 (IntKind.u64.wrap (a1_0))).bind fun t280 => (if 9 + t280.size ≤ 9223372036854775807 then (if ((⟨#[72, 84, 84, 80, 47, 49, 46, 49, 32]⟩ : ByteArray) ++ t280).size + 1 ≤ 9223372036854775807 then ((zcf.f a1_0).bind fun t281 => (if (((⟨#[72, 84, 84, 80, 47, 49, 46, 49, 32]⟩ : ByteArray) ++ t280) ++ (⟨#[32]⟩ : ByteArray)).size + t281.size ≤ 9223372036854775807 then ((zal.f kj99 ((((⟨#[72, 84, 84, 80, 47, 49, 46, 49, 32]⟩ : ByteArray) ++ t280) ++ (⟨#[32]⟩ : ByteArray)) ++ t281) l1_1 a1_2).bind fun bt282 => (zaj.j5 kj99 a2 bt282.1 bt282.2 t278 t279 a1_0 l1_1 a1_2)) else (none))) else (none)) else (none))) = some r := by rw [if_pos rfl] at H; exact H
                clear H
                have H := H1
                clear H1
                replace H := Option.bind_eq_some_iff.mp H
                obtain ⟨t280, A1110, H⟩ := H
                try dsimp only at H
                have A111 := Aside0.mk A1110
                clear A1110
                by_cases c112 : 9 + t280.size ≤ 9223372036854775807
                ·rw [if_pos c112] at H
                 have c112b0 := eq_true c112
                 have c112b1 := decide_eq_true c112
                 try have c112b2 := eq_false (Nat.not_lt.2 c112)
                 by_cases c113 : ((⟨#[72, 84, 84, 80, 47, 49, 46, 49, 32]⟩ : ByteArray) ++ t280).size + 1 ≤ 9223372036854775807
                 ·rw [if_pos c113] at H
                  have c113e := c113
                  (try simp only [ByteArray.size_append, gt_iff_lt, ge_iff_le, show (⟨#[72, 84, 84, 80, 47, 49, 46, 49, 32]⟩ : ByteArray).size = 9 from rfl] at c113e)
                  (try simp only [Int.natCast_add, Int.cast_ofNat_Int] at c113e)
                  (try (have c113e2 := decide_eq_true c113e))
                  (try replace c113e := eq_true c113e)
                  have c113b0 := eq_true c113
                  have c113b1 := decide_eq_true c113
                  try have c113b2 := eq_false (Nat.not_lt.2 c113)
                  have c113b8 : (9223372036854775807 < 9 + t280.size + 1) = False := by have h_ := c113; simp only [ByteArray.size_append] at h_; exact eq_false (Nat.not_lt.2 h_)
                  replace H := Option.bind_eq_some_iff.mp H
                  obtain ⟨t281, A1140, H⟩ := H
                  try dsimp only at H
                  have A114 := Aside0.mk A1140
                  clear A1140
                  by_cases c115 : (((⟨#[72, 84, 84, 80, 47, 49, 46, 49, 32]⟩ : ByteArray) ++ t280) ++ (⟨#[32]⟩ : ByteArray)).size + t281.size ≤ 9223372036854775807
                  ·rw [if_pos c115] at H
                   have c115e := c115
                   (try simp only [ByteArray.size_append, gt_iff_lt, ge_iff_le, show (⟨#[32]⟩ : ByteArray).size = 1 from rfl, show (⟨#[72, 84, 84, 80, 47, 49, 46, 49, 32]⟩ : ByteArray).size = 9 from rfl] at c115e)
                   (try simp only [Int.natCast_add, Int.cast_ofNat_Int] at c115e)
                   (try (have c115e2 := decide_eq_true c115e))
                   (try replace c115e := eq_true c115e)
                   have c115b0 := eq_true c115
                   have c115b1 := decide_eq_true c115
                   try have c115b2 := eq_false (Nat.not_lt.2 c115)
                   have c115b8 : (9223372036854775807 < 9 + t280.size + 1 + t281.size) = False := by have h_ := c115; simp only [ByteArray.size_append] at h_; exact eq_false (Nat.not_lt.2 h_)
                   replace H := Option.bind_eq_some_iff.mp H
                   obtain ⟨⟨t282, t283⟩, A1160, H⟩ := H
                   replace H : (zaj.j5 kj99 a2 t282 t283 t278 t279 a1_0 l1_1 a1_2) = some r := H
                   have A116 := Aside0.mk A1160
                   clear A1160
                   have H' := Aside0.mk H
                   clear H
                   try go_wp2
                   have n0_ := Aside0.mk (zag BK260.out)
                   have n1_ := Aside0.mk (zag BK261.out)
                   have n2_ := Aside0.mk (zab HB.out)
                   clear BK260
                   clear BK261
                   clear HB
                   have BK260 := n0_
                   have BK261 := n1_
                   have HB := n2_
                   clear n0_ n1_ n2_
                   refine zda (n := 20) (S := fun w' => w'.cell? ⟨gb261, 0, none⟩ = some (.int .i64 a1_0) ∧ w'.cell? ⟨gb261, 1, none⟩ = some (.slice A1_1 l1_1.length c1_1) ∧ w'.cell? ⟨gb261, 2, none⟩ = some (.string a1_2)) (ds := []) (bm 20 0) (by kernel_rfl) rfl rfl ⟨(zah BK261.out 0).trans rfl, (zah BK261.out 1).trans rfl, (zah BK261.out 2).trans rfl⟩ (fun hHeld => ?_); refine zci zaj.tab18 zaj.bits18 (fun HT_ HW_ => ?_)
                   generalize wc.drew = w117 at BK260 BK261 HB hHeld ⊢
                   refine pv_ HT_ 0 (bm 20 1) ?_
                   refine pv_ HT_ 6 (bm 20 65) ?_
                   refine pv_ HT_ 10 (bm 20 1089) ?_
                   refine pv_ HT_ 12 (bm 20 5185) ?_
                   refine zcn (i := 1) (N := some 129) (v := ?_) (a' := ?_) (bm 20 5187) rfl rfl (zbk HT_.out HW_.out (by kernel_rfl)) (fun _ _ _ h => h) (Or.inl ⟨by rfl, ?_⟩) hHeld ?_ ?_
                   rotate_left
                   ·rintro w' ⟨s0, s1, s2⟩
                    go_simp
                    with_reducible rfl
                   rotate_left
                   ·simp only [Act.put, List.setIfInBounds_toArray, List.set_cons_zero, List.set_cons_succ, zbq, zbs]
                    rfl
                   refine pv_ HT_ 2 (bm 20 5191) ?_
                   refine zcn (i := 7) (N := some 135) (v := ?_) (a' := ?_) (bm 20 5319) rfl rfl (zbk HT_.out HW_.out (by kernel_rfl)) (fun _ _ _ h => h) (Or.inl ⟨by rfl, ?_⟩) hHeld ?_ ?_
                   rotate_left
                   ·rintro w' ⟨s0, s1, s2⟩
                    go_simp
                    with_reducible rfl
                   rotate_left
                   ·simp only [Act.put, List.setIfInBounds_toArray, List.set_cons_zero, List.set_cons_succ, zbq, zbs]
                    rfl
                   refine zcn (i := 11) (N := some 139) (v := ?_) (a' := ?_) (bm 20 7367) rfl rfl (zbk HT_.out HW_.out (by kernel_rfl)) (fun _ _ _ h => h) (Or.inl ⟨by rfl, ?_⟩) hHeld ?_ ?_
                   rotate_left
                   ·rintro w' ⟨s0, s1, s2⟩
                    go_simp
                    with_reducible rfl
                   rotate_left
                   ·simp only [Act.put, List.setIfInBounds_toArray, List.set_cons_zero, List.set_cons_succ, zbq, zbs]
                    rfl
                   refine zcn (i := 13) (N := some 141) (v := ?_) (a' := ?_) (bm 20 15559) rfl rfl (zbk HT_.out HW_.out (by kernel_rfl)) (fun _ _ _ h => h) (Or.inl ⟨by rfl, ?_⟩) hHeld ?_ ?_
                   rotate_left
                   ·rintro w' ⟨s0, s1, s2⟩
                    go_simp
                    with_reducible rfl
                   rotate_left
                   ·simp only [Act.put, List.setIfInBounds_toArray, List.set_cons_zero, List.set_cons_succ, zbq, zbs]
                    rfl
                   refine one_ (i := 3) (N := some 131) (bm 20 15567) rfl rfl (zcg HT_.out (by kernel_rfl)) (by decide) (fun K hK => ?_)
                   refine zcw Tryz.func15 (by kernel_rfl) rfl #[.int .u64 (IntKind.u64.wrap (a1_0))] (by rfl) rfl rfl (by (try simp only [List.map_toArray, List.map_cons, List.map_nil]); first | done | rfl | (simp only [List.length_drop, List.length_take]; rfl)) ?_
                   with_reducible refine (zbh.calls kj99 (IntKind.u64.wrap (a1_0)) t280 _ ?side1 A111.out).mono ?_
                   (case side1 => exact LaidM.below HT.out (by repeat (first | (with_reducible first | exact HB.out | apply zac | apply zaa | apply zab | refine zad ?_ GE260.out | refine zad ?_ GE261.out) | exact HB.out)))
                   rintro e w118 ⟨rfl, hb⟩
                   refine ⟨_, rfl, ?_⟩
                   have n0_ := Aside0.mk (zao (g := gb260) (o := .cells #[.string a0_0, .string a0_1, .slice A0_2 l0_2.length c0_2, .string a0_3] 25 (0, 0)) (by (with_reducible repeat (first | refine zae ?_ _ | refine zag ?_ | refine zaf ?_ _)); exact BK260.out) hb)
                   have n1_ := Aside0.mk (zao (g := gb261) (o := .cells #[.int .i64 a1_0, .slice A1_1 l1_1.length c1_1, .string a1_2] 33 (0, 0)) (by (with_reducible repeat (first | refine zae ?_ _ | refine zag ?_ | refine zaf ?_ _)); exact BK261.out) hb)
                   have n2_ := Aside0.mk (zam (by repeat (first | (with_reducible first | exact HB.out | apply zac | apply zaa | apply zab | refine zad ?_ GE260.out | refine zad ?_ GE261.out) | exact HB.out)) hb)
                   clear BK260
                   clear BK261
                   clear HB
                   have BK260 := n0_
                   have BK261 := n1_
                   have HB := n2_
                   clear n0_ n1_ n2_
                   (try clear hb)
                   (try clear hb2)
                   (try clear hk)
                   (try clear hi)
                   refine hK.out _ _ ⟨(zah BK261.out 0).trans rfl, (zah BK261.out 1).trans rfl, (zah BK261.out 2).trans rfl⟩ (fun hHeld => ?_)
                   clear hK K
                   refine zcv (a' := ?_) ?_ ?_
                   rotate_left
                   ·show Act.put _ (some 131) _ = _
                    simp only [Act.put, List.setIfInBounds_toArray, List.set_cons_zero, List.set_cons_succ, zbq, zbs]
                    rfl
                   refine pv_ HT_ 4 (bm 20 15583) ?_
                   refine pv_ HT_ 5 (bm 20 15615) ?_
                   refine one_ (i := 8) (N := some 136) (bm 20 15871) rfl rfl (zcg HT_.out (by kernel_rfl)) (by decide) (fun K hK => ?_)
                   refine zcw Tryz.func16 (by kernel_rfl) rfl #[.int .i64 a1_0] (by rfl) rfl rfl (by (try simp only [List.map_toArray, List.map_cons, List.map_nil]); first | done | rfl | (simp only [List.length_drop, List.length_take]; rfl)) ?_
                   with_reducible refine (zcf.calls a1_0 t281 _ A114.out).mono ?_
                   rintro e w' ⟨rfl, ⟨nd, rfl⟩⟩
                   refine ⟨_, rfl, ?_⟩
                   refine hK.out _ _ ⟨(zah BK261.out 0).trans rfl, (zah BK261.out 1).trans rfl, (zah BK261.out 2).trans rfl⟩ (fun hHeld => ?_)
                   clear hK K
                   refine zcv (a' := ?_) ?_ ?_
                   rotate_left
                   ·show Act.put _ (some 136) _ = _
                    simp only [Act.put, List.setIfInBounds_toArray, List.set_cons_zero, List.set_cons_succ, zbq, zbs]
                    rfl
                   refine pv_ HT_ 9 (bm 20 16383) ?_
                   refine one_ (i := 14) (N := some 142) (bm 20 32767) rfl rfl (zcg HT_.out (by kernel_rfl)) (by decide) (fun K hK => ?_)
                   refine zcw Tryz.func13 (by kernel_rfl) rfl #[.string ((((⟨#[72, 84, 84, 80, 47, 49, 46, 49, 32]⟩ : ByteArray) ++ t280) ++ (⟨#[32]⟩ : ByteArray)) ++ t281), .slice A1_1 l1_1.length c1_1, .string a1_2] (by rfl) rfl rfl (by (try simp only [List.map_toArray, List.map_cons, List.map_nil]); first | done | rfl | (simp only [List.length_drop, List.length_take]; rfl)) ?_
                   with_reducible refine (zal.calls kj99 ((((⟨#[72, 84, 84, 80, 47, 49, 46, 49, 32]⟩ : ByteArray) ++ t280) ++ (⟨#[32]⟩ : ByteArray)) ++ t281) _ _ l1_1 a1_2 t282 t283 _ ?side1 ?side2 ?side3 A116.out).mono ?_
                   (case side1 => repeat (first | exact (Kd.zdf HR1_1.out (by repeat (first | (with_reducible first | exact HB.out | apply zac | apply zaa | apply zab | refine zad ?_ GE260.out | refine zad ?_ GE261.out) | exact HB.out))) | (with_reducible refine Kd.zde ?_ _) | (with_reducible refine Kd.zdd ?_ _) | (with_reducible refine Kd.zdp ?_)))
                   (case side2 => exact HC1_1.out)
                   (case side3 => exact LaidM.below HT.out (by repeat (first | (with_reducible first | exact HB.out | apply zac | apply zaa | apply zab | refine zad ?_ GE260.out | refine zad ?_ GE261.out) | exact HB.out)))
                   rintro e w119 ⟨rfl, hb⟩
                   refine ⟨_, rfl, ?_⟩
                   have n0_ := Aside0.mk (zao (g := gb260) (o := .cells #[.string a0_0, .string a0_1, .slice A0_2 l0_2.length c0_2, .string a0_3] 25 (0, 0)) (by (with_reducible repeat (first | refine zae ?_ _ | refine zag ?_ | refine zaf ?_ _)); exact BK260.out) hb)
                   have n1_ := Aside0.mk (zao (g := gb261) (o := .cells #[.int .i64 a1_0, .slice A1_1 l1_1.length c1_1, .string a1_2] 33 (0, 0)) (by (with_reducible repeat (first | refine zae ?_ _ | refine zag ?_ | refine zaf ?_ _)); exact BK261.out) hb)
                   have n2_ := Aside0.mk (zam (by repeat (first | (with_reducible first | exact HB.out | apply zac | apply zaa | apply zab | refine zad ?_ GE260.out | refine zad ?_ GE261.out) | exact HB.out)) hb)
                   clear BK260
                   clear BK261
                   clear HB
                   have BK260 := n0_
                   have BK261 := n1_
                   have HB := n2_
                   clear n0_ n1_ n2_
                   (try clear hb)
                   (try clear hb2)
                   (try clear hk)
                   (try clear hi)
                   refine hK.out _ _ ⟨(zah BK261.out 0).trans rfl, (zah BK261.out 1).trans rfl, (zah BK261.out 2).trans rfl⟩ (fun hHeld => ?_)
                   clear hK K
                   refine zcv (a' := ?_) ?_ ?_
                   rotate_left
                   ·show Act.put _ (some 142) _ = _
                    simp only [Act.put, List.setIfInBounds_toArray, List.set_cons_zero, List.set_cons_succ, zbq, zbs]
                    rfl
                   refine pv_ HT_ 15 (bm 20 65535) ?_
                   refine pv_ HT_ 16 (bm 20 131071) ?_
                   refine pv_ HT_ 17 (bm 20 262143) ?_
                   refine pv_ HT_ 18 (bm 20 524287) ?_
                   refine pv_ HT_ 19 (bm 20 1048575) ?_
                   refine zdu (zcu HT_.out (by kernel_rfl)) ?_
                   try go_wp2
                   go_meet
                   case rel => exact ⟨_, (t282), (t283), (by first | rfl | (simp; done) | (simp [*]; done)), (by first | rfl | (simp; done) | (simp [*]; done)), H', ⟨by have := HJ5.out; have := HJ19.out; have := HJ32.out; have := HJ35.out; have := HJ99.out; first | omega | exact Nat.le_refl _⟩, ⟨by (with_reducible repeat (first | refine zae ?_ _ | refine zag ?_ | refine zaf ?_ _)); exact BK260.out⟩, ⟨by (with_reducible repeat (first | refine zae ?_ _ | refine zag ?_ | refine zaf ?_ _)); exact BK261.out⟩, ⟨by repeat (first | (with_reducible first | exact HB.out | apply zac | apply zaa | apply zab | refine zad ?_ GE260.out | refine zad ?_ GE261.out) | exact HB.out)⟩⟩
                  ·rw [if_neg c115] at H
                   have c115e := c115
                   (try simp only [ByteArray.size_append, gt_iff_lt, ge_iff_le, show (⟨#[32]⟩ : ByteArray).size = 1 from rfl, show (⟨#[72, 84, 84, 80, 47, 49, 46, 49, 32]⟩ : ByteArray).size = 9 from rfl] at c115e)
                   (try simp only [Int.natCast_add, Int.cast_ofNat_Int] at c115e)
                   (try (have c115e2 := decide_eq_false c115e))
                   (try replace c115e := eq_false c115e)
                   exact absurd H (by simp)
                 ·rw [if_neg c113] at H
                  have c113e := c113
                  (try simp only [ByteArray.size_append, gt_iff_lt, ge_iff_le, show (⟨#[72, 84, 84, 80, 47, 49, 46, 49, 32]⟩ : ByteArray).size = 9 from rfl] at c113e)
                  (try simp only [Int.natCast_add, Int.cast_ofNat_Int] at c113e)
                  (try (have c113e2 := decide_eq_false c113e))
                  (try replace c113e := eq_false c113e)
                  exact absurd H (by simp)
                ·rw [if_neg c112] at H
                 exact absurd H (by simp)
               ·replace c110 := Bool.eq_false_iff.mpr c110
                subst c110
                have H1 : (zaj.j5 kj99 a2 (⟨#[]⟩ : ByteArray) 80 t278 t279 a1_0 l1_1 a1_2) = some r := by rw [if_neg (show ¬ (false = true) by decide)] at H; exact H
                clear H
                have H := H1
                clear H1
                have H' := Aside0.mk H
                clear H
                go_wp2
                go_meet
                case rel => exact ⟨_, ((⟨#[]⟩ : ByteArray)), (80), (by first | rfl | (simp; done) | (simp [*]; done)), (by first | rfl | (simp; done) | (simp [*]; done)), H', ⟨by have := HJ5.out; have := HJ19.out; have := HJ32.out; have := HJ35.out; have := HJ99.out; first | omega | exact Nat.le_refl _⟩, ⟨by (with_reducible repeat (first | refine zae ?_ _ | refine zag ?_ | refine zaf ?_ _)); exact BK260.out⟩, ⟨by (with_reducible repeat (first | refine zae ?_ _ | refine zag ?_ | refine zaf ?_ _)); exact BK261.out⟩, ⟨by repeat (first | (with_reducible first | exact HB.out | apply zac | apply zaa | apply zab | refine zad ?_ GE260.out | refine zad ?_ GE261.out) | exact HB.out)⟩⟩
              case rest =>
               clear HC109
               try clear c1
               try clear c2
               try clear p2
               try clear c3
               try clear c4
               try clear c5
               try clear c6
               try clear p6
               try clear c7
               try clear c8
               try clear c9
               try clear c10
               try clear c10b0
               try clear c11
               try clear c12
               try clear c13
               try clear c14
               try clear c15
               try clear c16
               try clear c17
               try clear c21
               try clear c25
               try clear c26
               try clear c26b0
               try clear c26b1
               try clear c26b2
               try clear c27
               try clear c27b0
               try clear c27b1
               try clear c27b2
               try clear c28
               try clear c28b0
               try clear c28b1
               try clear c28b2
               try clear c30
               try clear c34
               try clear c34b0
               try clear c34b1
               try clear c35
               try clear c37
               try clear c37b0
               try clear c37b1
               try clear c38
               try clear c38b0
               try clear c38b1
               try clear c38b2
               try clear c40
               try clear c40b0
               try clear c40b1
               try clear c41
               try clear c41b0
               try clear c41b1
               try clear c42
               try clear c42b0
               try clear c42b1
               try clear c43
               try clear c43b0
               try clear c43b1
               try clear c44
               try clear c44b0
               try clear c44b1
               try clear c46
               try clear c49
               try clear c50
               try clear c53
               try clear c57
               try clear c58
               try clear c61
               try clear p64
               try clear c65
               try clear c66
               try clear c69
               try clear c73
               try clear c74
               try clear c77
               try clear c81
               try clear c82
               try clear c85
               try clear c89
               try clear c90
               try clear c95
               try clear c96
               try clear c101
               try clear c104
               try clear c104b0
               try clear c105
               try clear c107
               try clear c110
               try clear c112
               try clear c112b0
               try clear c112b1
               try clear c112b2
               try clear c113
               try clear c113b0
               try clear c113b1
               try clear c113b2
               try clear c115
               try clear c115b0
               try clear c115b1
               try clear c115b2
               try clear hcz102_0
               try clear hcz102_1
               try clear hcz102_2
               try clear hcz106_0
               try clear hcz106_1
               try clear hcz106_2
               try clear hcz108_0
               try clear hcz108_1
               try clear hcz108_2
               try clear hcz12_0
               try clear hcz12_1
               try clear hcz12_2
               try clear hcz12_3
               try clear hcz13_0
               try clear hcz13_1
               try clear hcz13_2
               try clear hcz15_0
               try clear hcz15_1
               try clear hcz15_2
               try clear hcz15_3
               try clear hcz16_0
               try clear hcz16_1
               try clear hcz16_2
               try clear hcz22_0
               try clear hcz22_1
               try clear hcz22_2
               try clear hcz22_3
               try clear hcz24_0
               try clear hcz24_1
               try clear hcz24_2
               try clear hcz24_3
               try clear hcz31_0
               try clear hcz31_1
               try clear hcz31_2
               try clear hcz31_3
               try clear hcz51_0
               try clear hcz51_1
               try clear hcz51_2
               try clear hcz51_3
               try clear hcz54_0
               try clear hcz54_1
               try clear hcz54_2
               try clear hcz54_3
               try clear hcz59_0
               try clear hcz59_1
               try clear hcz59_2
               try clear hcz59_3
               try clear hcz62_0
               try clear hcz62_1
               try clear hcz62_2
               try clear hcz62_3
               try clear hcz67_0
               try clear hcz67_1
               try clear hcz67_2
               try clear hcz67_3
               try clear hcz70_0
               try clear hcz70_1
               try clear hcz70_2
               try clear hcz70_3
               try clear hcz75_0
               try clear hcz75_1
               try clear hcz75_2
               try clear hcz75_3
               try clear hcz78_0
               try clear hcz78_1
               try clear hcz78_2
               try clear hcz78_3
               try clear hcz83_0
               try clear hcz83_1
               try clear hcz83_2
               try clear hcz83_3
               try clear hcz86_0
               try clear hcz86_1
               try clear hcz86_2
               try clear hcz86_3
               try clear hcz91_0
               try clear hcz91_1
               try clear hcz91_2
               try clear hcz91_3
               try clear hcz97_0
               try clear hcz97_1
               try clear hcz97_2
               try clear hcz97_3
               try clear hfz102_0
               try clear hfz102_1
               try clear hfz102_2
               try clear hfz106_0
               try clear hfz106_1
               try clear hfz106_2
               try clear hfz108_0
               try clear hfz108_1
               try clear hfz108_2
               try clear hfz12_0
               try clear hfz12_1
               try clear hfz12_2
               try clear hfz12_3
               try clear hfz13_0
               try clear hfz13_1
               try clear hfz13_2
               try clear hfz15_0
               try clear hfz15_1
               try clear hfz15_2
               try clear hfz15_3
               try clear hfz16_0
               try clear hfz16_1
               try clear hfz16_2
               try clear hfz22_0
               try clear hfz22_1
               try clear hfz22_2
               try clear hfz22_3
               try clear hfz24_0
               try clear hfz24_1
               try clear hfz24_2
               try clear hfz24_3
               try clear hfz31_0
               try clear hfz31_1
               try clear hfz31_2
               try clear hfz31_3
               try clear hfz51_0
               try clear hfz51_1
               try clear hfz51_2
               try clear hfz51_3
               try clear hfz54_0
               try clear hfz54_1
               try clear hfz54_2
               try clear hfz54_3
               try clear hfz59_0
               try clear hfz59_1
               try clear hfz59_2
               try clear hfz59_3
               try clear hfz62_0
               try clear hfz62_1
               try clear hfz62_2
               try clear hfz62_3
               try clear hfz67_0
               try clear hfz67_1
               try clear hfz67_2
               try clear hfz67_3
               try clear hfz70_0
               try clear hfz70_1
               try clear hfz70_2
               try clear hfz70_3
               try clear hfz75_0
               try clear hfz75_1
               try clear hfz75_2
               try clear hfz75_3
               try clear hfz78_0
               try clear hfz78_1
               try clear hfz78_2
               try clear hfz78_3
               try clear hfz83_0
               try clear hfz83_1
               try clear hfz83_2
               try clear hfz83_3
               try clear hfz86_0
               try clear hfz86_1
               try clear hfz86_2
               try clear hfz86_3
               try clear hfz91_0
               try clear hfz91_1
               try clear hfz91_2
               try clear hfz91_3
               try clear hfz97_0
               try clear hfz97_1
               try clear hfz97_2
               try clear hfz97_3
               try clear p2
               try clear p6
               try clear p64
               obtain ⟨kq, x9_108, x10_108, rfl, rfl, HA, HJ108, BK260, BK261, HB⟩ := hcut
               cases kq with
               | zero => exact absurd HA.out (by simp [zaj.j5])
               | succ kj108 =>
                have H := HA.out
                clear HA
                simp only [zaj.j5] at H
                have HC120 := Aside0.mk H
                clear H
                go_upto_region 19 with (fail)
                go_cut [161] (fun v161 wc => ∃ (kq : Nat) (x161_119 : Bool), v161 = .bool x161_119 ∧ Aside0 (zaj.j6 kq a2 x10_108 t278 x161_119 a1_0 l1_1 a1_2 = some r) ∧ Aside0 (kq ≤ kj108) ∧ Aside0 (wc.heap[gb260]? = some (.cells #[.string a0_0, .string a0_1, (.slice A0_2 l0_2.length c0_2), .string a0_3] 25 (0, 0))) ∧ Aside0 (wc.heap[gb261]? = some (.cells #[.int .i64 a1_0, (.slice A1_1 l1_1.length c1_1), .string a1_2] 33 (0, 0))) ∧ Aside0 (Below w.heap.size w wc))
                case first => as_aux_lemma =>
                 have H := HC120.out
                 clear HC120
                 by_cases c121 : t278.toList = x9_108.toList
                 ·rw [if_pos c121] at H
                  have c121b0 : (t278.toList == x9_108.toList) = true := beq_iff_eq.mpr c121
                  have c121b1 : (t278.toList != x9_108.toList) = false := bne_eq_false_iff_eq.mpr c121
                  clear c121
                  (first | rw [c121b0] | rw [c121b1] | (simp only [zbq, zbs]; rw [c121b0]) | skip)
                  by_cases c122 : t279 = x10_108
                  ·rw [if_pos c122] at H
                   have c122b0 : (t279 == x10_108) = true := beq_iff_eq.mpr c122
                   have c122b1 : (t279 != x10_108) = false := bne_eq_false_iff_eq.mpr c122
                   clear c122
                   replace H := Option.bind_eq_some_iff.mp H
                   obtain ⟨t284, A1230, H⟩ := H
                   replace H : ((zcf.f a1_0).bind fun t285 => (zaj.j6 kj108 a2 x10_108 t278 (t284.toList != t285.toList) a1_0 l1_1 a1_2)) = some r := H
                   have A123 := Aside0.mk A1230
                   clear A1230
                   replace H := Option.bind_eq_some_iff.mp H
                   obtain ⟨t285, A1240, H⟩ := H
                   replace H : (zaj.j6 kj108 a2 x10_108 t278 (t284.toList != t285.toList) a1_0 l1_1 a1_2) = some r := H
                   have A124 := Aside0.mk A1240
                   clear A1240
                   have H' := Aside0.mk H
                   clear H
                   try go_wp2
                   have n0_ := Aside0.mk (zag BK260.out)
                   have n1_ := Aside0.mk (zag BK261.out)
                   have n2_ := Aside0.mk (zab HB.out)
                   clear BK260
                   clear BK261
                   clear HB
                   have BK260 := n0_
                   have BK261 := n1_
                   have HB := n2_
                   clear n0_ n1_ n2_
                   refine zda (n := 17) (S := fun w' => w'.cell? ⟨gb261, 0, none⟩ = some (.int .i64 a1_0) ∧ w'.cell? ⟨gb261, 1, none⟩ = some (.slice A1_1 l1_1.length c1_1) ∧ w'.cell? ⟨gb261, 2, none⟩ = some (.string a1_2)) (ds := []) (bm 17 0) (by kernel_rfl) rfl rfl ⟨(zah BK261.out 0).trans rfl, (zah BK261.out 1).trans rfl, (zah BK261.out 2).trans rfl⟩ (fun hHeld => ?_); refine zci zaj.tab19 zaj.bits19 (fun HT_ HW_ => ?_)
                   generalize wc.drew = w125 at BK260 BK261 HB hHeld ⊢
                   refine pv_ HT_ 0 (bm 17 1) ?_
                   refine pv_ HT_ 1 (bm 17 3) ?_
                   refine pv_ HT_ 2 (bm 17 7) ?_
                   refine pv_ HT_ 3 (bm 17 15) ?_
                   refine pv_ HT_ 4 (bm 17 31) ?_
                   refine pv_ HT_ 5 (bm 17 63) ?_
                   refine pv_ HT_ 6 (bm 17 127) ?_
                   refine pv_ HT_ 7 (bm 17 255) ?_
                   refine pv_ HT_ 8 (bm 17 511) ?_
                   refine pv_ HT_ 9 (bm 17 1023) ?_
                   refine pv_ HT_ 12 (bm 17 5119) ?_
                   refine zcn (i := 10) (N := some 155) (v := ?_) (a' := ?_) (bm 17 6143) rfl rfl (zbk HT_.out HW_.out (by kernel_rfl)) (fun _ _ _ h => h) (Or.inl ⟨by rfl, ?_⟩) hHeld ?_ ?_
                   rotate_left
                   ·rintro w' ⟨s0, s1, s2⟩
                    go_simp
                    with_reducible rfl
                   rotate_left
                   ·simp only [Act.put, List.setIfInBounds_toArray, List.set_cons_zero, List.set_cons_succ, zbq, zbs]
                    rfl
                   refine zcn (i := 13) (N := some 158) (v := ?_) (a' := ?_) (bm 17 14335) rfl rfl (zbk HT_.out HW_.out (by kernel_rfl)) (fun _ _ _ h => h) (Or.inl ⟨by rfl, ?_⟩) hHeld ?_ ?_
                   rotate_left
                   ·rintro w' ⟨s0, s1, s2⟩
                    go_simp
                    with_reducible rfl
                   rotate_left
                   ·simp only [Act.put, List.setIfInBounds_toArray, List.set_cons_zero, List.set_cons_succ, zbq, zbs]
                    rfl
                   refine one_ (i := 11) (N := some 156) (bm 17 16383) rfl rfl (zcg HT_.out (by kernel_rfl)) (by decide) (fun K hK => ?_)
                   refine zcw Tryz.func17 (by kernel_rfl) rfl #[.int .i64 a1_0] (by rfl) rfl rfl (by (try simp only [List.map_toArray, List.map_cons, List.map_nil]); first | done | rfl | (simp only [List.length_drop, List.length_take]; rfl)) ?_
                   with_reducible refine (zcx.calls a1_0 t284 _ ?side1 A123.out).mono ?_
                   (case side1 => exact LaidM.below HT.out (by repeat (first | (with_reducible first | exact HB.out | apply zac | apply zaa | apply zab | refine zad ?_ GE260.out | refine zad ?_ GE261.out) | exact HB.out)))
                   rintro e w126 ⟨rfl, hb⟩
                   refine ⟨_, rfl, ?_⟩
                   have n0_ := Aside0.mk (zao (g := gb260) (o := .cells #[.string a0_0, .string a0_1, .slice A0_2 l0_2.length c0_2, .string a0_3] 25 (0, 0)) (by (with_reducible repeat (first | refine zae ?_ _ | refine zag ?_ | refine zaf ?_ _)); exact BK260.out) hb)
                   have n1_ := Aside0.mk (zao (g := gb261) (o := .cells #[.int .i64 a1_0, .slice A1_1 l1_1.length c1_1, .string a1_2] 33 (0, 0)) (by (with_reducible repeat (first | refine zae ?_ _ | refine zag ?_ | refine zaf ?_ _)); exact BK261.out) hb)
                   have n2_ := Aside0.mk (zam (by repeat (first | (with_reducible first | exact HB.out | apply zac | apply zaa | apply zab | refine zad ?_ GE260.out | refine zad ?_ GE261.out) | exact HB.out)) hb)
                   clear BK260
                   clear BK261
                   clear HB
                   have BK260 := n0_
                   have BK261 := n1_
                   have HB := n2_
                   clear n0_ n1_ n2_
                   (try clear hb)
                   (try clear hb2)
                   (try clear hk)
                   (try clear hi)
                   refine hK.out _ _ ⟨(zah BK261.out 0).trans rfl, (zah BK261.out 1).trans rfl, (zah BK261.out 2).trans rfl⟩ (fun hHeld => ?_)
                   clear hK K
                   refine zcv (a' := ?_) ?_ ?_
                   rotate_left
                   ·show Act.put _ (some 156) _ = _
                    simp only [Act.put, List.setIfInBounds_toArray, List.set_cons_zero, List.set_cons_succ, zbq, zbs]
                    rfl
                   refine one_ (i := 14) (N := some 159) (bm 17 32767) rfl rfl (zcg HT_.out (by kernel_rfl)) (by decide) (fun K hK => ?_)
                   refine zcw Tryz.func16 (by kernel_rfl) rfl #[.int .i64 a1_0] (by rfl) rfl rfl (by (try simp only [List.map_toArray, List.map_cons, List.map_nil]); first | done | rfl | (simp only [List.length_drop, List.length_take]; rfl)) ?_
                   with_reducible refine (zcf.calls a1_0 t285 _ A124.out).mono ?_
                   rintro e w' ⟨rfl, ⟨nd, rfl⟩⟩
                   refine ⟨_, rfl, ?_⟩
                   refine hK.out _ _ ⟨(zah BK261.out 0).trans rfl, (zah BK261.out 1).trans rfl, (zah BK261.out 2).trans rfl⟩ (fun hHeld => ?_)
                   clear hK K
                   refine zcv (a' := ?_) ?_ ?_
                   rotate_left
                   ·show Act.put _ (some 159) _ = _
                    simp only [Act.put, List.setIfInBounds_toArray, List.set_cons_zero, List.set_cons_succ, zbq, zbs]
                    rfl
                   refine pv_ HT_ 15 (bm 17 65535) ?_
                   refine pv_ HT_ 16 (bm 17 131071) ?_
                   refine zdu (zcu HT_.out (by kernel_rfl)) ?_
                   try go_wp2
                   go_meet
                   case rel => exact ⟨_, ((t284.toList != t285.toList)), (by first | rfl | (simp; done) | (simp [*]; done)), H', ⟨by have := HJ5.out; have := HJ19.out; have := HJ32.out; have := HJ35.out; have := HJ99.out; have := HJ108.out; first | omega | exact Nat.le_refl _⟩, ⟨by (with_reducible repeat (first | refine zae ?_ _ | refine zag ?_ | refine zaf ?_ _)); exact BK260.out⟩, ⟨by (with_reducible repeat (first | refine zae ?_ _ | refine zag ?_ | refine zaf ?_ _)); exact BK261.out⟩, ⟨by repeat (first | (with_reducible first | exact HB.out | apply zac | apply zaa | apply zab | refine zad ?_ GE260.out | refine zad ?_ GE261.out) | exact HB.out)⟩⟩
                  ·rw [if_neg c122] at H
                   have c122b0 : (t279 == x10_108) = false := beq_eq_false_iff_ne.mpr c122
                   have c122b1 : (t279 != x10_108) = true := bne_iff_ne.mpr c122
                   have H' := Aside0.mk H
                   clear H
                   try go_wp2
                   have n0_ := Aside0.mk (zag BK260.out)
                   have n1_ := Aside0.mk (zag BK261.out)
                   have n2_ := Aside0.mk (zab HB.out)
                   clear BK260
                   clear BK261
                   clear HB
                   have BK260 := n0_
                   have BK261 := n1_
                   have HB := n2_
                   clear n0_ n1_ n2_
                   refine zda (n := 17) (S := fun w' => True) (ds := []) (bm 17 0) (by kernel_rfl) rfl rfl trivial (fun hHeld => ?_); refine zci zaj.tab19 zaj.bits19 (fun HT_ HW_ => ?_)
                   generalize wc.drew = w127 at BK260 BK261 HB hHeld ⊢
                   refine pv_ HT_ 0 (bm 17 1) ?_
                   refine pv_ HT_ 1 (bm 17 3) ?_
                   refine pv_ HT_ 2 (bm 17 7) ?_
                   refine pv_ HT_ 3 (bm 17 15) ?_
                   refine pv_ HT_ 4 (bm 17 31) ?_
                   refine pv_ HT_ 5 (bm 17 63) ?_
                   refine pv_ HT_ 6 (bm 17 127) ?_
                   refine pv_ HT_ 7 (bm 17 255) ?_
                   refine pv_ HT_ 8 (bm 17 511) ?_
                   refine pu_ HT_ 9 (bm 17 1023) ?_
                   refine pu_ HT_ 10 (bm 17 2047) ?_
                   refine pu_ HT_ 11 (bm 17 4095) ?_
                   refine pu_ HT_ 12 (bm 17 8191) ?_
                   refine pu_ HT_ 13 (bm 17 16383) ?_
                   refine pu_ HT_ 14 (bm 17 32767) ?_
                   refine pu_ HT_ 15 (bm 17 65535) ?_
                   refine pv_ HT_ 16 (bm 17 131071) ?_
                   refine zdu (zcu HT_.out (by kernel_rfl)) ?_
                   try go_wp2
                   go_meet
                   case rel => exact ⟨_, (true), (by first | rfl | (simp; done) | (simp [*]; done)), H', ⟨by have := HJ5.out; have := HJ19.out; have := HJ32.out; have := HJ35.out; have := HJ99.out; have := HJ108.out; first | omega | exact Nat.le_refl _⟩, ⟨by (with_reducible repeat (first | refine zae ?_ _ | refine zag ?_ | refine zaf ?_ _)); exact BK260.out⟩, ⟨by (with_reducible repeat (first | refine zae ?_ _ | refine zag ?_ | refine zaf ?_ _)); exact BK261.out⟩, ⟨by repeat (first | (with_reducible first | exact HB.out | apply zac | apply zaa | apply zab | refine zad ?_ GE260.out | refine zad ?_ GE261.out) | exact HB.out)⟩⟩
                 ·rw [if_neg c121] at H
                  have c121b0 : (t278.toList == x9_108.toList) = false := beq_eq_false_iff_ne.mpr c121
                  have c121b1 : (t278.toList != x9_108.toList) = true := bne_iff_ne.mpr c121
                  (first | rw [c121b0] | rw [c121b1] | (simp only [zbq, zbs]; rw [c121b0]) | skip)
                  have H' := Aside0.mk H
                  clear H
                  try go_wp2
                  have n0_ := Aside0.mk (zag BK260.out)
                  have n1_ := Aside0.mk (zag BK261.out)
                  have n2_ := Aside0.mk (zab HB.out)
                  clear BK260
                  clear BK261
                  clear HB
                  have BK260 := n0_
                  have BK261 := n1_
                  have HB := n2_
                  clear n0_ n1_ n2_
                  refine zda (n := 17) (S := fun w' => True) (ds := []) (bm 17 0) (by kernel_rfl) rfl rfl trivial (fun hHeld => ?_); refine zci zaj.tab19 zaj.bits19 (fun HT_ HW_ => ?_)
                  generalize wc.drew = w128 at BK260 BK261 HB hHeld ⊢
                  refine pv_ HT_ 0 (bm 17 1) ?_
                  refine pv_ HT_ 1 (bm 17 3) ?_
                  refine pv_ HT_ 2 (bm 17 7) ?_
                  refine pv_ HT_ 3 (bm 17 15) ?_
                  refine pu_ HT_ 4 (bm 17 31) ?_
                  refine pu_ HT_ 5 (bm 17 63) ?_
                  refine pu_ HT_ 6 (bm 17 127) ?_
                  refine pv_ HT_ 7 (bm 17 255) ?_
                  refine pv_ HT_ 8 (bm 17 511) ?_
                  refine pu_ HT_ 9 (bm 17 1023) ?_
                  refine pu_ HT_ 10 (bm 17 2047) ?_
                  refine pu_ HT_ 11 (bm 17 4095) ?_
                  refine pu_ HT_ 12 (bm 17 8191) ?_
                  refine pu_ HT_ 13 (bm 17 16383) ?_
                  refine pu_ HT_ 14 (bm 17 32767) ?_
                  refine pu_ HT_ 15 (bm 17 65535) ?_
                  refine pv_ HT_ 16 (bm 17 131071) ?_
                  refine zdu (zcu HT_.out (by kernel_rfl)) ?_
                  try go_wp2
                  go_meet
                  case rel => exact ⟨_, (true), (by first | rfl | (simp; done) | (simp [*]; done)), H', ⟨by have := HJ5.out; have := HJ19.out; have := HJ32.out; have := HJ35.out; have := HJ99.out; have := HJ108.out; first | omega | exact Nat.le_refl _⟩, ⟨by (with_reducible repeat (first | refine zae ?_ _ | refine zag ?_ | refine zaf ?_ _)); exact BK260.out⟩, ⟨by (with_reducible repeat (first | refine zae ?_ _ | refine zag ?_ | refine zaf ?_ _)); exact BK261.out⟩, ⟨by repeat (first | (with_reducible first | exact HB.out | apply zac | apply zaa | apply zab | refine zad ?_ GE260.out | refine zad ?_ GE261.out) | exact HB.out)⟩⟩
                case rest =>
                 clear HC120
                 try clear c1
                 try clear p2
                 try clear p6
                 try clear c12
                 try clear c16
                 try clear c17
                 try clear p64
                 try clear c121
                 try clear c121b0
                 try clear c121b1
                 try clear c122
                 try clear c122b0
                 try clear c122b1
                 try clear hcz31_2
                 try clear hcz31_3
                 try clear hcz51_0
                 try clear hcz51_1
                 try clear hcz51_2
                 try clear hcz51_3
                 try clear hcz54_0
                 try clear hcz54_1
                 try clear hcz54_2
                 try clear hcz54_3
                 try clear hcz59_0
                 try clear hcz59_1
                 try clear hcz59_2
                 try clear hcz59_3
                 try clear hcz62_0
                 try clear hcz62_1
                 try clear hcz62_2
                 try clear hcz62_3
                 try clear hcz67_0
                 try clear hcz67_1
                 try clear hcz67_2
                 try clear hcz67_3
                 try clear hcz70_0
                 try clear hcz70_1
                 try clear hcz70_2
                 try clear hcz70_3
                 try clear hcz75_0
                 try clear hcz75_1
                 try clear hcz75_2
                 try clear hcz75_3
                 try clear hcz78_0
                 try clear hcz78_1
                 try clear hcz78_2
                 try clear hcz78_3
                 try clear hcz83_0
                 try clear hcz83_1
                 try clear hcz83_2
                 try clear hcz83_3
                 try clear hcz86_0
                 try clear hcz86_1
                 try clear hcz86_2
                 try clear hcz86_3
                 try clear hcz91_0
                 try clear hcz91_1
                 try clear hcz91_2
                 try clear hcz91_3
                 try clear hcz97_0
                 try clear hcz97_1
                 try clear hcz97_2
                 try clear hcz97_3
                 try clear hfz102_0
                 try clear hfz102_1
                 try clear hfz102_2
                 try clear hfz106_0
                 try clear hfz106_1
                 try clear hfz106_2
                 try clear hfz108_0
                 try clear hfz108_1
                 try clear hfz108_2
                 try clear hfz12_0
                 try clear hfz12_1
                 try clear hfz12_2
                 try clear hfz12_3
                 try clear hfz13_0
                 try clear hfz13_1
                 try clear hfz13_2
                 try clear hfz15_0
                 try clear hfz15_1
                 try clear hfz15_2
                 try clear hfz15_3
                 try clear hfz16_0
                 try clear hfz16_1
                 try clear hfz16_2
                 try clear hfz22_0
                 try clear hfz22_1
                 try clear hfz22_2
                 try clear hfz22_3
                 try clear hfz24_0
                 try clear hfz24_1
                 try clear hfz24_2
                 try clear hfz24_3
                 try clear hfz31_0
                 try clear hfz31_1
                 try clear hfz31_2
                 try clear hfz31_3
                 try clear hfz51_0
                 try clear hfz51_1
                 try clear hfz51_2
                 try clear hfz51_3
                 try clear hfz54_0
                 try clear hfz54_1
                 try clear hfz54_2
                 try clear hfz54_3
                 try clear hfz59_0
                 try clear hfz59_1
                 try clear hfz59_2
                 try clear hfz59_3
                 try clear hfz62_0
                 try clear hfz62_1
                 try clear hfz62_2
                 try clear hfz62_3
                 try clear hfz67_0
                 try clear hfz67_1
                 try clear hfz67_2
                 try clear hfz67_3
                 try clear hfz70_0
                 try clear hfz70_1
                 try clear hfz70_2
                 try clear hfz70_3
                 try clear hfz75_0
                 try clear hfz75_1
                 try clear hfz75_2
                 try clear hfz75_3
                 try clear hfz78_0
                 try clear hfz78_1
                 try clear hfz78_2
                 try clear hfz78_3
                 try clear hfz83_0
                 try clear hfz83_1
                 try clear hfz83_2
                 try clear hfz83_3
                 try clear hfz86_0
                 try clear hfz86_1
                 try clear hfz86_2
                 try clear hfz86_3
                 try clear hfz91_0
                 try clear hfz91_1
                 try clear hfz91_2
                 try clear hfz91_3
                 try clear hfz97_0
                 try clear hfz97_1
                 try clear hfz97_2
                 try clear hfz97_3
                 try clear p2
                 try clear p6
                 try clear p64
                 obtain ⟨kq, x161_119, rfl, HA, HJ119, BK260, BK261, HB⟩ := hcut
                 cases kq with
                 | zero => exact absurd HA.out (by simp [zaj.j6])
                 | succ kj119 =>
                  have H := HA.out
                  clear HA
                  simp only [zaj.j6] at H
                  by_cases c129 : x161_119 = true
                  ·subst c129
                   have H1 : (some false) = some r := by rw [if_pos rfl] at H; exact H
                   clear H
                   have H := H1
                   clear H1
                   obtain rfl := Option.some.inj H
                   go_wp2
                   go_ret
                   exact ⟨by first | rfl | (simp [zaq, zap] <;> rfl) | (simp [*, zaq, zap] <;> rfl), by repeat (first | (with_reducible first | exact HB.out | apply zac | apply zaa | apply zab | refine zad ?_ GE260.out | refine zad ?_ GE261.out) | exact HB.out)⟩
                  ·replace c129 := Bool.eq_false_iff.mpr c129
                   subst c129
                   have H1 : (if x10_108 = 0 then (if t278.size + a2.size ≤ 9223372036854775807 then ((zcc.f kj119 (t278 ++ a2)).bind fun bt286 => (if bt286.2.2.2.2 = 0 then (if bt286.2.2.2.1 = (t278.size : Int) then (if bt286.1 = a1_0 then (if bt286.2.2.1.toList = a1_2.toList then ((zbo.f kj119 bt286.2.1 l1_1).bind fun t294 => (some t294)) else (some false)) else (some false)) else (some false)) else (some false))) else (none)) else (some true)) = some r := by rw [if_neg (show ¬ (false = true) by decide)] at H; exact H
                   clear H
                   have H := H1
                   clear H1
                   by_cases c130 : x10_108 = 0
                   ·rw [if_pos c130] at H
                    have c130b0 : (x10_108 == 0) = true := beq_iff_eq.mpr c130
                    have c130b1 : (x10_108 != 0) = false := bne_eq_false_iff_eq.mpr c130
                    clear c130
                    by_cases c131 : t278.size + a2.size ≤ 9223372036854775807
                    ·rw [if_pos c131] at H
                     have c131b0 := eq_true c131
                     have c131b1 := decide_eq_true c131
                     try have c131b2 := eq_false (Nat.not_lt.2 c131)
                     replace H := Option.bind_eq_some_iff.mp H
                     obtain ⟨⟨t286, t287, t290, t291, t292⟩, A1320, H⟩ := H
                     replace H : (if t292 = 0 then (if t291 = (t278.size : Int) then (if t286 = a1_0 then (if t290.toList = a1_2.toList then ((zbo.f kj119 t287 l1_1).bind fun t294 => (some t294)) else (some false)) else (some false)) else (some false)) else (some false)) = some r := H
                     have A132 := Aside0.mk A1320
                     clear A1320
                     by_cases c133 : t292 = 0
                     ·rw [if_pos c133] at H
                      have c133b0 : (t292 == 0) = true := beq_iff_eq.mpr c133
                      have c133b1 : (t292 != 0) = false := bne_eq_false_iff_eq.mpr c133
                      clear c133
                      by_cases c134 : t291 = (t278.size : Int)
                      ·rw [if_pos c134] at H
                       have c134b0 : (t291 == (t278.size : Int)) = true := beq_iff_eq.mpr c134
                       have c134b1 : (t291 != (t278.size : Int)) = false := bne_eq_false_iff_eq.mpr c134
                       clear c134
                       by_cases c135 : t286 = a1_0
                       ·rw [if_pos c135] at H
                        have c135b0 : (t286 == a1_0) = true := beq_iff_eq.mpr c135
                        have c135b1 : (t286 != a1_0) = false := bne_eq_false_iff_eq.mpr c135
                        clear c135
                        by_cases c136 : t290.toList = a1_2.toList
                        ·rw [if_pos c136] at H
                         have c136b0 : (t290.toList == a1_2.toList) = true := beq_iff_eq.mpr c136
                         have c136b1 : (t290.toList != a1_2.toList) = false := bne_eq_false_iff_eq.mpr c136
                         clear c136
                         replace H := Option.bind_eq_some_iff.mp H
                         obtain ⟨t294, A1370, H⟩ := H
                         replace H : (some t294) = some r := H
                         have A137 := Aside0.mk A1370
                         clear A1370
                         obtain rfl := Option.some.inj H
                         go_wp2_with (first | ((with_reducible refine zar (f := 9) rfl ?_); refine zbr (some 168) rfl rfl Tryz.func9 (by kernel_rfl) rfl #[.string (t278 ++ a2)] rfl (by (try simp only [List.map_toArray, List.map_cons, List.map_nil]); first | done | rfl | (simp only [List.length_drop, List.length_take]; rfl)) ?_; (with_reducible refine (zcc.calls kj119 (t278 ++ a2) t286 t287 t290 t291 t292 _ ?side1 A132.out).mono ?_); (case side1 => exact LaidM.below HT.out (by repeat (first | (with_reducible first | exact HB.out | apply zac | apply zaa | apply zab | refine zad ?_ GE260.out | refine zad ?_ GE261.out) | exact HB.out))); rintro e w138 ⟨v288, rfl, ho0, hb⟩; refine ⟨_, rfl, ?_⟩; have n0_ := Aside0.mk (Kd.zby ho0 (zan (by repeat (first | (with_reducible first | exact HB.out | apply zac | apply zaa | apply zab | refine zad ?_ GE260.out | refine zad ?_ GE261.out) | exact HB.out)))); have n1_ := Aside0.mk (zao (g := gb260) (o := .cells #[.string a0_0, .string a0_1, .slice A0_2 l0_2.length c0_2, .string a0_3] 25 (0, 0)) (by (with_reducible repeat (first | refine zae ?_ _ | refine zag ?_ | refine zaf ?_ _)); exact BK260.out) hb); have n2_ := Aside0.mk (zao (g := gb261) (o := .cells #[.int .i64 a1_0, .slice A1_1 l1_1.length c1_1, .string a1_2] 33 (0, 0)) (by (with_reducible repeat (first | refine zae ?_ _ | refine zag ?_ | refine zaf ?_ _)); exact BK261.out) hb); have n3_ := Aside0.mk (zam (by repeat (first | (with_reducible first | exact HB.out | apply zac | apply zaa | apply zab | refine zad ?_ GE260.out | refine zad ?_ GE261.out) | exact HB.out)) hb); clear BK260; clear BK261; clear HB; have HO289 := n0_; have BK260 := n1_; have BK261 := n2_; have HB := n3_; clear n0_ n1_ n2_ n3_; (try clear hb); (try clear hb2); (try clear hk); (try clear hi); (try clear ho0)) | ((with_reducible refine zbj (N := 16) rfl ?_); (try (refine zbi (by rfl) ?_; dsimp only)); refine zbf ?hg (N := 16) ?hd (cs := #[.int .i64 0, .slice none 0 0, .string ⟨#[]⟩]) (t := 33) ?hr ?_; (case hd => rfl); (case hg => rfl); (case hr => first | (go_simp; done) | (go_simp; rfl)); intro gb293 hg w139 hbox hb; have n0_ := Aside0.mk (Kd.zbl (by (with_reducible repeat (first | apply Kd.zbc | apply Kd.zbb | apply Kd.zbg)); exact HO289.out) hb); have n1_ := Aside0.mk (zao (g := gb260) (o := .cells #[.string a0_0, .string a0_1, .slice A0_2 l0_2.length c0_2, .string a0_3] 25 (0, 0)) (by (with_reducible repeat (first | refine zae ?_ _ | refine zag ?_ | refine zaf ?_ _)); exact BK260.out) hb); have n2_ := Aside0.mk (zao (g := gb261) (o := .cells #[.int .i64 a1_0, .slice A1_1 l1_1.length c1_1, .string a1_2] 33 (0, 0)) (by (with_reducible repeat (first | refine zae ?_ _ | refine zag ?_ | refine zaf ?_ _)); exact BK261.out) hb); have n3_ := Aside0.mk (zam (by repeat (first | (with_reducible first | exact HB.out | apply zac | apply zaa | apply zab | refine zad ?_ GE260.out | refine zad ?_ GE261.out) | exact HB.out)) hb); have n4_ := Aside0.mk (hbox); have n5_ := Aside0.mk ((by rw [hg]; exact (zan (by repeat (first | (with_reducible first | exact HB.out | apply zac | apply zaa | apply zab | refine zad ?_ GE260.out | refine zad ?_ GE261.out) | exact HB.out))) : w.heap.size ≤ gb293)); have n6_ := Aside0.mk ((by rw [hg]; exact (zan (by repeat (first | (with_reducible first | exact HB.out | apply zac | apply zaa | apply zab | refine zad ?_ GE260.out | refine zad ?_ GE261.out) | exact HB.out))) : w.heap.size ≤ gb293)); have n7_ := Aside0.mk ((by rw [hg]; exact Nat.ne_of_lt (zbv (g := gb260) (o := .cells #[.string a0_0, .string a0_1, .slice A0_2 l0_2.length c0_2, .string a0_3] 25 (0, 0)) (by (with_reducible repeat (first | refine zae ?_ _ | refine zag ?_ | refine zaf ?_ _)); exact BK260.out)) : gb260 ≠ gb293)); have n8_ := Aside0.mk ((by rw [hg]; exact Nat.ne_of_gt (zbv (g := gb260) (o := .cells #[.string a0_0, .string a0_1, .slice A0_2 l0_2.length c0_2, .string a0_3] 25 (0, 0)) (by (with_reducible repeat (first | refine zae ?_ _ | refine zag ?_ | refine zaf ?_ _)); exact BK260.out)) : gb293 ≠ gb260)); have n9_ := Aside0.mk ((by rw [hg]; exact Nat.ne_of_lt (zbv (g := gb261) (o := .cells #[.int .i64 a1_0, .slice A1_1 l1_1.length c1_1, .string a1_2] 33 (0, 0)) (by (with_reducible repeat (first | refine zae ?_ _ | refine zag ?_ | refine zaf ?_ _)); exact BK261.out)) : gb261 ≠ gb293)); have n10_ := Aside0.mk ((by rw [hg]; exact Nat.ne_of_gt (zbv (g := gb261) (o := .cells #[.int .i64 a1_0, .slice A1_1 l1_1.length c1_1, .string a1_2] 33 (0, 0)) (by (with_reducible repeat (first | refine zae ?_ _ | refine zag ?_ | refine zaf ?_ _)); exact BK261.out)) : gb293 ≠ gb261)); clear HO289; clear BK260; clear BK261; clear HB; have HO289 := n0_; have BK260 := n1_; have BK261 := n2_; have HB := n3_; have BK293 := n4_; have GW293 := n5_; have GE293 := n6_; have NB260_293 := n7_; have NB293_260 := n8_; have NB261_293 := n9_; have NB293_261 := n10_; clear n0_ n1_ n2_ n3_ n4_ n5_ n6_ n7_ n8_ n9_ n10_; clear hb hbox hg; have hnb140 := NB293_260.out; have hnc140 := NB260_293.out; have hnb141 := NB293_261.out; have hnc141 := NB261_293.out; have hcz142_0 : w139.cell? ⟨gb293, 0, none⟩ = some (.int .i64 0) := (zah BK293.out 0).trans rfl; have hcz142_1 : w139.cell? ⟨gb293, 1, none⟩ = some (.slice none 0 0) := (zah BK293.out 1).trans rfl; have hcz142_2 : w139.cell? ⟨gb293, 2, none⟩ = some (.string ⟨#[]⟩) := (zah BK293.out 2).trans rfl; have hfz142_0 := zai BK293.out 0; have hfz142_1 := zai BK293.out 1; have hfz142_2 := zai BK293.out 2; obtain ⟨Ao143, co143, eo143⟩ := Kd.zca HO289.out; subst eo143; have hnb144 := NB261_260.out; have hnc144 := NB260_261.out; have hcz145_0 : w139.cell? ⟨gb261, 0, none⟩ = some (.int .i64 a1_0) := (zah BK261.out 0).trans rfl; have hcz145_1 : w139.cell? ⟨gb261, 1, none⟩ = some (.slice A1_1 l1_1.length c1_1) := (zah BK261.out 1).trans rfl; have hcz145_2 : w139.cell? ⟨gb261, 2, none⟩ = some (.string a1_2) := (zah BK261.out 2).trans rfl; have hfz145_0 := zai BK261.out 0; have hfz145_1 := zai BK261.out 1; have hfz145_2 := zai BK261.out 2) | (go_at_call 8; (with_reducible refine (zbo.calls kj119 _ _ t287 _ _ l1_1 t294 _ ?side1 ?side2 ?side3 ?side4 A137.out).mono ?_); (case side1 => refine (Kd.zbu (e := 62) (base := w.heap.size) (ok := fun k_ => True) (n := t287.length) (c := co143) ?_).2.2; exact (by (with_reducible repeat (first | apply Kd.zbc | apply Kd.zbb | apply Kd.zbg)); exact (Kd.zco (Kd.zbp (p := ⟨gb293, 2, none⟩) (Kd.zbp (p := ⟨gb293, 1, none⟩) (Kd.zbp (p := ⟨gb293, 0, none⟩) (Kd.zch HO289.out BK293.out (by decide)) (fun _ hk => hk.2) (.int .i64 t286)) (fun _ hk => hk.2) (.slice Ao143 t287.length co143)) (fun _ hk => hk.2) (.string t290)) (fun _ h_ => h_.1)))); (case side2 => exact (Kd.zbu HO289.out).2.1); (case side3 => exact Kd.zdf HR1_1.out (by repeat (first | (with_reducible first | exact HB.out | apply zac | apply zaa | apply zab | refine zad ?_ GE260.out | refine zad ?_ GE261.out | refine zad ?_ GE293.out) | exact HB.out))); (case side4 => exact HC1_1.out); rintro e w' ⟨rfl, ⟨nd, rfl⟩⟩))
                         go_ret
                         exact ⟨by first | rfl | (simp [zaq, zap] <;> rfl) | (simp [*, zaq, zap] <;> rfl), by repeat (first | (with_reducible first | exact HB.out | apply zac | apply zaa | apply zab | refine zad ?_ GE260.out | refine zad ?_ GE261.out | refine zad ?_ GE293.out) | exact HB.out)⟩
                        ·rw [if_neg c136] at H
                         have c136b0 : (t290.toList == a1_2.toList) = false := beq_eq_false_iff_ne.mpr c136
                         have c136b1 : (t290.toList != a1_2.toList) = true := bne_iff_ne.mpr c136
                         obtain rfl := Option.some.inj H
                         go_wp2_with (first | ((with_reducible refine zar (f := 9) rfl ?_); refine zbr (some 168) rfl rfl Tryz.func9 (by kernel_rfl) rfl #[.string (t278 ++ a2)] rfl (by (try simp only [List.map_toArray, List.map_cons, List.map_nil]); first | done | rfl | (simp only [List.length_drop, List.length_take]; rfl)) ?_; (with_reducible refine (zcc.calls kj119 (t278 ++ a2) t286 t287 t290 t291 t292 _ ?side1 A132.out).mono ?_); (case side1 => exact LaidM.below HT.out (by repeat (first | (with_reducible first | exact HB.out | apply zac | apply zaa | apply zab | refine zad ?_ GE260.out | refine zad ?_ GE261.out) | exact HB.out))); rintro e w146 ⟨v288, rfl, ho0, hb⟩; refine ⟨_, rfl, ?_⟩; have n0_ := Aside0.mk (Kd.zby ho0 (zan (by repeat (first | (with_reducible first | exact HB.out | apply zac | apply zaa | apply zab | refine zad ?_ GE260.out | refine zad ?_ GE261.out) | exact HB.out)))); have n1_ := Aside0.mk (zao (g := gb260) (o := .cells #[.string a0_0, .string a0_1, .slice A0_2 l0_2.length c0_2, .string a0_3] 25 (0, 0)) (by (with_reducible repeat (first | refine zae ?_ _ | refine zag ?_ | refine zaf ?_ _)); exact BK260.out) hb); have n2_ := Aside0.mk (zao (g := gb261) (o := .cells #[.int .i64 a1_0, .slice A1_1 l1_1.length c1_1, .string a1_2] 33 (0, 0)) (by (with_reducible repeat (first | refine zae ?_ _ | refine zag ?_ | refine zaf ?_ _)); exact BK261.out) hb); have n3_ := Aside0.mk (zam (by repeat (first | (with_reducible first | exact HB.out | apply zac | apply zaa | apply zab | refine zad ?_ GE260.out | refine zad ?_ GE261.out) | exact HB.out)) hb); clear BK260; clear BK261; clear HB; have HO289 := n0_; have BK260 := n1_; have BK261 := n2_; have HB := n3_; clear n0_ n1_ n2_ n3_; (try clear hb); (try clear hb2); (try clear hk); (try clear hi); (try clear ho0)) | ((with_reducible refine zbj (N := 16) rfl ?_); (try (refine zbi (by rfl) ?_; dsimp only)); refine zbf ?hg (N := 16) ?hd (cs := #[.int .i64 0, .slice none 0 0, .string ⟨#[]⟩]) (t := 33) ?hr ?_; (case hd => rfl); (case hg => rfl); (case hr => first | (go_simp; done) | (go_simp; rfl)); intro gb293 hg w147 hbox hb; have n0_ := Aside0.mk (Kd.zbl (by (with_reducible repeat (first | apply Kd.zbc | apply Kd.zbb | apply Kd.zbg)); exact HO289.out) hb); have n1_ := Aside0.mk (zao (g := gb260) (o := .cells #[.string a0_0, .string a0_1, .slice A0_2 l0_2.length c0_2, .string a0_3] 25 (0, 0)) (by (with_reducible repeat (first | refine zae ?_ _ | refine zag ?_ | refine zaf ?_ _)); exact BK260.out) hb); have n2_ := Aside0.mk (zao (g := gb261) (o := .cells #[.int .i64 a1_0, .slice A1_1 l1_1.length c1_1, .string a1_2] 33 (0, 0)) (by (with_reducible repeat (first | refine zae ?_ _ | refine zag ?_ | refine zaf ?_ _)); exact BK261.out) hb); have n3_ := Aside0.mk (zam (by repeat (first | (with_reducible first | exact HB.out | apply zac | apply zaa | apply zab | refine zad ?_ GE260.out | refine zad ?_ GE261.out) | exact HB.out)) hb); have n4_ := Aside0.mk (hbox); have n5_ := Aside0.mk ((by rw [hg]; exact (zan (by repeat (first | (with_reducible first | exact HB.out | apply zac | apply zaa | apply zab | refine zad ?_ GE260.out | refine zad ?_ GE261.out) | exact HB.out))) : w.heap.size ≤ gb293)); have n6_ := Aside0.mk ((by rw [hg]; exact (zan (by repeat (first | (with_reducible first | exact HB.out | apply zac | apply zaa | apply zab | refine zad ?_ GE260.out | refine zad ?_ GE261.out) | exact HB.out))) : w.heap.size ≤ gb293)); have n7_ := Aside0.mk ((by rw [hg]; exact Nat.ne_of_lt (zbv (g := gb260) (o := .cells #[.string a0_0, .string a0_1, .slice A0_2 l0_2.length c0_2, .string a0_3] 25 (0, 0)) (by (with_reducible repeat (first | refine zae ?_ _ | refine zag ?_ | refine zaf ?_ _)); exact BK260.out)) : gb260 ≠ gb293)); have n8_ := Aside0.mk ((by rw [hg]; exact Nat.ne_of_gt (zbv (g := gb260) (o := .cells #[.string a0_0, .string a0_1, .slice A0_2 l0_2.length c0_2, .string a0_3] 25 (0, 0)) (by (with_reducible repeat (first | refine zae ?_ _ | refine zag ?_ | refine zaf ?_ _)); exact BK260.out)) : gb293 ≠ gb260)); have n9_ := Aside0.mk ((by rw [hg]; exact Nat.ne_of_lt (zbv (g := gb261) (o := .cells #[.int .i64 a1_0, .slice A1_1 l1_1.length c1_1, .string a1_2] 33 (0, 0)) (by (with_reducible repeat (first | refine zae ?_ _ | refine zag ?_ | refine zaf ?_ _)); exact BK261.out)) : gb261 ≠ gb293)); have n10_ := Aside0.mk ((by rw [hg]; exact Nat.ne_of_gt (zbv (g := gb261) (o := .cells #[.int .i64 a1_0, .slice A1_1 l1_1.length c1_1, .string a1_2] 33 (0, 0)) (by (with_reducible repeat (first | refine zae ?_ _ | refine zag ?_ | refine zaf ?_ _)); exact BK261.out)) : gb293 ≠ gb261)); clear HO289; clear BK260; clear BK261; clear HB; have HO289 := n0_; have BK260 := n1_; have BK261 := n2_; have HB := n3_; have BK293 := n4_; have GW293 := n5_; have GE293 := n6_; have NB260_293 := n7_; have NB293_260 := n8_; have NB261_293 := n9_; have NB293_261 := n10_; clear n0_ n1_ n2_ n3_ n4_ n5_ n6_ n7_ n8_ n9_ n10_; clear hb hbox hg; have hnb148 := NB293_260.out; have hnc148 := NB260_293.out; have hnb149 := NB293_261.out; have hnc149 := NB261_293.out; have hcz150_0 : w147.cell? ⟨gb293, 0, none⟩ = some (.int .i64 0) := (zah BK293.out 0).trans rfl; have hcz150_1 : w147.cell? ⟨gb293, 1, none⟩ = some (.slice none 0 0) := (zah BK293.out 1).trans rfl; have hcz150_2 : w147.cell? ⟨gb293, 2, none⟩ = some (.string ⟨#[]⟩) := (zah BK293.out 2).trans rfl; have hfz150_0 := zai BK293.out 0; have hfz150_1 := zai BK293.out 1; have hfz150_2 := zai BK293.out 2; obtain ⟨Ao151, co151, eo151⟩ := Kd.zca HO289.out; subst eo151; have hnb152 := NB261_260.out; have hnc152 := NB260_261.out; have hcz153_0 : w147.cell? ⟨gb261, 0, none⟩ = some (.int .i64 a1_0) := (zah BK261.out 0).trans rfl; have hcz153_1 : w147.cell? ⟨gb261, 1, none⟩ = some (.slice A1_1 l1_1.length c1_1) := (zah BK261.out 1).trans rfl; have hcz153_2 : w147.cell? ⟨gb261, 2, none⟩ = some (.string a1_2) := (zah BK261.out 2).trans rfl; have hfz153_0 := zai BK261.out 0; have hfz153_1 := zai BK261.out 1; have hfz153_2 := zai BK261.out 2))
                         go_ret
                         exact ⟨by first | rfl | (simp [zaq, zap] <;> rfl) | (simp [*, zaq, zap] <;> rfl), by repeat (first | (with_reducible first | exact HB.out | apply zac | apply zaa | apply zab | refine zad ?_ GE260.out | refine zad ?_ GE261.out | refine zad ?_ GE293.out) | exact HB.out)⟩
                       ·rw [if_neg c135] at H
                        have c135b0 : (t286 == a1_0) = false := beq_eq_false_iff_ne.mpr c135
                        have c135b1 : (t286 != a1_0) = true := bne_iff_ne.mpr c135
                        obtain rfl := Option.some.inj H
                        go_wp2_with (first | ((with_reducible refine zar (f := 9) rfl ?_); refine zbr (some 168) rfl rfl Tryz.func9 (by kernel_rfl) rfl #[.string (t278 ++ a2)] rfl (by (try simp only [List.map_toArray, List.map_cons, List.map_nil]); first | done | rfl | (simp only [List.length_drop, List.length_take]; rfl)) ?_; (with_reducible refine (zcc.calls kj119 (t278 ++ a2) t286 t287 t290 t291 t292 _ ?side1 A132.out).mono ?_); (case side1 => exact LaidM.below HT.out (by repeat (first | (with_reducible first | exact HB.out | apply zac | apply zaa | apply zab | refine zad ?_ GE260.out | refine zad ?_ GE261.out) | exact HB.out))); rintro e w154 ⟨v288, rfl, ho0, hb⟩; refine ⟨_, rfl, ?_⟩; have n0_ := Aside0.mk (Kd.zby ho0 (zan (by repeat (first | (with_reducible first | exact HB.out | apply zac | apply zaa | apply zab | refine zad ?_ GE260.out | refine zad ?_ GE261.out) | exact HB.out)))); have n1_ := Aside0.mk (zao (g := gb260) (o := .cells #[.string a0_0, .string a0_1, .slice A0_2 l0_2.length c0_2, .string a0_3] 25 (0, 0)) (by (with_reducible repeat (first | refine zae ?_ _ | refine zag ?_ | refine zaf ?_ _)); exact BK260.out) hb); have n2_ := Aside0.mk (zao (g := gb261) (o := .cells #[.int .i64 a1_0, .slice A1_1 l1_1.length c1_1, .string a1_2] 33 (0, 0)) (by (with_reducible repeat (first | refine zae ?_ _ | refine zag ?_ | refine zaf ?_ _)); exact BK261.out) hb); have n3_ := Aside0.mk (zam (by repeat (first | (with_reducible first | exact HB.out | apply zac | apply zaa | apply zab | refine zad ?_ GE260.out | refine zad ?_ GE261.out) | exact HB.out)) hb); clear BK260; clear BK261; clear HB; have HO289 := n0_; have BK260 := n1_; have BK261 := n2_; have HB := n3_; clear n0_ n1_ n2_ n3_; (try clear hb); (try clear hb2); (try clear hk); (try clear hi); (try clear ho0)) | ((with_reducible refine zbj (N := 16) rfl ?_); (try (refine zbi (by rfl) ?_; dsimp only)); refine zbf ?hg (N := 16) ?hd (cs := #[.int .i64 0, .slice none 0 0, .string ⟨#[]⟩]) (t := 33) ?hr ?_; (case hd => rfl); (case hg => rfl); (case hr => first | (go_simp; done) | (go_simp; rfl)); intro gb293 hg w155 hbox hb; have n0_ := Aside0.mk (Kd.zbl (by (with_reducible repeat (first | apply Kd.zbc | apply Kd.zbb | apply Kd.zbg)); exact HO289.out) hb); have n1_ := Aside0.mk (zao (g := gb260) (o := .cells #[.string a0_0, .string a0_1, .slice A0_2 l0_2.length c0_2, .string a0_3] 25 (0, 0)) (by (with_reducible repeat (first | refine zae ?_ _ | refine zag ?_ | refine zaf ?_ _)); exact BK260.out) hb); have n2_ := Aside0.mk (zao (g := gb261) (o := .cells #[.int .i64 a1_0, .slice A1_1 l1_1.length c1_1, .string a1_2] 33 (0, 0)) (by (with_reducible repeat (first | refine zae ?_ _ | refine zag ?_ | refine zaf ?_ _)); exact BK261.out) hb); have n3_ := Aside0.mk (zam (by repeat (first | (with_reducible first | exact HB.out | apply zac | apply zaa | apply zab | refine zad ?_ GE260.out | refine zad ?_ GE261.out) | exact HB.out)) hb); have n4_ := Aside0.mk (hbox); have n5_ := Aside0.mk ((by rw [hg]; exact (zan (by repeat (first | (with_reducible first | exact HB.out | apply zac | apply zaa | apply zab | refine zad ?_ GE260.out | refine zad ?_ GE261.out) | exact HB.out))) : w.heap.size ≤ gb293)); have n6_ := Aside0.mk ((by rw [hg]; exact (zan (by repeat (first | (with_reducible first | exact HB.out | apply zac | apply zaa | apply zab | refine zad ?_ GE260.out | refine zad ?_ GE261.out) | exact HB.out))) : w.heap.size ≤ gb293)); have n7_ := Aside0.mk ((by rw [hg]; exact Nat.ne_of_lt (zbv (g := gb260) (o := .cells #[.string a0_0, .string a0_1, .slice A0_2 l0_2.length c0_2, .string a0_3] 25 (0, 0)) (by (with_reducible repeat (first | refine zae ?_ _ | refine zag ?_ | refine zaf ?_ _)); exact BK260.out)) : gb260 ≠ gb293)); have n8_ := Aside0.mk ((by rw [hg]; exact Nat.ne_of_gt (zbv (g := gb260) (o := .cells #[.string a0_0, .string a0_1, .slice A0_2 l0_2.length c0_2, .string a0_3] 25 (0, 0)) (by (with_reducible repeat (first | refine zae ?_ _ | refine zag ?_ | refine zaf ?_ _)); exact BK260.out)) : gb293 ≠ gb260)); have n9_ := Aside0.mk ((by rw [hg]; exact Nat.ne_of_lt (zbv (g := gb261) (o := .cells #[.int .i64 a1_0, .slice A1_1 l1_1.length c1_1, .string a1_2] 33 (0, 0)) (by (with_reducible repeat (first | refine zae ?_ _ | refine zag ?_ | refine zaf ?_ _)); exact BK261.out)) : gb261 ≠ gb293)); have n10_ := Aside0.mk ((by rw [hg]; exact Nat.ne_of_gt (zbv (g := gb261) (o := .cells #[.int .i64 a1_0, .slice A1_1 l1_1.length c1_1, .string a1_2] 33 (0, 0)) (by (with_reducible repeat (first | refine zae ?_ _ | refine zag ?_ | refine zaf ?_ _)); exact BK261.out)) : gb293 ≠ gb261)); clear HO289; clear BK260; clear BK261; clear HB; have HO289 := n0_; have BK260 := n1_; have BK261 := n2_; have HB := n3_; have BK293 := n4_; have GW293 := n5_; have GE293 := n6_; have NB260_293 := n7_; have NB293_260 := n8_; have NB261_293 := n9_; have NB293_261 := n10_; clear n0_ n1_ n2_ n3_ n4_ n5_ n6_ n7_ n8_ n9_ n10_; clear hb hbox hg; have hnb156 := NB293_260.out; have hnc156 := NB260_293.out; have hnb157 := NB293_261.out; have hnc157 := NB261_293.out; have hcz158_0 : w155.cell? ⟨gb293, 0, none⟩ = some (.int .i64 0) := (zah BK293.out 0).trans rfl; have hcz158_1 : w155.cell? ⟨gb293, 1, none⟩ = some (.slice none 0 0) := (zah BK293.out 1).trans rfl; have hcz158_2 : w155.cell? ⟨gb293, 2, none⟩ = some (.string ⟨#[]⟩) := (zah BK293.out 2).trans rfl; have hfz158_0 := zai BK293.out 0; have hfz158_1 := zai BK293.out 1; have hfz158_2 := zai BK293.out 2; obtain ⟨Ao159, co159, eo159⟩ := Kd.zca HO289.out; subst eo159; have hnb160 := NB261_260.out; have hnc160 := NB260_261.out; have hcz161_0 : w155.cell? ⟨gb261, 0, none⟩ = some (.int .i64 a1_0) := (zah BK261.out 0).trans rfl; have hcz161_1 : w155.cell? ⟨gb261, 1, none⟩ = some (.slice A1_1 l1_1.length c1_1) := (zah BK261.out 1).trans rfl; have hcz161_2 : w155.cell? ⟨gb261, 2, none⟩ = some (.string a1_2) := (zah BK261.out 2).trans rfl; have hfz161_0 := zai BK261.out 0; have hfz161_1 := zai BK261.out 1; have hfz161_2 := zai BK261.out 2))
                        go_ret
                        exact ⟨by first | rfl | (simp [zaq, zap] <;> rfl) | (simp [*, zaq, zap] <;> rfl), by repeat (first | (with_reducible first | exact HB.out | apply zac | apply zaa | apply zab | refine zad ?_ GE260.out | refine zad ?_ GE261.out | refine zad ?_ GE293.out) | exact HB.out)⟩
                      ·rw [if_neg c134] at H
                       have c134b0 : (t291 == (t278.size : Int)) = false := beq_eq_false_iff_ne.mpr c134
                       have c134b1 : (t291 != (t278.size : Int)) = true := bne_iff_ne.mpr c134
                       obtain rfl := Option.some.inj H
                       go_wp2_with (first | ((with_reducible refine zar (f := 9) rfl ?_); refine zbr (some 168) rfl rfl Tryz.func9 (by kernel_rfl) rfl #[.string (t278 ++ a2)] rfl (by (try simp only [List.map_toArray, List.map_cons, List.map_nil]); first | done | rfl | (simp only [List.length_drop, List.length_take]; rfl)) ?_; (with_reducible refine (zcc.calls kj119 (t278 ++ a2) t286 t287 t290 t291 t292 _ ?side1 A132.out).mono ?_); (case side1 => exact LaidM.below HT.out (by repeat (first | (with_reducible first | exact HB.out | apply zac | apply zaa | apply zab | refine zad ?_ GE260.out | refine zad ?_ GE261.out) | exact HB.out))); rintro e w162 ⟨v288, rfl, ho0, hb⟩; refine ⟨_, rfl, ?_⟩; have n0_ := Aside0.mk (Kd.zby ho0 (zan (by repeat (first | (with_reducible first | exact HB.out | apply zac | apply zaa | apply zab | refine zad ?_ GE260.out | refine zad ?_ GE261.out) | exact HB.out)))); have n1_ := Aside0.mk (zao (g := gb260) (o := .cells #[.string a0_0, .string a0_1, .slice A0_2 l0_2.length c0_2, .string a0_3] 25 (0, 0)) (by (with_reducible repeat (first | refine zae ?_ _ | refine zag ?_ | refine zaf ?_ _)); exact BK260.out) hb); have n2_ := Aside0.mk (zao (g := gb261) (o := .cells #[.int .i64 a1_0, .slice A1_1 l1_1.length c1_1, .string a1_2] 33 (0, 0)) (by (with_reducible repeat (first | refine zae ?_ _ | refine zag ?_ | refine zaf ?_ _)); exact BK261.out) hb); have n3_ := Aside0.mk (zam (by repeat (first | (with_reducible first | exact HB.out | apply zac | apply zaa | apply zab | refine zad ?_ GE260.out | refine zad ?_ GE261.out) | exact HB.out)) hb); clear BK260; clear BK261; clear HB; have HO289 := n0_; have BK260 := n1_; have BK261 := n2_; have HB := n3_; clear n0_ n1_ n2_ n3_; (try clear hb); (try clear hb2); (try clear hk); (try clear hi); (try clear ho0)) | ((with_reducible refine zbj (N := 16) rfl ?_); (try (refine zbi (by rfl) ?_; dsimp only)); refine zbf ?hg (N := 16) ?hd (cs := #[.int .i64 0, .slice none 0 0, .string ⟨#[]⟩]) (t := 33) ?hr ?_; (case hd => rfl); (case hg => rfl); (case hr => first | (go_simp; done) | (go_simp; rfl)); intro gb293 hg w163 hbox hb; have n0_ := Aside0.mk (Kd.zbl (by (with_reducible repeat (first | apply Kd.zbc | apply Kd.zbb | apply Kd.zbg)); exact HO289.out) hb); have n1_ := Aside0.mk (zao (g := gb260) (o := .cells #[.string a0_0, .string a0_1, .slice A0_2 l0_2.length c0_2, .string a0_3] 25 (0, 0)) (by (with_reducible repeat (first | refine zae ?_ _ | refine zag ?_ | refine zaf ?_ _)); exact BK260.out) hb); have n2_ := Aside0.mk (zao (g := gb261) (o := .cells #[.int .i64 a1_0, .slice A1_1 l1_1.length c1_1, .string a1_2] 33 (0, 0)) (by (with_reducible repeat (first | refine zae ?_ _ | refine zag ?_ | refine zaf ?_ _)); exact BK261.out) hb); have n3_ := Aside0.mk (zam (by repeat (first | (with_reducible first | exact HB.out | apply zac | apply zaa | apply zab | refine zad ?_ GE260.out | refine zad ?_ GE261.out) | exact HB.out)) hb); have n4_ := Aside0.mk (hbox); have n5_ := Aside0.mk ((by rw [hg]; exact (zan (by repeat (first | (with_reducible first | exact HB.out | apply zac | apply zaa | apply zab | refine zad ?_ GE260.out | refine zad ?_ GE261.out) | exact HB.out))) : w.heap.size ≤ gb293)); have n6_ := Aside0.mk ((by rw [hg]; exact (zan (by repeat (first | (with_reducible first | exact HB.out | apply zac | apply zaa | apply zab | refine zad ?_ GE260.out | refine zad ?_ GE261.out) | exact HB.out))) : w.heap.size ≤ gb293)); have n7_ := Aside0.mk ((by rw [hg]; exact Nat.ne_of_lt (zbv (g := gb260) (o := .cells #[.string a0_0, .string a0_1, .slice A0_2 l0_2.length c0_2, .string a0_3] 25 (0, 0)) (by (with_reducible repeat (first | refine zae ?_ _ | refine zag ?_ | refine zaf ?_ _)); exact BK260.out)) : gb260 ≠ gb293)); have n8_ := Aside0.mk ((by rw [hg]; exact Nat.ne_of_gt (zbv (g := gb260) (o := .cells #[.string a0_0, .string a0_1, .slice A0_2 l0_2.length c0_2, .string a0_3] 25 (0, 0)) (by (with_reducible repeat (first | refine zae ?_ _ | refine zag ?_ | refine zaf ?_ _)); exact BK260.out)) : gb293 ≠ gb260)); have n9_ := Aside0.mk ((by rw [hg]; exact Nat.ne_of_lt (zbv (g := gb261) (o := .cells #[.int .i64 a1_0, .slice A1_1 l1_1.length c1_1, .string a1_2] 33 (0, 0)) (by (with_reducible repeat (first | refine zae ?_ _ | refine zag ?_ | refine zaf ?_ _)); exact BK261.out)) : gb261 ≠ gb293)); have n10_ := Aside0.mk ((by rw [hg]; exact Nat.ne_of_gt (zbv (g := gb261) (o := .cells #[.int .i64 a1_0, .slice A1_1 l1_1.length c1_1, .string a1_2] 33 (0, 0)) (by (with_reducible repeat (first | refine zae ?_ _ | refine zag ?_ | refine zaf ?_ _)); exact BK261.out)) : gb293 ≠ gb261)); clear HO289; clear BK260; clear BK261; clear HB; have HO289 := n0_; have BK260 := n1_; have BK261 := n2_; have HB := n3_; have BK293 := n4_; have GW293 := n5_; have GE293 := n6_; have NB260_293 := n7_; have NB293_260 := n8_; have NB261_293 := n9_; have NB293_261 := n10_; clear n0_ n1_ n2_ n3_ n4_ n5_ n6_ n7_ n8_ n9_ n10_; clear hb hbox hg; have hnb164 := NB293_260.out; have hnc164 := NB260_293.out; have hnb165 := NB293_261.out; have hnc165 := NB261_293.out; have hcz166_0 : w163.cell? ⟨gb293, 0, none⟩ = some (.int .i64 0) := (zah BK293.out 0).trans rfl; have hcz166_1 : w163.cell? ⟨gb293, 1, none⟩ = some (.slice none 0 0) := (zah BK293.out 1).trans rfl; have hcz166_2 : w163.cell? ⟨gb293, 2, none⟩ = some (.string ⟨#[]⟩) := (zah BK293.out 2).trans rfl; have hfz166_0 := zai BK293.out 0; have hfz166_1 := zai BK293.out 1; have hfz166_2 := zai BK293.out 2; obtain ⟨Ao167, co167, eo167⟩ := Kd.zca HO289.out; subst eo167))
                       go_ret
                       exact ⟨by first | rfl | (simp [zaq, zap] <;> rfl) | (simp [*, zaq, zap] <;> rfl), by repeat (first | (with_reducible first | exact HB.out | apply zac | apply zaa | apply zab | refine zad ?_ GE260.out | refine zad ?_ GE261.out | refine zad ?_ GE293.out) | exact HB.out)⟩
                     ·rw [if_neg c133] at H
                      have c133b0 : (t292 == 0) = false := beq_eq_false_iff_ne.mpr c133
                      have c133b1 : (t292 != 0) = true := bne_iff_ne.mpr c133
                      obtain rfl := Option.some.inj H
                      go_wp2_with (first | ((with_reducible refine zar (f := 9) rfl ?_); refine zbr (some 168) rfl rfl Tryz.func9 (by kernel_rfl) rfl #[.string (t278 ++ a2)] rfl (by (try simp only [List.map_toArray, List.map_cons, List.map_nil]); first | done | rfl | (simp only [List.length_drop, List.length_take]; rfl)) ?_; (with_reducible refine (zcc.calls kj119 (t278 ++ a2) t286 t287 t290 t291 t292 _ ?side1 A132.out).mono ?_); (case side1 => exact LaidM.below HT.out (by repeat (first | (with_reducible first | exact HB.out | apply zac | apply zaa | apply zab | refine zad ?_ GE260.out | refine zad ?_ GE261.out) | exact HB.out))); rintro e w168 ⟨v288, rfl, ho0, hb⟩; refine ⟨_, rfl, ?_⟩; have n0_ := Aside0.mk (Kd.zby ho0 (zan (by repeat (first | (with_reducible first | exact HB.out | apply zac | apply zaa | apply zab | refine zad ?_ GE260.out | refine zad ?_ GE261.out) | exact HB.out)))); have n1_ := Aside0.mk (zao (g := gb260) (o := .cells #[.string a0_0, .string a0_1, .slice A0_2 l0_2.length c0_2, .string a0_3] 25 (0, 0)) (by (with_reducible repeat (first | refine zae ?_ _ | refine zag ?_ | refine zaf ?_ _)); exact BK260.out) hb); have n2_ := Aside0.mk (zao (g := gb261) (o := .cells #[.int .i64 a1_0, .slice A1_1 l1_1.length c1_1, .string a1_2] 33 (0, 0)) (by (with_reducible repeat (first | refine zae ?_ _ | refine zag ?_ | refine zaf ?_ _)); exact BK261.out) hb); have n3_ := Aside0.mk (zam (by repeat (first | (with_reducible first | exact HB.out | apply zac | apply zaa | apply zab | refine zad ?_ GE260.out | refine zad ?_ GE261.out) | exact HB.out)) hb); clear BK260; clear BK261; clear HB; have HO289 := n0_; have BK260 := n1_; have BK261 := n2_; have HB := n3_; clear n0_ n1_ n2_ n3_; (try clear hb); (try clear hb2); (try clear hk); (try clear hi); (try clear ho0)) | ((with_reducible refine zbj (N := 16) rfl ?_); (try (refine zbi (by rfl) ?_; dsimp only)); refine zbf ?hg (N := 16) ?hd (cs := #[.int .i64 0, .slice none 0 0, .string ⟨#[]⟩]) (t := 33) ?hr ?_; (case hd => rfl); (case hg => rfl); (case hr => first | (go_simp; done) | (go_simp; rfl)); intro gb293 hg w169 hbox hb; have n0_ := Aside0.mk (Kd.zbl (by (with_reducible repeat (first | apply Kd.zbc | apply Kd.zbb | apply Kd.zbg)); exact HO289.out) hb); have n1_ := Aside0.mk (zao (g := gb260) (o := .cells #[.string a0_0, .string a0_1, .slice A0_2 l0_2.length c0_2, .string a0_3] 25 (0, 0)) (by (with_reducible repeat (first | refine zae ?_ _ | refine zag ?_ | refine zaf ?_ _)); exact BK260.out) hb); have n2_ := Aside0.mk (zao (g := gb261) (o := .cells #[.int .i64 a1_0, .slice A1_1 l1_1.length c1_1, .string a1_2] 33 (0, 0)) (by (with_reducible repeat (first | refine zae ?_ _ | refine zag ?_ | refine zaf ?_ _)); exact BK261.out) hb); have n3_ := Aside0.mk (zam (by repeat (first | (with_reducible first | exact HB.out | apply zac | apply zaa | apply zab | refine zad ?_ GE260.out | refine zad ?_ GE261.out) | exact HB.out)) hb); have n4_ := Aside0.mk (hbox); have n5_ := Aside0.mk ((by rw [hg]; exact (zan (by repeat (first | (with_reducible first | exact HB.out | apply zac | apply zaa | apply zab | refine zad ?_ GE260.out | refine zad ?_ GE261.out) | exact HB.out))) : w.heap.size ≤ gb293)); have n6_ := Aside0.mk ((by rw [hg]; exact (zan (by repeat (first | (with_reducible first | exact HB.out | apply zac | apply zaa | apply zab | refine zad ?_ GE260.out | refine zad ?_ GE261.out) | exact HB.out))) : w.heap.size ≤ gb293)); have n7_ := Aside0.mk ((by rw [hg]; exact Nat.ne_of_lt (zbv (g := gb260) (o := .cells #[.string a0_0, .string a0_1, .slice A0_2 l0_2.length c0_2, .string a0_3] 25 (0, 0)) (by (with_reducible repeat (first | refine zae ?_ _ | refine zag ?_ | refine zaf ?_ _)); exact BK260.out)) : gb260 ≠ gb293)); have n8_ := Aside0.mk ((by rw [hg]; exact Nat.ne_of_gt (zbv (g := gb260) (o := .cells #[.string a0_0, .string a0_1, .slice A0_2 l0_2.length c0_2, .string a0_3] 25 (0, 0)) (by (with_reducible repeat (first | refine zae ?_ _ | refine zag ?_ | refine zaf ?_ _)); exact BK260.out)) : gb293 ≠ gb260)); have n9_ := Aside0.mk ((by rw [hg]; exact Nat.ne_of_lt (zbv (g := gb261) (o := .cells #[.int .i64 a1_0, .slice A1_1 l1_1.length c1_1, .string a1_2] 33 (0, 0)) (by (with_reducible repeat (first | refine zae ?_ _ | refine zag ?_ | refine zaf ?_ _)); exact BK261.out)) : gb261 ≠ gb293)); have n10_ := Aside0.mk ((by rw [hg]; exact Nat.ne_of_gt (zbv (g := gb261) (o := .cells #[.int .i64 a1_0, .slice A1_1 l1_1.length c1_1, .string a1_2] 33 (0, 0)) (by (with_reducible repeat (first | refine zae ?_ _ | refine zag ?_ | refine zaf ?_ _)); exact BK261.out)) : gb293 ≠ gb261)); clear HO289; clear BK260; clear BK261; clear HB; have HO289 := n0_; have BK260 := n1_; have BK261 := n2_; have HB := n3_; have BK293 := n4_; have GW293 := n5_; have GE293 := n6_; have NB260_293 := n7_; have NB293_260 := n8_; have NB261_293 := n9_; have NB293_261 := n10_; clear n0_ n1_ n2_ n3_ n4_ n5_ n6_ n7_ n8_ n9_ n10_; clear hb hbox hg; have hnb170 := NB293_260.out; have hnc170 := NB260_293.out; have hnb171 := NB293_261.out; have hnc171 := NB261_293.out; have hcz172_0 : w169.cell? ⟨gb293, 0, none⟩ = some (.int .i64 0) := (zah BK293.out 0).trans rfl; have hcz172_1 : w169.cell? ⟨gb293, 1, none⟩ = some (.slice none 0 0) := (zah BK293.out 1).trans rfl; have hcz172_2 : w169.cell? ⟨gb293, 2, none⟩ = some (.string ⟨#[]⟩) := (zah BK293.out 2).trans rfl; have hfz172_0 := zai BK293.out 0; have hfz172_1 := zai BK293.out 1; have hfz172_2 := zai BK293.out 2; obtain ⟨Ao173, co173, eo173⟩ := Kd.zca HO289.out; subst eo173))
                      go_ret
                      exact ⟨by first | rfl | (simp [zaq, zap] <;> rfl) | (simp [*, zaq, zap] <;> rfl), by repeat (first | (with_reducible first | exact HB.out | apply zac | apply zaa | apply zab | refine zad ?_ GE260.out | refine zad ?_ GE261.out | refine zad ?_ GE293.out) | exact HB.out)⟩
                    ·rw [if_neg c131] at H
                     exact absurd H (by simp)
                   ·rw [if_neg c130] at H
                    have c130b0 : (x10_108 == 0) = false := beq_eq_false_iff_ne.mpr c130
                    have c130b1 : (x10_108 != 0) = true := bne_iff_ne.mpr c130
                    obtain rfl := Option.some.inj H
                    go_wp2
                    go_ret
                    exact ⟨by first | rfl | (simp [zaq, zap] <;> rfl) | (simp [*, zaq, zap] <;> rfl), by repeat (first | (with_reducible first | exact HB.out | apply zac | apply zaa | apply zab | refine zad ?_ GE260.out | refine zad ?_ GE261.out) | exact HB.out)⟩
 ·replace c5 := Bool.eq_false_iff.mpr c5
  subst c5
  have H1 : (some false) = some r := by rw [if_neg (show ¬ (false = true) by decide)] at H; exact H
  clear H
  have H := H1
  clear H1
  obtain rfl := Option.some.inj H
  go_enter Tryz.func4, Tryz.ntmps4
  go_wp2_with (first | ((with_reducible refine zbj (N := 3) rfl ?_); (try (refine zbi (by rfl) ?_; dsimp only)); refine zbf ?hg (N := 3) ?hd (cs := #[.string a0_0, .string a0_1, .slice A0_2 l0_2.length c0_2, .string a0_3]) (t := 25) ?hr ?_; (case hd => rfl); (case hg => rfl); (case hr => first | (go_simp; done) | (go_simp; rfl)); intro gb260 hg w174 hbox hb; have n0_ := Aside0.mk (zam (by repeat (first | (with_reducible first | exact HB.out | apply zac | apply zaa | apply zab) | exact HB.out)) hb); have n1_ := Aside0.mk (hbox); have n2_ := Aside0.mk ((by rw [hg]; exact (zan (by repeat (first | (with_reducible first | exact HB.out | apply zac | apply zaa | apply zab) | exact HB.out))) : w.heap.size ≤ gb260)); have n3_ := Aside0.mk ((by rw [hg]; exact (zan (by repeat (first | (with_reducible first | exact HB.out | apply zac | apply zaa | apply zab) | exact HB.out))) : w.heap.size ≤ gb260)); clear HB; have HB := n0_; have BK260 := n1_; have GW260 := n2_; have GE260 := n3_; clear n0_ n1_ n2_ n3_; clear hb hbox hg) | ((with_reducible refine zbj (N := 4) rfl ?_); (try (refine zbi (by rfl) ?_; dsimp only)); refine zbf ?hg (N := 4) ?hd (cs := #[.int .i64 a1_0, .slice A1_1 l1_1.length c1_1, .string a1_2]) (t := 33) ?hr ?_; (case hd => rfl); (case hg => rfl); (case hr => first | (go_simp; done) | (go_simp; rfl)); intro gb261 hg w175 hbox hb; have n0_ := Aside0.mk (zao (g := gb260) (o := .cells #[.string a0_0, .string a0_1, .slice A0_2 l0_2.length c0_2, .string a0_3] 25 (0, 0)) (by (with_reducible repeat (first | refine zae ?_ _ | refine zag ?_ | refine zaf ?_ _)); exact BK260.out) hb); have n1_ := Aside0.mk (zam (by repeat (first | (with_reducible first | exact HB.out | apply zac | apply zaa | apply zab | refine zad ?_ GE260.out) | exact HB.out)) hb); have n2_ := Aside0.mk (hbox); have n3_ := Aside0.mk ((by rw [hg]; exact (zan (by repeat (first | (with_reducible first | exact HB.out | apply zac | apply zaa | apply zab | refine zad ?_ GE260.out) | exact HB.out))) : w.heap.size ≤ gb261)); have n4_ := Aside0.mk ((by rw [hg]; exact (zan (by repeat (first | (with_reducible first | exact HB.out | apply zac | apply zaa | apply zab | refine zad ?_ GE260.out) | exact HB.out))) : w.heap.size ≤ gb261)); have n5_ := Aside0.mk ((by rw [hg]; exact Nat.ne_of_lt (zbv (g := gb260) (o := .cells #[.string a0_0, .string a0_1, .slice A0_2 l0_2.length c0_2, .string a0_3] 25 (0, 0)) (by (with_reducible repeat (first | refine zae ?_ _ | refine zag ?_ | refine zaf ?_ _)); exact BK260.out)) : gb260 ≠ gb261)); have n6_ := Aside0.mk ((by rw [hg]; exact Nat.ne_of_gt (zbv (g := gb260) (o := .cells #[.string a0_0, .string a0_1, .slice A0_2 l0_2.length c0_2, .string a0_3] 25 (0, 0)) (by (with_reducible repeat (first | refine zae ?_ _ | refine zag ?_ | refine zaf ?_ _)); exact BK260.out)) : gb261 ≠ gb260)); clear BK260; clear HB; have BK260 := n0_; have HB := n1_; have BK261 := n2_; have GW261 := n3_; have GE261 := n4_; have NB260_261 := n5_; have NB261_260 := n6_; clear n0_ n1_ n2_ n3_ n4_ n5_ n6_; clear hb hbox hg) | ((with_reducible refine zar (f := 5) rfl ?_); refine zbr (some 19) rfl rfl Tryz.func5 (by kernel_rfl) rfl #[] rfl (by (try simp only [List.map_toArray, List.map_cons, List.map_nil]); first | done | rfl | (simp only [List.length_drop, List.length_take]; rfl)) ?_; (with_reducible refine (zcb.calls k  false _ ?side1 A4.out).mono ?_); (case side1 => exact LaidM.below HT.out (by repeat (first | (with_reducible first | exact HB.out | apply zac | apply zaa | apply zab | refine zad ?_ GE260.out | refine zad ?_ GE261.out) | exact HB.out))); rintro e w176 ⟨rfl, hb⟩; refine ⟨_, rfl, ?_⟩; have n0_ := Aside0.mk (zao (g := gb260) (o := .cells #[.string a0_0, .string a0_1, .slice A0_2 l0_2.length c0_2, .string a0_3] 25 (0, 0)) (by (with_reducible repeat (first | refine zae ?_ _ | refine zag ?_ | refine zaf ?_ _)); exact BK260.out) hb); have n1_ := Aside0.mk (zao (g := gb261) (o := .cells #[.int .i64 a1_0, .slice A1_1 l1_1.length c1_1, .string a1_2] 33 (0, 0)) (by (with_reducible repeat (first | refine zae ?_ _ | refine zag ?_ | refine zaf ?_ _)); exact BK261.out) hb); have n2_ := Aside0.mk (zam (by repeat (first | (with_reducible first | exact HB.out | apply zac | apply zaa | apply zab | refine zad ?_ GE260.out | refine zad ?_ GE261.out) | exact HB.out)) hb); clear BK260; clear BK261; clear HB; have BK260 := n0_; have BK261 := n1_; have HB := n2_; clear n0_ n1_ n2_; (try clear hb); (try clear hb2); (try clear hk); (try clear hi)))
  go_ret
  exact ⟨by first | rfl | (simp [zaq, zap] <;> rfl) | (simp [*, zaq, zap] <;> rfl), by repeat (first | (with_reducible first | exact HB.out | apply zac | apply zaa | apply zab | refine zad ?_ GE260.out | refine zad ?_ GE261.out) | exact HB.out)⟩
end Go.Proofs.YtipfekjmcddelaaGreatDoor.XHttpWrites
