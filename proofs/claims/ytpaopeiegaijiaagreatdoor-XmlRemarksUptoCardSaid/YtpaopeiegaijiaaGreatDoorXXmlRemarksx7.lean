-- written by wip/xprint.py: the kit's print with functions walked by hand
import Derived.Test.YtpaopeiegaijiaaGreatDoorXXmlRemarksx0
import Derived.Test.YtpaopeiegaijiaaGreatDoorXXmlRemarksx4
import Derived.Test.YtpaopeiegaijiaaGreatDoorXXmlRemarksx6
namespace Go.Proofs.YtpaopeiegaijiaaGreatDoor.XXmlRemarks
open Go.RowKit Go.Proofs.YtpaopeiegaijiaaGreatDoorW.PrintWords Go.Proofs.YtpaopeiegaijiaaGreatDoorW.PrintLast Go.Proofs.YtpaopeiegaijiaaGreatDoorW.PrintMore
attribute [local go_sem] max2_int min2_int max_two min_two max_three min_three max_four min_four   -- for this text's walks alone
set_option linter.unusedVariables false
set_option linter.unusedSimpArgs false

/-! ### calepinlaw07_XmlRemarks: function 8 -/
mutual
def calepinlaw07_XmlRemarks.l0 : Nat → List (S60) → Int → ByteArray → Int → Option (Bool)
  | 0, _, _, _, _ => none
  | k + 1, x0, x1, x2, x7 => if (wrap64 (x7 + 1)) < (x2.size : Int) then (if 0 ≤ x7 then (if x7 < (x2.size : Int) then (if (bt x2 x7) = 45 then (if 0 ≤ (wrap64 (x7 + 1)) then (if (bt x2 (wrap64 (x7 + 1))) = 45 then (some true) else (calepinlaw07_XmlRemarks.l0 k x0 x1 x2 (wrap64 (x7 + 1)))) else (none)) else (calepinlaw07_XmlRemarks.l0 k x0 x1 x2 (wrap64 (x7 + 1)))) else (none)) else (none)) else (if (x0.length : Int) > 200 then (calepinlaw07_XmlRemarks.j1 k x0 x1 x2 true) else (if (x2.size : Int) > 2000 then (calepinlaw07_XmlRemarks.j1 k x0 x1 x2 true) else ((calepinref07_Right.f k x0).bind fun t151 => (if t151 = true then (if (x2.size : Int) > 0 then (if 0 ≤ (wrap64 ((x2.size : Int) - 1)) then (if (wrap64 ((x2.size : Int) - 1)) < (x2.size : Int) then (calepinlaw07_XmlRemarks.j1 k x0 x1 x2 ((bt x2 (wrap64 ((x2.size : Int) - 1))) == 45)) else (none)) else (none)) else (calepinlaw07_XmlRemarks.j1 k x0 x1 x2 false)) else (calepinlaw07_XmlRemarks.j1 k x0 x1 x2 true)))))
def calepinlaw07_XmlRemarks.j1 : Nat → List (S60) → Int → ByteArray → Bool → Option (Bool)
  | 0, _, _, _, _ => none
  | k + 1, x0, x1, x2, x61 => if x61 = true then (some true) else ((xml_Print.f k x0).bind fun bt152 => (if bt152.2 = 0 then (if (IntKind.u64.wrap ((bt152.1.size : Int))) = 0 then (none) else (calepinlaw07_XmlRemarks.l1 k x0 x2 bt152.1 (wrap64 (Int.tmod (IntKind.u64.wrap (x1)) (IntKind.u64.wrap ((bt152.1.size : Int))))))) else (some (bt152.2 == 11))))
def calepinlaw07_XmlRemarks.j3 : Nat → List (S60) → ByteArray → ByteArray → Int → Option (Bool)
  | 0, _, _, _, _ => none
  | k + 1, x0, x2, x8, x10 => if 0 ≤ x10 then (if x10 ≤ (x8.size : Int) then (if (x8.extract 0 (x10 : Int).toNat).size + 4 ≤ 9223372036854775807 then (if ((x8.extract 0 (x10 : Int).toNat) ++ (⟨#[60, 33, 45, 45]⟩ : ByteArray)).size + x2.size ≤ 9223372036854775807 then (if (((x8.extract 0 (x10 : Int).toNat) ++ (⟨#[60, 33, 45, 45]⟩ : ByteArray)) ++ x2).size + 3 ≤ 9223372036854775807 then (if ((((x8.extract 0 (x10 : Int).toNat) ++ (⟨#[60, 33, 45, 45]⟩ : ByteArray)) ++ x2) ++ (⟨#[45, 45, 62]⟩ : ByteArray)).size + (x8.extract (x10 : Int).toNat x8.size).size ≤ 9223372036854775807 then ((xml_Parse.f (((((x8.extract 0 (x10 : Int).toNat) ++ (⟨#[60, 33, 45, 45]⟩ : ByteArray)) ++ x2) ++ (⟨#[45, 45, 62]⟩ : ByteArray)) ++ (x8.extract (x10 : Int).toNat x8.size))).bind fun bt154 => (if ((((((x8.extract 0 (x10 : Int).toNat) ++ (⟨#[60, 33, 45, 45]⟩ : ByteArray)) ++ x2) ++ (⟨#[45, 45, 62]⟩ : ByteArray)) ++ (x8.extract (x10 : Int).toNat x8.size)).size : Int) > 65536 then (some (bt154.2 == 11)) else (if 3 + x2.size ≤ 9223372036854775807 then (if ((⟨#[60, 97, 62]⟩ : ByteArray) ++ x2).size + 4 ≤ 9223372036854775807 then ((xml_Parse.f (((⟨#[60, 97, 62]⟩ : ByteArray) ++ x2) ++ (⟨#[60, 47, 97, 62]⟩ : ByteArray))).bind fun bt158 => (if bt154.2 = 0 then ((calepinref07_Same.f k bt154.1 x0).bind fun t162 => (if t162 = true then (some true) else (if bt154.2 = 10 then (if bt158.2 = 10 then (some true) else (some (decide ((x2.size : Int) > 0)))) else (some false)))) else (if bt154.2 = 10 then (if bt158.2 = 10 then (some true) else (some (decide ((x2.size : Int) > 0)))) else (some false)))) else (none)) else (none)))) else (none)) else (none)) else (none)) else (none)) else (none)) else (none)
def calepinlaw07_XmlRemarks.l1 : Nat → List (S60) → ByteArray → ByteArray → Int → Option (Bool)
  | 0, _, _, _, _ => none
  | k + 1, x0, x2, x8, x10 => if x10 < (x8.size : Int) then (if 0 ≤ x10 then (if (bt x8 x10) = 60 then (calepinlaw07_XmlRemarks.j3 k x0 x2 x8 x10) else (calepinlaw07_XmlRemarks.l1 k x0 x2 x8 (wrap64 (x10 + 1)))) else (none)) else (calepinlaw07_XmlRemarks.j3 k x0 x2 x8 x10)
end
def calepinlaw07_XmlRemarks.f (k : Nat) (l0 : List (S60)) (a1 : Int) (a2 : ByteArray) : Option (Bool) := (calepinlaw07_first.f k).bind fun t150 => (if t150 = true then (calepinlaw07_XmlRemarks.l0 k l0 a1 a2 0) else (some false))
theorem calepinlaw07_XmlRemarks.mono_l : ∀ k, (∀ y0 y1 y2 y3, LeO (calepinlaw07_XmlRemarks.l0 k y0 y1 y2 y3) (calepinlaw07_XmlRemarks.l0 (k + 1) y0 y1 y2 y3)) ∧ (∀ y0 y1 y2 y3, LeO (calepinlaw07_XmlRemarks.j1 k y0 y1 y2 y3) (calepinlaw07_XmlRemarks.j1 (k + 1) y0 y1 y2 y3)) ∧ (∀ y0 y1 y2 y3, LeO (calepinlaw07_XmlRemarks.j3 k y0 y1 y2 y3) (calepinlaw07_XmlRemarks.j3 (k + 1) y0 y1 y2 y3)) ∧ (∀ y0 y1 y2 y3, LeO (calepinlaw07_XmlRemarks.l1 k y0 y1 y2 y3) (calepinlaw07_XmlRemarks.l1 (k + 1) y0 y1 y2 y3))
  | 0 => ⟨fun _ _ _ _ r h => by simp [calepinlaw07_XmlRemarks.l0] at h, fun _ _ _ _ r h => by simp [calepinlaw07_XmlRemarks.j1] at h, fun _ _ _ _ r h => by simp [calepinlaw07_XmlRemarks.j3] at h, fun _ _ _ _ r h => by simp [calepinlaw07_XmlRemarks.l1] at h⟩
  | k + 1 => by
    obtain ⟨ih0, ih1, ih2, ih3⟩ := calepinlaw07_XmlRemarks.mono_l k
    refine ⟨?_, ?_, ?_, ?_⟩
    · intro y0 y1 y2 y3
      unfold calepinlaw07_XmlRemarks.l0
      repeat' first
      | (with_reducible exact ih0 _ _ _ _)
      | (with_reducible exact ih1 _ _ _ _)
      | (with_reducible exact ih2 _ _ _ _)
      | (with_reducible exact ih3 _ _ _ _)
      | (with_reducible exact calepinlaw07_first.mono _)
      | (with_reducible exact calepinref07_Right.mono _ _)
      | (with_reducible exact calepinref07_Same.mono _ _ _)
      | (with_reducible exact xml_Print.mono _ _)
      | (with_reducible exact LeO.refl _)
      | (with_reducible exact LeO.none _)
      | (with_reducible refine LeO.ite ?_ ?_)
      | (with_reducible refine LeO.bind ?_ (fun _ => ?_))
      | exact ih0 _ _ _ _
      | exact ih1 _ _ _ _
      | exact ih2 _ _ _ _
      | exact ih3 _ _ _ _
      | exact calepinlaw07_first.mono _
      | exact calepinref07_Right.mono _ _
      | exact calepinref07_Same.mono _ _ _
      | exact xml_Print.mono _ _
      | exact LeO.none _
      | refine LeO.ite ?_ ?_
      | refine LeO.bind ?_ (fun _ => ?_)
    · intro y0 y1 y2 y3
      unfold calepinlaw07_XmlRemarks.j1
      repeat' first
      | (with_reducible exact ih0 _ _ _ _)
      | (with_reducible exact ih1 _ _ _ _)
      | (with_reducible exact ih2 _ _ _ _)
      | (with_reducible exact ih3 _ _ _ _)
      | (with_reducible exact calepinlaw07_first.mono _)
      | (with_reducible exact calepinref07_Right.mono _ _)
      | (with_reducible exact calepinref07_Same.mono _ _ _)
      | (with_reducible exact xml_Print.mono _ _)
      | (with_reducible exact LeO.refl _)
      | (with_reducible exact LeO.none _)
      | (with_reducible refine LeO.ite ?_ ?_)
      | (with_reducible refine LeO.bind ?_ (fun _ => ?_))
      | exact ih0 _ _ _ _
      | exact ih1 _ _ _ _
      | exact ih2 _ _ _ _
      | exact ih3 _ _ _ _
      | exact calepinlaw07_first.mono _
      | exact calepinref07_Right.mono _ _
      | exact calepinref07_Same.mono _ _ _
      | exact xml_Print.mono _ _
      | exact LeO.none _
      | refine LeO.ite ?_ ?_
      | refine LeO.bind ?_ (fun _ => ?_)
    · intro y0 y1 y2 y3
      unfold calepinlaw07_XmlRemarks.j3
      repeat' first
      | (with_reducible exact ih0 _ _ _ _)
      | (with_reducible exact ih1 _ _ _ _)
      | (with_reducible exact ih2 _ _ _ _)
      | (with_reducible exact ih3 _ _ _ _)
      | (with_reducible exact calepinlaw07_first.mono _)
      | (with_reducible exact calepinref07_Right.mono _ _)
      | (with_reducible exact calepinref07_Same.mono _ _ _)
      | (with_reducible exact xml_Print.mono _ _)
      | (with_reducible exact LeO.refl _)
      | (with_reducible exact LeO.none _)
      | (with_reducible refine LeO.ite ?_ ?_)
      | (with_reducible refine LeO.bind ?_ (fun _ => ?_))
      | exact ih0 _ _ _ _
      | exact ih1 _ _ _ _
      | exact ih2 _ _ _ _
      | exact ih3 _ _ _ _
      | exact calepinlaw07_first.mono _
      | exact calepinref07_Right.mono _ _
      | exact calepinref07_Same.mono _ _ _
      | exact xml_Print.mono _ _
      | exact LeO.none _
      | refine LeO.ite ?_ ?_
      | refine LeO.bind ?_ (fun _ => ?_)
    · intro y0 y1 y2 y3
      unfold calepinlaw07_XmlRemarks.l1
      repeat' first
      | (with_reducible exact ih0 _ _ _ _)
      | (with_reducible exact ih1 _ _ _ _)
      | (with_reducible exact ih2 _ _ _ _)
      | (with_reducible exact ih3 _ _ _ _)
      | (with_reducible exact calepinlaw07_first.mono _)
      | (with_reducible exact calepinref07_Right.mono _ _)
      | (with_reducible exact calepinref07_Same.mono _ _ _)
      | (with_reducible exact xml_Print.mono _ _)
      | (with_reducible exact LeO.refl _)
      | (with_reducible exact LeO.none _)
      | (with_reducible refine LeO.ite ?_ ?_)
      | (with_reducible refine LeO.bind ?_ (fun _ => ?_))
      | exact ih0 _ _ _ _
      | exact ih1 _ _ _ _
      | exact ih2 _ _ _ _
      | exact ih3 _ _ _ _
      | exact calepinlaw07_first.mono _
      | exact calepinref07_Right.mono _ _
      | exact calepinref07_Same.mono _ _ _
      | exact xml_Print.mono _ _
      | exact LeO.none _
      | refine LeO.ite ?_ ?_
      | refine LeO.bind ?_ (fun _ => ?_)
theorem calepinlaw07_XmlRemarks.mono : ∀ a0 a1 a2 k, LeO (calepinlaw07_XmlRemarks.f k a0 a1 a2) (calepinlaw07_XmlRemarks.f (k + 1) a0 a1 a2) := by
  intro a0 a1 a2 k
  obtain ⟨ih0, ih1, ih2, ih3⟩ := calepinlaw07_XmlRemarks.mono_l k
  unfold calepinlaw07_XmlRemarks.f
  repeat' first
      | (with_reducible exact ih0 _ _ _ _)
      | (with_reducible exact ih1 _ _ _ _)
      | (with_reducible exact ih2 _ _ _ _)
      | (with_reducible exact ih3 _ _ _ _)
      | (with_reducible exact calepinlaw07_first.mono _)
      | (with_reducible exact calepinref07_Right.mono _ _)
      | (with_reducible exact calepinref07_Same.mono _ _ _)
      | (with_reducible exact xml_Print.mono _ _)
      | (with_reducible exact LeO.refl _)
      | (with_reducible exact LeO.none _)
      | (with_reducible refine LeO.ite ?_ ?_)
      | (with_reducible refine LeO.bind ?_ (fun _ => ?_))
      | exact ih0 _ _ _ _
      | exact ih1 _ _ _ _
      | exact ih2 _ _ _ _
      | exact ih3 _ _ _ _
      | exact calepinlaw07_first.mono _
      | exact calepinref07_Right.mono _ _
      | exact calepinref07_Same.mono _ _ _
      | exact xml_Print.mono _ _
      | exact LeO.none _
      | refine LeO.ite ?_ ?_
      | refine LeO.bind ?_ (fun _ => ?_)
set_option maxHeartbeats 8000000 in
set_option maxRecDepth 100000 in
theorem calepinlaw07_XmlRemarks.calls (k : Nat) (A0 : Option Addr) (c0 : Nat) (l0 : List (S60)) (a1 : Int) (a2 : ByteArray) (r : Bool) (w : World) (hr0 : Kd.C k60 w A0 l0.length l0) (hc0 : l0.length ≤ c0) (hT : LaidM w) (h : calepinlaw07_XmlRemarks.f k l0 a1 a2 = some r) :
    Calls Tryz.prog 8 #[.slice A0 l0.length c0, .int .i64 a1, .string a2] w fun e w' => e = .returned (.bool r) ∧ Below w.heap.size w w' := by
  have HR0 := Aside0.mk hr0
  have HC0 := Aside0.mk hc0
  clear hr0 hc0
  have HB := Aside0.mk (Below.refl w.heap.size w)
  have HT := Aside0.mk hT
  clear hT
  have H : ((calepinlaw07_first.f k).bind fun t150 => (if t150 = true then (calepinlaw07_XmlRemarks.l0 k l0 a1 a2 0) else (some false))) = some r := h
  clear h
  replace H := Option.bind_eq_some_iff.mp H
  obtain ⟨t150, A40, H⟩ := H
  replace H : (if t150 = true then (calepinlaw07_XmlRemarks.l0 k l0 a1 a2 0) else (some false)) = some r := H
  have A4 := Aside0.mk A40
  clear A40
  by_cases c5 : t150 = true
  · subst c5
    have H1 : (calepinlaw07_XmlRemarks.l0 k l0 a1 a2 0) = some r := by rw [if_pos rfl] at H; exact H
    clear H
    have H := H1
    clear H1
    have H' := Aside0.mk H
    clear H
    go_enter Tryz.func8, Tryz.ntmps8
    go_wp2_with (first | (go_at_call 19; (with_reducible refine (calepinlaw07_first.calls k  true _ ?side1 A4.out).mono ?_); (case side1 => exact LaidM.below HT.out (by repeat (first | (with_reducible first | exact HB.out | apply below_alloc | apply pw_below_drewN | apply below_drew1) | exact HB.out))); rintro e w6 ⟨rfl, hb⟩; have n0_ := Aside0.mk (below_step (by repeat (first | (with_reducible first | exact HB.out | apply below_alloc | apply pw_below_drewN | apply below_drew1) | exact HB.out)) hb); clear HB; have HB := n0_; clear n0_; (try clear hb); (try clear hb2); (try clear hk); (try clear hi)))
    repeat (go_quiet (first | (go_at_call 19; (with_reducible refine (calepinlaw07_first.calls k  true _ ?side1 A4.out).mono ?_); (case side1 => exact LaidM.below HT.out (by repeat (first | (with_reducible first | exact HB.out | apply below_alloc | apply pw_below_drewN | apply below_drew1) | exact HB.out))); rintro e w6 ⟨rfl, hb⟩; have n0_ := Aside0.mk (below_step (by repeat (first | (with_reducible first | exact HB.out | apply below_alloc | apply pw_below_drewN | apply below_drew1) | exact HB.out)) hb); clear HB; have HB := n0_; clear n0_; (try clear hb); (try clear hb2); (try clear hk); (try clear hi))); try go_wp2_with (first | (go_at_call 19; (with_reducible refine (calepinlaw07_first.calls k  true _ ?side1 A4.out).mono ?_); (case side1 => exact LaidM.below HT.out (by repeat (first | (with_reducible first | exact HB.out | apply below_alloc | apply pw_below_drewN | apply below_drew1) | exact HB.out))); rintro e w6 ⟨rfl, hb⟩; have n0_ := Aside0.mk (below_step (by repeat (first | (with_reducible first | exact HB.out | apply below_alloc | apply pw_below_drewN | apply below_drew1) | exact HB.out)) hb); clear HB; have HB := n0_; clear n0_; (try clear hb); (try clear hb2); (try clear hk); (try clear hi))))
    go_loopg [7] k (fun kq v7 w' => ∃ (x7_1 : Int), v7 = .int .i64 x7_1 ∧ Aside0 (calepinlaw07_XmlRemarks.l0 kq l0 a1 a2 x7_1 = some r) ∧ Aside0 (kq ≤ k) ∧ Aside0 (Below w.heap.size w w'))
    case atStart => exact ⟨(0), (by first | rfl | (simp; done) | (simp [*]; done)), H', ⟨Nat.le_refl _⟩, ⟨by repeat (first | (with_reducible first | exact HB.out | apply below_alloc | apply pw_below_drewN | apply below_drew1) | exact HB.out)⟩⟩
    case round =>
      clear H'
      try clear p2
      try clear c5
      obtain ⟨x7_1, rfl, HA, HK1, HB⟩ := hrel
      cases gk with
      | zero => exact absurd HA.out (by simp [calepinlaw07_XmlRemarks.l0])
      | succ k1 =>
        have H := HA.out
        clear HA
        simp only [calepinlaw07_XmlRemarks.l0] at H
        by_cases c7 : (wrap64 (x7_1 + 1)) < (a2.size : Int)
        · rw [if_pos c7] at H
          have c7b0 : decide ((wrap64 (x7_1 + 1)) < (a2.size : Int)) = true := decide_eq_true c7
          clear c7
          by_cases c8 : 0 ≤ x7_1
          · rw [if_pos c8] at H
            have c8b0 : decide (0 ≤ x7_1) = true := decide_eq_true c8
            clear c8
            by_cases c9 : x7_1 < (a2.size : Int)
            · rw [if_pos c9] at H
              have c9b0 : decide (x7_1 < (a2.size : Int)) = true := decide_eq_true c9
              clear c9
              by_cases c11 : (bt a2 x7_1) = 45
              · rw [if_pos c11] at H
                have c11b0 : ((bt a2 x7_1) == 45) = true := beq_iff_eq.mpr c11
                have c11b1 : ((bt a2 x7_1) != 45) = false := bne_eq_false_iff_eq.mpr c11
                clear c11
                obtain ⟨ji12, hji12⟩ : ∃ j_ : Int, (wrap64 (x7_1 + 1)) = j_ := ⟨_, rfl⟩
                replace H : (if 0 ≤ (ji12) then (if (bt a2 (ji12)) = 45 then (some true) else (calepinlaw07_XmlRemarks.l0 k1 l0 a1 a2 ji12)) else (none)) = some r := by first | (rw [hji12] at H; exact H) | (simp only [hji12] at H ⊢; exact H)
                (try rw [hji12] at c7b0)
                have hji12w : (IntKind.i64.wrap (x7_1 + 1)) = ji12 := (i64_w _).trans hji12
                by_cases c13 : 0 ≤ (ji12)
                · rw [if_pos c13] at H
                  have c13b0 : decide (0 ≤ (ji12)) = true := decide_eq_true c13
                  clear c13
                  by_cases c15 : (bt a2 (ji12)) = 45
                  · rw [if_pos c15] at H
                    have c15b0 : ((bt a2 (ji12)) == 45) = true := beq_iff_eq.mpr c15
                    have c15b1 : ((bt a2 (ji12)) != 45) = false := bne_eq_false_iff_eq.mpr c15
                    clear c15
                    obtain rfl := Option.some.inj H
                    have p10 : 0 ≤ (x7_1 : Int) := of_decide_eq_true (by first | (with_reducible assumption) | assumption)
                    have q10 : x7_1 < (a2.size : Int) := of_decide_eq_true (by first | (with_reducible assumption) | assumption)
                    have hx10 := bt_at a2 x7_1
                    replace p10 := eq_true p10
                    replace q10 := eq_true q10
                    have p14 : 0 ≤ ((ji12) : Int) := of_decide_eq_true (by first | (with_reducible assumption) | assumption)
                    have q14 : (ji12) < (a2.size : Int) := of_decide_eq_true (by first | (with_reducible assumption) | assumption)
                    have hx14 := bt_at a2 (ji12)
                    replace p14 := eq_true p14
                    replace q14 := eq_true q14
                    go_wp2
                    repeat (go_quiet (fail); try go_wp2)
                    go_ret
                    exact ⟨by first | rfl | (simp [errW_none, errW_some] <;> rfl) | (simp only [← hji12]; first | rfl | (simp [errW_none, errW_some] <;> rfl)) | (simp [*, errW_none, errW_some] <;> rfl), by repeat (first | (with_reducible first | exact HB.out | apply below_alloc | apply pw_below_drewN | apply below_drew1) | exact HB.out)⟩
                  · rw [if_neg c15] at H
                    have c15b0 : ((bt a2 (ji12)) == 45) = false := beq_eq_false_iff_ne.mpr c15
                    have c15b1 : ((bt a2 (ji12)) != 45) = true := bne_iff_ne.mpr c15
                    have H' := Aside0.mk H
                    clear H
                    have p10 : 0 ≤ (x7_1 : Int) := of_decide_eq_true (by first | (with_reducible assumption) | assumption)
                    have q10 : x7_1 < (a2.size : Int) := of_decide_eq_true (by first | (with_reducible assumption) | assumption)
                    have hx10 := bt_at a2 x7_1
                    replace p10 := eq_true p10
                    replace q10 := eq_true q10
                    have p14 : 0 ≤ ((ji12) : Int) := of_decide_eq_true (by first | (with_reducible assumption) | assumption)
                    have q14 : (ji12) < (a2.size : Int) := of_decide_eq_true (by first | (with_reducible assumption) | assumption)
                    have hx14 := bt_at a2 (ji12)
                    replace p14 := eq_true p14
                    replace q14 := eq_true q14
                    go_wp2
                    repeat (go_quiet (fail); try go_wp2)
                    go_roundg k1
                    case measure => have := HK1.out; omega
                    case rel => exact ⟨(ji12), (by first | rfl | (simp; done) | (simp only [← hji12] <;> (first | rfl | simp)) | (simp [*]; done)), H', ⟨by have := HK1.out; omega⟩, ⟨by repeat (first | (with_reducible first | exact HB.out | apply below_alloc | apply pw_below_drewN | apply below_drew1) | exact HB.out)⟩⟩
                · rw [if_neg c13] at H
                  exact absurd H (by simp)
              · rw [if_neg c11] at H
                have c11b0 : ((bt a2 x7_1) == 45) = false := beq_eq_false_iff_ne.mpr c11
                have c11b1 : ((bt a2 x7_1) != 45) = true := bne_iff_ne.mpr c11
                have H' := Aside0.mk H
                clear H
                have p10 : 0 ≤ (x7_1 : Int) := of_decide_eq_true (by first | (with_reducible assumption) | assumption)
                have q10 : x7_1 < (a2.size : Int) := of_decide_eq_true (by first | (with_reducible assumption) | assumption)
                have hx10 := bt_at a2 x7_1
                replace p10 := eq_true p10
                replace q10 := eq_true q10
                go_wp2
                repeat (go_quiet (fail); try go_wp2)
                go_roundg k1
                case measure => have := HK1.out; omega
                case rel => exact ⟨(wrap64 (x7_1 + 1)), (by first | rfl | (simp; done) | (simp [*]; done)), H', ⟨by have := HK1.out; omega⟩, ⟨by repeat (first | (with_reducible first | exact HB.out | apply below_alloc | apply pw_below_drewN | apply below_drew1) | exact HB.out)⟩⟩
            · rw [if_neg c9] at H
              exact absurd H (by simp)
          · rw [if_neg c8] at H
            exact absurd H (by simp)
        · rw [if_neg c7] at H
          have c7b0 : decide ((wrap64 (x7_1 + 1)) < (a2.size : Int)) = false := decide_eq_false c7
          clear c7
          have HC16 := Aside0.mk H
          clear H
          go_upto_region 8 with (fail)
          repeat (go_quiet (fail); go_upto_region 8 with (fail))
          go_cut [61] (fun v61 wc => ∃ (kq : Nat) (x61_15 : Bool), v61 = .bool x61_15 ∧ Aside0 (calepinlaw07_XmlRemarks.j1 kq l0 a1 a2 x61_15 = some r) ∧ Aside0 (kq ≤ k1) ∧ Aside0 (Below w.heap.size w wc))
          case first =>
            have H := HC16.out
            clear HC16
            by_cases c17 : (l0.length : Int) > 200
            · rw [if_pos c17] at H
              have c17b0 : decide (200 < (l0.length : Int)) = true := decide_eq_true c17
              have c17b1 : decide (200 < l0.length) = true := decide_eq_true (by omega)
              clear c17
              (first | rw [c17b0] | rw [c17b1] | (simp only [i64_w, i32_w]; rw [c17b0]) | skip)
              have H' := Aside0.mk H
              clear H
              go_wp2
              repeat (go_quiet (fail); try go_wp2)
              go_meet
              case rel => exact ⟨_, (true), (by first | rfl | (simp; done) | (simp [*]; done)), H', ⟨by have := HK1.out; first | omega | exact Nat.le_refl _⟩, ⟨by repeat (first | (with_reducible first | exact HB.out | apply below_alloc | apply pw_below_drewN | apply below_drew1) | exact HB.out)⟩⟩
            · rw [if_neg c17] at H
              have c17b0 : decide (200 < (l0.length : Int)) = false := decide_eq_false c17
              have c17b1 : decide (200 < l0.length) = false := decide_eq_false (by omega)
              clear c17
              (first | rw [c17b0] | rw [c17b1] | rw [c17b1] | (simp only [i64_w, i32_w]; rw [c17b0]) | skip)
              by_cases c18 : (a2.size : Int) > 2000
              · rw [if_pos c18] at H
                have c18b0 : decide (2000 < (a2.size : Int)) = true := decide_eq_true c18
                have c18b1 : decide (2000 < a2.size) = true := decide_eq_true (by omega)
                clear c18
                have H' := Aside0.mk H
                clear H
                go_wp2
                repeat (go_quiet (fail); try go_wp2)
                go_meet
                case rel => exact ⟨_, (true), (by first | rfl | (simp; done) | (simp [*]; done)), H', ⟨by have := HK1.out; first | omega | exact Nat.le_refl _⟩, ⟨by repeat (first | (with_reducible first | exact HB.out | apply below_alloc | apply pw_below_drewN | apply below_drew1) | exact HB.out)⟩⟩
              · rw [if_neg c18] at H
                have c18b0 : decide (2000 < (a2.size : Int)) = false := decide_eq_false c18
                have c18b1 : decide (2000 < a2.size) = false := decide_eq_false (by omega)
                clear c18
                replace H := Option.bind_eq_some_iff.mp H
                obtain ⟨t151, A190, H⟩ := H
                replace H : (if t151 = true then (if (a2.size : Int) > 0 then (if 0 ≤ (wrap64 ((a2.size : Int) - 1)) then (if (wrap64 ((a2.size : Int) - 1)) < (a2.size : Int) then (calepinlaw07_XmlRemarks.j1 k1 l0 a1 a2 ((bt a2 (wrap64 ((a2.size : Int) - 1))) == 45)) else (none)) else (none)) else (calepinlaw07_XmlRemarks.j1 k1 l0 a1 a2 false)) else (calepinlaw07_XmlRemarks.j1 k1 l0 a1 a2 true)) = some r := H
                have A19 := Aside0.mk A190
                clear A190
                by_cases c20 : t151 = true
                · subst c20
                  have H1 : (if (a2.size : Int) > 0 then (if 0 ≤ (wrap64 ((a2.size : Int) - 1)) then (if (wrap64 ((a2.size : Int) - 1)) < (a2.size : Int) then (calepinlaw07_XmlRemarks.j1 k1 l0 a1 a2 ((bt a2 (wrap64 ((a2.size : Int) - 1))) == 45)) else (none)) else (none)) else (calepinlaw07_XmlRemarks.j1 k1 l0 a1 a2 false)) = some r := by rw [if_pos rfl] at H; exact H
                  clear H
                  have H := H1
                  clear H1
                  by_cases c21 : (a2.size : Int) > 0
                  · rw [if_pos c21] at H
                    have c21b0 : decide (0 < (a2.size : Int)) = true := decide_eq_true c21
                    have c21b1 : decide (0 < a2.size) = true := decide_eq_true (by omega)
                    clear c21
                    obtain ⟨ji22, hji22⟩ : ∃ j_ : Int, (wrap64 ((a2.size : Int) - 1)) = j_ := ⟨_, rfl⟩
                    replace H : (if 0 ≤ (ji22) then (if (ji22) < (a2.size : Int) then (calepinlaw07_XmlRemarks.j1 k1 l0 a1 a2 ((bt a2 (ji22)) == 45)) else (none)) else (none)) = some r := by first | (rw [hji22] at H; exact H) | (simp only [hji22] at H ⊢; exact H)
                    (try rw [hji22] at A19)
                    have hji22w : (IntKind.i64.wrap ((a2.size : Int) - 1)) = ji22 := (i64_w _).trans hji22
                    by_cases c23 : 0 ≤ (ji22)
                    · rw [if_pos c23] at H
                      have c23b0 : decide (0 ≤ (ji22)) = true := decide_eq_true c23
                      clear c23
                      by_cases c24 : (ji22) < (a2.size : Int)
                      · rw [if_pos c24] at H
                        have c24b0 : decide ((ji22) < (a2.size : Int)) = true := decide_eq_true c24
                        clear c24
                        have H' := Aside0.mk H
                        clear H
                        go_wp2_with (first | (go_at_call 23; (with_reducible refine (calepinref07_Right.calls k1 _ _ l0 true _ ?side1 ?side2 ?side3 A19.out).mono ?_); (case side1 => repeat (first | exact (Kd.C_below HR0.out HB.out) | (with_reducible refine Kd.C_alloc ?_ _) | (with_reducible refine Kd.C_drewN ?_ _) | (with_reducible refine Kd.C_drew ?_))); (case side2 => exact HC0.out); (case side3 => exact LaidM.below HT.out (by repeat (first | (with_reducible first | exact HB.out | apply below_alloc | apply pw_below_drewN | apply below_drew1) | exact HB.out))); rintro e w26 ⟨rfl, hb⟩; have n0_ := Aside0.mk (below_step (by repeat (first | (with_reducible first | exact HB.out | apply below_alloc | apply pw_below_drewN | apply below_drew1) | exact HB.out)) hb); clear HB; have HB := n0_; clear n0_; (try clear hb); (try clear hb2); (try clear hk); (try clear hi); have p25 : 0 ≤ ((ji22) : Int) := of_decide_eq_true (by first | (with_reducible assumption) | assumption); have q25 : (ji22) < (a2.size : Int) := of_decide_eq_true (by first | (with_reducible assumption) | assumption); have hx25 := bt_at a2 (ji22); replace p25 := eq_true p25; replace q25 := eq_true q25))
                        repeat (go_quiet (first | (go_at_call 23; (with_reducible refine (calepinref07_Right.calls k1 _ _ l0 true _ ?side1 ?side2 ?side3 A19.out).mono ?_); (case side1 => repeat (first | exact (Kd.C_below HR0.out HB.out) | (with_reducible refine Kd.C_alloc ?_ _) | (with_reducible refine Kd.C_drewN ?_ _) | (with_reducible refine Kd.C_drew ?_))); (case side2 => exact HC0.out); (case side3 => exact LaidM.below HT.out (by repeat (first | (with_reducible first | exact HB.out | apply below_alloc | apply pw_below_drewN | apply below_drew1) | exact HB.out))); rintro e w26 ⟨rfl, hb⟩; have n0_ := Aside0.mk (below_step (by repeat (first | (with_reducible first | exact HB.out | apply below_alloc | apply pw_below_drewN | apply below_drew1) | exact HB.out)) hb); clear HB; have HB := n0_; clear n0_; (try clear hb); (try clear hb2); (try clear hk); (try clear hi); have p25 : 0 ≤ ((ji22) : Int) := of_decide_eq_true (by first | (with_reducible assumption) | assumption); have q25 : (ji22) < (a2.size : Int) := of_decide_eq_true (by first | (with_reducible assumption) | assumption); have hx25 := bt_at a2 (ji22); replace p25 := eq_true p25; replace q25 := eq_true q25)); try go_wp2_with (first | (go_at_call 23; (with_reducible refine (calepinref07_Right.calls k1 _ _ l0 true _ ?side1 ?side2 ?side3 A19.out).mono ?_); (case side1 => repeat (first | exact (Kd.C_below HR0.out HB.out) | (with_reducible refine Kd.C_alloc ?_ _) | (with_reducible refine Kd.C_drewN ?_ _) | (with_reducible refine Kd.C_drew ?_))); (case side2 => exact HC0.out); (case side3 => exact LaidM.below HT.out (by repeat (first | (with_reducible first | exact HB.out | apply below_alloc | apply pw_below_drewN | apply below_drew1) | exact HB.out))); rintro e w26 ⟨rfl, hb⟩; have n0_ := Aside0.mk (below_step (by repeat (first | (with_reducible first | exact HB.out | apply below_alloc | apply pw_below_drewN | apply below_drew1) | exact HB.out)) hb); clear HB; have HB := n0_; clear n0_; (try clear hb); (try clear hb2); (try clear hk); (try clear hi); have p25 : 0 ≤ ((ji22) : Int) := of_decide_eq_true (by first | (with_reducible assumption) | assumption); have q25 : (ji22) < (a2.size : Int) := of_decide_eq_true (by first | (with_reducible assumption) | assumption); have hx25 := bt_at a2 (ji22); replace p25 := eq_true p25; replace q25 := eq_true q25)))
                        go_meet
                        case rel => exact ⟨_, (((bt a2 (ji22)) == 45)), (by first | rfl | (simp; done) | (simp only [← hji22] <;> (first | rfl | simp)) | (simp [*]; done)), H', ⟨by have := HK1.out; first | omega | exact Nat.le_refl _⟩, ⟨by repeat (first | (with_reducible first | exact HB.out | apply below_alloc | apply pw_below_drewN | apply below_drew1) | exact HB.out)⟩⟩
                      · rw [if_neg c24] at H
                        exact absurd H (by simp)
                    · rw [if_neg c23] at H
                      exact absurd H (by simp)
                  · rw [if_neg c21] at H
                    have c21b0 : decide (0 < (a2.size : Int)) = false := decide_eq_false c21
                    have c21b1 : decide (0 < a2.size) = false := decide_eq_false (by omega)
                    clear c21
                    have H' := Aside0.mk H
                    clear H
                    go_wp2_with (first | (go_at_call 23; (with_reducible refine (calepinref07_Right.calls k1 _ _ l0 true _ ?side1 ?side2 ?side3 A19.out).mono ?_); (case side1 => repeat (first | exact (Kd.C_below HR0.out HB.out) | (with_reducible refine Kd.C_alloc ?_ _) | (with_reducible refine Kd.C_drewN ?_ _) | (with_reducible refine Kd.C_drew ?_))); (case side2 => exact HC0.out); (case side3 => exact LaidM.below HT.out (by repeat (first | (with_reducible first | exact HB.out | apply below_alloc | apply pw_below_drewN | apply below_drew1) | exact HB.out))); rintro e w27 ⟨rfl, hb⟩; have n0_ := Aside0.mk (below_step (by repeat (first | (with_reducible first | exact HB.out | apply below_alloc | apply pw_below_drewN | apply below_drew1) | exact HB.out)) hb); clear HB; have HB := n0_; clear n0_; (try clear hb); (try clear hb2); (try clear hk); (try clear hi)))
                    repeat (go_quiet (first | (go_at_call 23; (with_reducible refine (calepinref07_Right.calls k1 _ _ l0 true _ ?side1 ?side2 ?side3 A19.out).mono ?_); (case side1 => repeat (first | exact (Kd.C_below HR0.out HB.out) | (with_reducible refine Kd.C_alloc ?_ _) | (with_reducible refine Kd.C_drewN ?_ _) | (with_reducible refine Kd.C_drew ?_))); (case side2 => exact HC0.out); (case side3 => exact LaidM.below HT.out (by repeat (first | (with_reducible first | exact HB.out | apply below_alloc | apply pw_below_drewN | apply below_drew1) | exact HB.out))); rintro e w27 ⟨rfl, hb⟩; have n0_ := Aside0.mk (below_step (by repeat (first | (with_reducible first | exact HB.out | apply below_alloc | apply pw_below_drewN | apply below_drew1) | exact HB.out)) hb); clear HB; have HB := n0_; clear n0_; (try clear hb); (try clear hb2); (try clear hk); (try clear hi))); try go_wp2_with (first | (go_at_call 23; (with_reducible refine (calepinref07_Right.calls k1 _ _ l0 true _ ?side1 ?side2 ?side3 A19.out).mono ?_); (case side1 => repeat (first | exact (Kd.C_below HR0.out HB.out) | (with_reducible refine Kd.C_alloc ?_ _) | (with_reducible refine Kd.C_drewN ?_ _) | (with_reducible refine Kd.C_drew ?_))); (case side2 => exact HC0.out); (case side3 => exact LaidM.below HT.out (by repeat (first | (with_reducible first | exact HB.out | apply below_alloc | apply pw_below_drewN | apply below_drew1) | exact HB.out))); rintro e w27 ⟨rfl, hb⟩; have n0_ := Aside0.mk (below_step (by repeat (first | (with_reducible first | exact HB.out | apply below_alloc | apply pw_below_drewN | apply below_drew1) | exact HB.out)) hb); clear HB; have HB := n0_; clear n0_; (try clear hb); (try clear hb2); (try clear hk); (try clear hi))))
                    go_meet
                    case rel => exact ⟨_, (false), (by first | rfl | (simp; done) | (simp [*]; done)), H', ⟨by have := HK1.out; first | omega | exact Nat.le_refl _⟩, ⟨by repeat (first | (with_reducible first | exact HB.out | apply below_alloc | apply pw_below_drewN | apply below_drew1) | exact HB.out)⟩⟩
                · replace c20 := Bool.eq_false_iff.mpr c20
                  subst c20
                  have H1 : (calepinlaw07_XmlRemarks.j1 k1 l0 a1 a2 true) = some r := by rw [if_neg (show ¬ (false = true) by decide)] at H; exact H
                  clear H
                  have H := H1
                  clear H1
                  have H' := Aside0.mk H
                  clear H
                  go_wp2_with (first | (go_at_call 23; (with_reducible refine (calepinref07_Right.calls k1 _ _ l0 false _ ?side1 ?side2 ?side3 A19.out).mono ?_); (case side1 => repeat (first | exact (Kd.C_below HR0.out HB.out) | (with_reducible refine Kd.C_alloc ?_ _) | (with_reducible refine Kd.C_drewN ?_ _) | (with_reducible refine Kd.C_drew ?_))); (case side2 => exact HC0.out); (case side3 => exact LaidM.below HT.out (by repeat (first | (with_reducible first | exact HB.out | apply below_alloc | apply pw_below_drewN | apply below_drew1) | exact HB.out))); rintro e w28 ⟨rfl, hb⟩; have n0_ := Aside0.mk (below_step (by repeat (first | (with_reducible first | exact HB.out | apply below_alloc | apply pw_below_drewN | apply below_drew1) | exact HB.out)) hb); clear HB; have HB := n0_; clear n0_; (try clear hb); (try clear hb2); (try clear hk); (try clear hi)))
                  repeat (go_quiet (first | (go_at_call 23; (with_reducible refine (calepinref07_Right.calls k1 _ _ l0 false _ ?side1 ?side2 ?side3 A19.out).mono ?_); (case side1 => repeat (first | exact (Kd.C_below HR0.out HB.out) | (with_reducible refine Kd.C_alloc ?_ _) | (with_reducible refine Kd.C_drewN ?_ _) | (with_reducible refine Kd.C_drew ?_))); (case side2 => exact HC0.out); (case side3 => exact LaidM.below HT.out (by repeat (first | (with_reducible first | exact HB.out | apply below_alloc | apply pw_below_drewN | apply below_drew1) | exact HB.out))); rintro e w28 ⟨rfl, hb⟩; have n0_ := Aside0.mk (below_step (by repeat (first | (with_reducible first | exact HB.out | apply below_alloc | apply pw_below_drewN | apply below_drew1) | exact HB.out)) hb); clear HB; have HB := n0_; clear n0_; (try clear hb); (try clear hb2); (try clear hk); (try clear hi))); try go_wp2_with (first | (go_at_call 23; (with_reducible refine (calepinref07_Right.calls k1 _ _ l0 false _ ?side1 ?side2 ?side3 A19.out).mono ?_); (case side1 => repeat (first | exact (Kd.C_below HR0.out HB.out) | (with_reducible refine Kd.C_alloc ?_ _) | (with_reducible refine Kd.C_drewN ?_ _) | (with_reducible refine Kd.C_drew ?_))); (case side2 => exact HC0.out); (case side3 => exact LaidM.below HT.out (by repeat (first | (with_reducible first | exact HB.out | apply below_alloc | apply pw_below_drewN | apply below_drew1) | exact HB.out))); rintro e w28 ⟨rfl, hb⟩; have n0_ := Aside0.mk (below_step (by repeat (first | (with_reducible first | exact HB.out | apply below_alloc | apply pw_below_drewN | apply below_drew1) | exact HB.out)) hb); clear HB; have HB := n0_; clear n0_; (try clear hb); (try clear hb2); (try clear hk); (try clear hi))))
                  go_meet
                  case rel => exact ⟨_, (true), (by first | rfl | (simp; done) | (simp [*]; done)), H', ⟨by have := HK1.out; first | omega | exact Nat.le_refl _⟩, ⟨by repeat (first | (with_reducible first | exact HB.out | apply below_alloc | apply pw_below_drewN | apply below_drew1) | exact HB.out)⟩⟩
          case rest =>
            clear HC16
            try clear c1
            try clear p1
            try clear q1
            try clear hx1
            try clear c2
            try clear p2
            try clear q2
            try clear hx2
            try clear c5
            try clear p6
            try clear c7
            try clear c7b0
            try clear c8
            try clear c8b0
            try clear c9
            try clear c9b0
            try clear p10
            try clear q10
            try clear hx10
            try clear c11
            try clear c11b0
            try clear c11b1
            try clear c13
            try clear c13b0
            try clear p14
            try clear q14
            try clear hx14
            try clear c15
            try clear c15b0
            try clear c15b1
            try clear c17
            try clear c17b0
            try clear c17b1
            try clear c18
            try clear c18b0
            try clear c18b1
            try clear c20
            try clear c21
            try clear c21b0
            try clear c21b1
            try clear c23
            try clear c23b0
            try clear c24
            try clear c24b0
            try clear p25
            try clear q25
            try clear hx25
            try clear p10
            try clear p14
            try clear p2
            try clear p25
            try clear q10
            try clear q14
            try clear q25
            obtain ⟨kq, x61_15, rfl, HA, HJ15, HB⟩ := hcut
            cases kq with
            | zero => exact absurd HA.out (by simp [calepinlaw07_XmlRemarks.j1])
            | succ kj15 =>
              have H := HA.out
              clear HA
              simp only [calepinlaw07_XmlRemarks.j1] at H
              by_cases c29 : x61_15 = true
              · subst c29
                have H1 : (some true) = some r := by rw [if_pos rfl] at H; exact H
                clear H
                have H := H1
                clear H1
                obtain rfl := Option.some.inj H
                go_wp2
                repeat (go_quiet (fail); try go_wp2)
                go_ret
                exact ⟨by first | rfl | (simp [errW_none, errW_some] <;> rfl) | (simp [*, errW_none, errW_some] <;> rfl), by repeat (first | (with_reducible first | exact HB.out | apply below_alloc | apply pw_below_drewN | apply below_drew1) | exact HB.out)⟩
              · replace c29 := Bool.eq_false_iff.mpr c29
                subst c29
                have H1 : ((xml_Print.f kj15 l0).bind fun bt152 => (if bt152.2 = 0 then (if (IntKind.u64.wrap ((bt152.1.size : Int))) = 0 then (none) else (calepinlaw07_XmlRemarks.l1 kj15 l0 a2 bt152.1 (wrap64 (Int.tmod (IntKind.u64.wrap (a1)) (IntKind.u64.wrap ((bt152.1.size : Int))))))) else (some (bt152.2 == 11)))) = some r := by rw [if_neg (show ¬ (false = true) by decide)] at H; exact H
                clear H
                have H := H1
                clear H1
                replace H := Option.bind_eq_some_iff.mp H
                obtain ⟨⟨t152, t153⟩, A300, H⟩ := H
                replace H : (if t153 = 0 then (if (IntKind.u64.wrap ((t152.size : Int))) = 0 then (none) else (calepinlaw07_XmlRemarks.l1 kj15 l0 a2 t152 (wrap64 (Int.tmod (IntKind.u64.wrap (a1)) (IntKind.u64.wrap ((t152.size : Int))))))) else (some (t153 == 11))) = some r := H
                have A30 := Aside0.mk A300
                clear A300
                by_cases c31 : t153 = 0
                · rw [if_pos c31] at H
                  have c31b0 : (t153 == 0) = true := beq_iff_eq.mpr c31
                  have c31b1 : (t153 != 0) = false := bne_eq_false_iff_eq.mpr c31
                  clear c31
                  by_cases c32 : (IntKind.u64.wrap ((t152.size : Int))) = 0
                  · rw [if_pos c32] at H
                    exact absurd H (by simp)
                  · rw [if_neg c32] at H
                    have c32b0 : ((IntKind.u64.wrap ((t152.size : Int))) == 0) = false := beq_eq_false_iff_ne.mpr c32
                    have c32b1 : ((IntKind.u64.wrap ((t152.size : Int))) != 0) = true := bne_iff_ne.mpr c32
                    have HC33 := Aside0.mk H
                    clear H
                    go_upto_block 2 with (first | (go_at_call 21; (with_reducible refine (xml_Print.calls kj15 _ _ l0 t152 t153 _ ?side1 ?side2 ?side3 A30.out).mono ?_); (case side1 => repeat (first | exact (Kd.C_below HR0.out HB.out) | (with_reducible refine Kd.C_alloc ?_ _) | (with_reducible refine Kd.C_drewN ?_ _) | (with_reducible refine Kd.C_drew ?_))); (case side2 => exact HC0.out); (case side3 => exact LaidM.below HT.out (by repeat (first | (with_reducible first | exact HB.out | apply below_alloc | apply pw_below_drewN | apply below_drew1) | exact HB.out))); rintro e w34 ⟨rfl, hb⟩; have n0_ := Aside0.mk (below_step (by repeat (first | (with_reducible first | exact HB.out | apply below_alloc | apply pw_below_drewN | apply below_drew1) | exact HB.out)) hb); clear HB; have HB := n0_; clear n0_; (try clear hb); (try clear hb2); (try clear hk); (try clear hi)))
                    repeat (go_quiet (first | (go_at_call 21; (with_reducible refine (xml_Print.calls kj15 _ _ l0 t152 t153 _ ?side1 ?side2 ?side3 A30.out).mono ?_); (case side1 => repeat (first | exact (Kd.C_below HR0.out HB.out) | (with_reducible refine Kd.C_alloc ?_ _) | (with_reducible refine Kd.C_drewN ?_ _) | (with_reducible refine Kd.C_drew ?_))); (case side2 => exact HC0.out); (case side3 => exact LaidM.below HT.out (by repeat (first | (with_reducible first | exact HB.out | apply below_alloc | apply pw_below_drewN | apply below_drew1) | exact HB.out))); rintro e w34 ⟨rfl, hb⟩; have n0_ := Aside0.mk (below_step (by repeat (first | (with_reducible first | exact HB.out | apply below_alloc | apply pw_below_drewN | apply below_drew1) | exact HB.out)) hb); clear HB; have HB := n0_; clear n0_; (try clear hb); (try clear hb2); (try clear hk); (try clear hi))); go_upto_block 2 with (first | (go_at_call 21; (with_reducible refine (xml_Print.calls kj15 _ _ l0 t152 t153 _ ?side1 ?side2 ?side3 A30.out).mono ?_); (case side1 => repeat (first | exact (Kd.C_below HR0.out HB.out) | (with_reducible refine Kd.C_alloc ?_ _) | (with_reducible refine Kd.C_drewN ?_ _) | (with_reducible refine Kd.C_drew ?_))); (case side2 => exact HC0.out); (case side3 => exact LaidM.below HT.out (by repeat (first | (with_reducible first | exact HB.out | apply below_alloc | apply pw_below_drewN | apply below_drew1) | exact HB.out))); rintro e w34 ⟨rfl, hb⟩; have n0_ := Aside0.mk (below_step (by repeat (first | (with_reducible first | exact HB.out | apply below_alloc | apply pw_below_drewN | apply below_drew1) | exact HB.out)) hb); clear HB; have HB := n0_; clear n0_; (try clear hb); (try clear hb2); (try clear hk); (try clear hi))))
                    (try simp only [Act.put, List.setIfInBounds_toArray, List.set_cons_zero, List.set_cons_succ])
                    go_cut [10] (fun v10 wc => ∃ (kq : Nat) (x10_32 : Int), v10 = .int .i64 x10_32 ∧ Aside0 (calepinlaw07_XmlRemarks.j3 kq l0 a2 t152 x10_32 = some r) ∧ Aside0 (kq ≤ kj15) ∧ Aside0 (Below w.heap.size w wc))
                    case first =>
                      have H := HC33.out
                      clear HC33
                      have H' := Aside0.mk H
                      clear H
                      go_wp2
                      repeat (go_quiet (fail); try go_wp2)
                      go_loopg [10] kj15 (fun kq v10 w' => ∃ (x10_3 : Int), v10 = .int .i64 x10_3 ∧ Aside0 (calepinlaw07_XmlRemarks.l1 kq l0 a2 t152 x10_3 = some r) ∧ Aside0 (kq ≤ kj15) ∧ Aside0 (Below w.heap.size w w'))
                      case atStart => exact ⟨(wrap64 (Int.tmod (IntKind.u64.wrap (a1)) (IntKind.u64.wrap ((t152.size : Int))))), (by first | rfl | (simp; done) | (simp [*]; done)), H', ⟨Nat.le_refl _⟩, ⟨by repeat (first | (with_reducible first | exact HB.out | apply below_alloc | apply pw_below_drewN | apply below_drew1) | exact HB.out)⟩⟩
                      case round =>
                        clear H'
                        try clear c1
                        try clear p1
                        try clear q1
                        try clear hx1
                        try clear c2
                        try clear p2
                        try clear q2
                        try clear hx2
                        try clear c3
                        try clear c5
                        try clear p6
                        try clear c7
                        try clear c7b0
                        try clear c8
                        try clear c8b0
                        try clear c9
                        try clear c9b0
                        try clear p10
                        try clear q10
                        try clear hx10
                        try clear c11
                        try clear c11b0
                        try clear c11b1
                        try clear c13
                        try clear c13b0
                        try clear p14
                        try clear q14
                        try clear hx14
                        try clear c15
                        try clear c15b0
                        try clear c15b1
                        try clear c17
                        try clear c17b0
                        try clear c17b1
                        try clear c18
                        try clear c18b0
                        try clear c18b1
                        try clear c20
                        try clear c21
                        try clear c21b0
                        try clear c21b1
                        try clear c23
                        try clear c23b0
                        try clear c24
                        try clear c24b0
                        try clear p25
                        try clear q25
                        try clear hx25
                        try clear c29
                        try clear c31
                        try clear c31b0
                        try clear c31b1
                        try clear c32
                        try clear c32b0
                        try clear c32b1
                        try clear p1
                        try clear p10
                        try clear p14
                        try clear p2
                        try clear p25
                        try clear p6
                        try clear q1
                        try clear q10
                        try clear q14
                        try clear q2
                        try clear q25
                        obtain ⟨x10_3, rfl, HA, HK3, HB⟩ := hrel
                        cases gk with
                        | zero => exact absurd HA.out (by simp [calepinlaw07_XmlRemarks.l1])
                        | succ k3 =>
                          have H := HA.out
                          clear HA
                          simp only [calepinlaw07_XmlRemarks.l1] at H
                          by_cases c35 : x10_3 < (t152.size : Int)
                          · rw [if_pos c35] at H
                            have c35b0 : decide (x10_3 < (t152.size : Int)) = true := decide_eq_true c35
                            clear c35
                            (first | rw [c35b0] | (simp only [i64_w, i32_w]; rw [c35b0]) | skip)
                            by_cases c36 : 0 ≤ x10_3
                            · rw [if_pos c36] at H
                              have c36b0 : decide (0 ≤ x10_3) = true := decide_eq_true c36
                              clear c36
                              by_cases c38 : (bt t152 x10_3) = 60
                              · rw [if_pos c38] at H
                                have c38b0 : ((bt t152 x10_3) == 60) = true := beq_iff_eq.mpr c38
                                have c38b1 : ((bt t152 x10_3) != 60) = false := bne_eq_false_iff_eq.mpr c38
                                clear c38
                                have H' := Aside0.mk H
                                clear H
                                have p37 : 0 ≤ (x10_3 : Int) := of_decide_eq_true (by first | (with_reducible assumption) | assumption)
                                have q37 : x10_3 < (t152.size : Int) := of_decide_eq_true (by first | (with_reducible assumption) | assumption)
                                have hx37 := bt_at t152 x10_3
                                replace p37 := eq_true p37
                                replace q37 := eq_true q37
                                go_wp2
                                repeat (go_quiet (fail); try go_wp2)
                                go_meet
                                case rel => exact ⟨_, (x10_3), (by first | rfl | (simp; done) | (simp [*]; done)), H', ⟨by have := HK1.out; have := HJ15.out; have := HK3.out; first | omega | exact Nat.le_refl _⟩, ⟨by repeat (first | (with_reducible first | exact HB.out | apply below_alloc | apply pw_below_drewN | apply below_drew1) | exact HB.out)⟩⟩
                              · rw [if_neg c38] at H
                                have c38b0 : ((bt t152 x10_3) == 60) = false := beq_eq_false_iff_ne.mpr c38
                                have c38b1 : ((bt t152 x10_3) != 60) = true := bne_iff_ne.mpr c38
                                have H' := Aside0.mk H
                                clear H
                                have p37 : 0 ≤ (x10_3 : Int) := of_decide_eq_true (by first | (with_reducible assumption) | assumption)
                                have q37 : x10_3 < (t152.size : Int) := of_decide_eq_true (by first | (with_reducible assumption) | assumption)
                                have hx37 := bt_at t152 x10_3
                                replace p37 := eq_true p37
                                replace q37 := eq_true q37
                                go_wp2
                                repeat (go_quiet (fail); try go_wp2)
                                go_roundg k3
                                case measure => have := HK1.out; have := HJ15.out; have := HK3.out; omega
                                case rel => exact ⟨(wrap64 (x10_3 + 1)), (by first | rfl | (simp; done) | (simp [*]; done)), H', ⟨by have := HK1.out; have := HJ15.out; have := HK3.out; omega⟩, ⟨by repeat (first | (with_reducible first | exact HB.out | apply below_alloc | apply pw_below_drewN | apply below_drew1) | exact HB.out)⟩⟩
                            · rw [if_neg c36] at H
                              exact absurd H (by simp)
                          · rw [if_neg c35] at H
                            have c35b0 : decide (x10_3 < (t152.size : Int)) = false := decide_eq_false c35
                            clear c35
                            (first | rw [c35b0] | (simp only [i64_w, i32_w]; rw [c35b0]) | skip)
                            have H' := Aside0.mk H
                            clear H
                            go_wp2
                            repeat (go_quiet (fail); try go_wp2)
                            go_meet
                            case rel => exact ⟨_, (x10_3), (by first | rfl | (simp; done) | (simp [*]; done)), H', ⟨by have := HK1.out; have := HJ15.out; have := HK3.out; first | omega | exact Nat.le_refl _⟩, ⟨by repeat (first | (with_reducible first | exact HB.out | apply below_alloc | apply pw_below_drewN | apply below_drew1) | exact HB.out)⟩⟩
                    case rest =>
                      clear HC33
                      try clear c1
                      try clear p1
                      try clear q1
                      try clear hx1
                      try clear c2
                      try clear p2
                      try clear q2
                      try clear hx2
                      try clear c3
                      try clear p3
                      try clear q3
                      try clear hx3
                      try clear c5
                      try clear p6
                      try clear c7
                      try clear c7b0
                      try clear c8
                      try clear c8b0
                      try clear c9
                      try clear c9b0
                      try clear p10
                      try clear q10
                      try clear hx10
                      try clear c11
                      try clear c11b0
                      try clear c11b1
                      try clear c13
                      try clear c13b0
                      try clear p14
                      try clear q14
                      try clear hx14
                      try clear c15
                      try clear c15b0
                      try clear c15b1
                      try clear c17
                      try clear c17b0
                      try clear c17b1
                      try clear c18
                      try clear c18b0
                      try clear c18b1
                      try clear c20
                      try clear c21
                      try clear c21b0
                      try clear c21b1
                      try clear c23
                      try clear c23b0
                      try clear c24
                      try clear c24b0
                      try clear p25
                      try clear q25
                      try clear hx25
                      try clear c29
                      try clear c31
                      try clear c31b0
                      try clear c31b1
                      try clear c32
                      try clear c32b0
                      try clear c32b1
                      try clear c35
                      try clear c35b0
                      try clear c36
                      try clear c36b0
                      try clear p37
                      try clear q37
                      try clear hx37
                      try clear c38
                      try clear c38b0
                      try clear c38b1
                      try clear p1
                      try clear p10
                      try clear p14
                      try clear p2
                      try clear p25
                      try clear p37
                      try clear p6
                      try clear q1
                      try clear q10
                      try clear q14
                      try clear q2
                      try clear q25
                      try clear q37
                      obtain ⟨kq, x10_32, rfl, HA, HJ32, HB⟩ := hcut
                      cases kq with
                      | zero => exact absurd HA.out (by simp [calepinlaw07_XmlRemarks.j3])
                      | succ kj32 =>
                        have H := HA.out
                        clear HA
                        simp only [calepinlaw07_XmlRemarks.j3] at H
                        by_cases c39 : 0 ≤ x10_32
                        · rw [if_pos c39] at H
                          have c39b0 := eq_true c39
                          have c39b1 : decide (0 ≤ x10_32) = true := decide_eq_true c39
                          clear c39
                          by_cases c40 : x10_32 ≤ (t152.size : Int)
                          · rw [if_pos c40] at H
                            have c40b0 := eq_true c40
                            have c40b1 : decide (x10_32 ≤ (t152.size : Int)) = true := decide_eq_true c40
                            clear c40
                            by_cases c41 : (t152.extract 0 (x10_32 : Int).toNat).size + 4 ≤ 9223372036854775807
                            · rw [if_pos c41] at H
                              have c41b0 := eq_true c41
                              have c41b1 : decide ((t152.extract 0 (x10_32 : Int).toNat).size + 4 ≤ 9223372036854775807) = true := decide_eq_true c41
                              try have c41b2 : (9223372036854775807 < (t152.extract 0 (x10_32 : Int).toNat).size + 4) = False := eq_false (Nat.not_lt.2 c41)
                              by_cases c42 : ((t152.extract 0 (x10_32 : Int).toNat) ++ (⟨#[60, 33, 45, 45]⟩ : ByteArray)).size + a2.size ≤ 9223372036854775807
                              · rw [if_pos c42] at H
                                have c42e := c42
                                (try simp only [ByteArray.size_append, gt_iff_lt, ge_iff_le, show (⟨#[60, 33, 45, 45]⟩ : ByteArray).size = 4 from rfl] at c42e)
                                (try simp only [Int.natCast_add, Int.cast_ofNat_Int] at c42e)
                                (try (have c42e2 := decide_eq_true c42e))
                                (try replace c42e := eq_true c42e)
                                have c42b0 := eq_true c42
                                have c42b1 : decide (((t152.extract 0 (x10_32 : Int).toNat) ++ (⟨#[60, 33, 45, 45]⟩ : ByteArray)).size + a2.size ≤ 9223372036854775807) = true := decide_eq_true c42
                                try have c42b2 : (9223372036854775807 < ((t152.extract 0 (x10_32 : Int).toNat) ++ (⟨#[60, 33, 45, 45]⟩ : ByteArray)).size + a2.size) = False := eq_false (Nat.not_lt.2 c42)
                                have c42b8 : (9223372036854775807 < (t152.extract 0 (x10_32 : Int).toNat).size + 4 + a2.size) = False := by have h_ := c42; simp only [ByteArray.size_append] at h_; exact eq_false (Nat.not_lt.2 h_)
                                by_cases c43 : (((t152.extract 0 (x10_32 : Int).toNat) ++ (⟨#[60, 33, 45, 45]⟩ : ByteArray)) ++ a2).size + 3 ≤ 9223372036854775807
                                · rw [if_pos c43] at H
                                  have c43e := c43
                                  (try simp only [ByteArray.size_append, gt_iff_lt, ge_iff_le, show (⟨#[60, 33, 45, 45]⟩ : ByteArray).size = 4 from rfl] at c43e)
                                  (try simp only [Int.natCast_add, Int.cast_ofNat_Int] at c43e)
                                  (try (have c43e2 := decide_eq_true c43e))
                                  (try replace c43e := eq_true c43e)
                                  have c43b0 := eq_true c43
                                  have c43b1 : decide ((((t152.extract 0 (x10_32 : Int).toNat) ++ (⟨#[60, 33, 45, 45]⟩ : ByteArray)) ++ a2).size + 3 ≤ 9223372036854775807) = true := decide_eq_true c43
                                  try have c43b2 : (9223372036854775807 < (((t152.extract 0 (x10_32 : Int).toNat) ++ (⟨#[60, 33, 45, 45]⟩ : ByteArray)) ++ a2).size + 3) = False := eq_false (Nat.not_lt.2 c43)
                                  have c43b8 : (9223372036854775807 < (t152.extract 0 (x10_32 : Int).toNat).size + 4 + a2.size + 3) = False := by have h_ := c43; simp only [ByteArray.size_append] at h_; exact eq_false (Nat.not_lt.2 h_)
                                  have c44b0 := eq_true (of_decide_eq_true (by first | (with_reducible assumption) | assumption) : 0 ≤ x10_32)
                                  have c45b0 := eq_true (of_decide_eq_true (by first | (with_reducible assumption) | assumption) : x10_32 ≤ (t152.size : Int))
                                  by_cases c46 : ((((t152.extract 0 (x10_32 : Int).toNat) ++ (⟨#[60, 33, 45, 45]⟩ : ByteArray)) ++ a2) ++ (⟨#[45, 45, 62]⟩ : ByteArray)).size + (t152.extract (x10_32 : Int).toNat t152.size).size ≤ 9223372036854775807
                                  · rw [if_pos c46] at H
                                    have c46e := c46
                                    (try simp only [ByteArray.size_append, gt_iff_lt, ge_iff_le, show (⟨#[45, 45, 62]⟩ : ByteArray).size = 3 from rfl, show (⟨#[60, 33, 45, 45]⟩ : ByteArray).size = 4 from rfl] at c46e)
                                    (try simp only [Int.natCast_add, Int.cast_ofNat_Int] at c46e)
                                    (try (have c46e2 := decide_eq_true c46e))
                                    (try replace c46e := eq_true c46e)
                                    have c46b0 := eq_true c46
                                    have c46b1 : decide (((((t152.extract 0 (x10_32 : Int).toNat) ++ (⟨#[60, 33, 45, 45]⟩ : ByteArray)) ++ a2) ++ (⟨#[45, 45, 62]⟩ : ByteArray)).size + (t152.extract (x10_32 : Int).toNat t152.size).size ≤ 9223372036854775807) = true := decide_eq_true c46
                                    try have c46b2 : (9223372036854775807 < ((((t152.extract 0 (x10_32 : Int).toNat) ++ (⟨#[60, 33, 45, 45]⟩ : ByteArray)) ++ a2) ++ (⟨#[45, 45, 62]⟩ : ByteArray)).size + (t152.extract (x10_32 : Int).toNat t152.size).size) = False := eq_false (Nat.not_lt.2 c46)
                                    have c46b8 : (9223372036854775807 < (t152.extract 0 (x10_32 : Int).toNat).size + 4 + a2.size + 3 + (t152.extract (x10_32 : Int).toNat t152.size).size) = False := by have h_ := c46; simp only [ByteArray.size_append] at h_; exact eq_false (Nat.not_lt.2 h_)
                                    replace H := Option.bind_eq_some_iff.mp H
                                    obtain ⟨⟨t154, t155⟩, A470, H⟩ := H
                                    replace H : (if ((((((t152.extract 0 (x10_32 : Int).toNat) ++ (⟨#[60, 33, 45, 45]⟩ : ByteArray)) ++ a2) ++ (⟨#[45, 45, 62]⟩ : ByteArray)) ++ (t152.extract (x10_32 : Int).toNat t152.size)).size : Int) > 65536 then (some (t155 == 11)) else (if 3 + a2.size ≤ 9223372036854775807 then (if ((⟨#[60, 97, 62]⟩ : ByteArray) ++ a2).size + 4 ≤ 9223372036854775807 then ((xml_Parse.f (((⟨#[60, 97, 62]⟩ : ByteArray) ++ a2) ++ (⟨#[60, 47, 97, 62]⟩ : ByteArray))).bind fun bt158 => (if t155 = 0 then ((calepinref07_Same.f kj32 t154 l0).bind fun t162 => (if t162 = true then (some true) else (if t155 = 10 then (if bt158.2 = 10 then (some true) else (some (decide ((a2.size : Int) > 0)))) else (some false)))) else (if t155 = 10 then (if bt158.2 = 10 then (some true) else (some (decide ((a2.size : Int) > 0)))) else (some false)))) else (none)) else (none))) = some r := H
                                    have A47 := Aside0.mk A470
                                    clear A470
                                    have e1_ : (t152.extract 0 x10_32.toNat).size = x10_32.toNat := by have h1_ := of_eq_true c39b0; have h2_ := of_eq_true c40b0; rw [ByteArray.size_extract]; omega
                                    have e2_ : (t152.extract x10_32.toNat t152.size).size = t152.size - x10_32.toNat := by rw [ByteArray.size_extract]; omega
                                    have d41_ : (9223372036854775807 < x10_32.toNat + 4) = False := eq_false (by have h_ := of_eq_true c41b0; omega)
                                    have d42_ : (9223372036854775807 < x10_32.toNat + 4 + a2.size) = False := eq_false (by have h_ := of_eq_true c42e; omega)
                                    have d43_ : (9223372036854775807 < x10_32.toNat + 4 + a2.size + 3) = False := eq_false (by have h_ := of_eq_true c43e; omega)
                                    have d44_ : (9223372036854775807 < x10_32.toNat + 4 + a2.size + 3 + (t152.size - x10_32.toNat)) = False := eq_false (by have h_ := c46; simp only [ByteArray.size_append, show (⟨#[45, 45, 62]⟩ : ByteArray).size = 3 from rfl, show (⟨#[60, 33, 45, 45]⟩ : ByteArray).size = 4 from rfl] at h_; omega)
                                    by_cases c48 : ((((((t152.extract 0 (x10_32 : Int).toNat) ++ (⟨#[60, 33, 45, 45]⟩ : ByteArray)) ++ a2) ++ (⟨#[45, 45, 62]⟩ : ByteArray)) ++ (t152.extract (x10_32 : Int).toNat t152.size)).size : Int) > 65536
                                    · rw [if_pos c48] at H
                                      have c48e := c48
                                      (try simp only [ByteArray.size_append, gt_iff_lt, ge_iff_le, show (⟨#[45, 45, 62]⟩ : ByteArray).size = 3 from rfl, show (⟨#[60, 33, 45, 45]⟩ : ByteArray).size = 4 from rfl] at c48e)
                                      (try simp only [Int.natCast_add, Int.cast_ofNat_Int] at c48e)
                                      (try (have c48e2 := decide_eq_true c48e))
                                      (try replace c48e := eq_true c48e)
                                      have c48b0 : decide (65536 < ((((((t152.extract 0 (x10_32 : Int).toNat) ++ (⟨#[60, 33, 45, 45]⟩ : ByteArray)) ++ a2) ++ (⟨#[45, 45, 62]⟩ : ByteArray)) ++ (t152.extract (x10_32 : Int).toNat t152.size)).size : Int)) = true := decide_eq_true c48
                                      have c48b8 : decide ((65536 : Int) < (t152.extract 0 (x10_32 : Int).toNat).size + 4 + (a2.size : Int) + 3 + (t152.extract (x10_32 : Int).toNat t152.size).size) = true := by have h_ := c48; simp only [ByteArray.size_append] at h_; change (((t152.extract 0 (x10_32 : Int).toNat).size + 4 + a2.size + 3 + (t152.extract (x10_32 : Int).toNat t152.size).size : Nat) : Int) > 65536 at h_; exact decide_eq_true (by omega)
                                      have c48b1 : decide (65536 < (((((t152.extract 0 (x10_32 : Int).toNat) ++ (⟨#[60, 33, 45, 45]⟩ : ByteArray)) ++ a2) ++ (⟨#[45, 45, 62]⟩ : ByteArray)) ++ (t152.extract (x10_32 : Int).toNat t152.size)).size) = true := decide_eq_true (by omega)
                                      have d48_ : ((65536 : Int) < max x10_32 0 + 4 + (a2.size : Int) + 3 + ((t152.size - x10_32.toNat : Nat) : Int)) = True := eq_true (by have h_ := of_decide_eq_true c48b8; have h1_ := of_eq_true c39b0; rw [Int.max_eq_left h1_]; omega)
                                      clear c48
                                      obtain rfl := Option.some.inj H
                                      go_wp2_with (first | (go_at_call 25; (with_reducible refine (xml_Parse.calls (((((t152.extract 0 (x10_32 : Int).toNat) ++ (⟨#[60, 33, 45, 45]⟩ : ByteArray)) ++ a2) ++ (⟨#[45, 45, 62]⟩ : ByteArray)) ++ (t152.extract (x10_32 : Int).toNat t152.size)) t154 t155 _ ?side1 A47.out).mono ?_); (case side1 => exact LaidM.below HT.out (by repeat (first | (with_reducible first | exact HB.out | apply below_alloc | apply pw_below_drewN | apply below_drew1) | exact HB.out))); rintro e w49 ⟨v156, rfl, ho0, hb⟩; have n0_ := Aside0.mk (Kd.R_lower ho0 (below_size (by repeat (first | (with_reducible first | exact HB.out | apply below_alloc | apply pw_below_drewN | apply below_drew1) | exact HB.out)))); have n1_ := Aside0.mk (below_step (by repeat (first | (with_reducible first | exact HB.out | apply below_alloc | apply pw_below_drewN | apply below_drew1) | exact HB.out)) hb); clear HB; have HO157 := n0_; have HB := n1_; clear n0_ n1_; (try clear hb); (try clear hb2); (try clear hk); (try clear hi); (try clear ho0)))
                                      repeat (go_quiet (first | (go_at_call 25; (with_reducible refine (xml_Parse.calls (((((t152.extract 0 (x10_32 : Int).toNat) ++ (⟨#[60, 33, 45, 45]⟩ : ByteArray)) ++ a2) ++ (⟨#[45, 45, 62]⟩ : ByteArray)) ++ (t152.extract (x10_32 : Int).toNat t152.size)) t154 t155 _ ?side1 A47.out).mono ?_); (case side1 => exact LaidM.below HT.out (by repeat (first | (with_reducible first | exact HB.out | apply below_alloc | apply pw_below_drewN | apply below_drew1) | exact HB.out))); rintro e w49 ⟨v156, rfl, ho0, hb⟩; have n0_ := Aside0.mk (Kd.R_lower ho0 (below_size (by repeat (first | (with_reducible first | exact HB.out | apply below_alloc | apply pw_below_drewN | apply below_drew1) | exact HB.out)))); have n1_ := Aside0.mk (below_step (by repeat (first | (with_reducible first | exact HB.out | apply below_alloc | apply pw_below_drewN | apply below_drew1) | exact HB.out)) hb); clear HB; have HO157 := n0_; have HB := n1_; clear n0_ n1_; (try clear hb); (try clear hb2); (try clear hk); (try clear hi); (try clear ho0))); try go_wp2_with (first | (go_at_call 25; (with_reducible refine (xml_Parse.calls (((((t152.extract 0 (x10_32 : Int).toNat) ++ (⟨#[60, 33, 45, 45]⟩ : ByteArray)) ++ a2) ++ (⟨#[45, 45, 62]⟩ : ByteArray)) ++ (t152.extract (x10_32 : Int).toNat t152.size)) t154 t155 _ ?side1 A47.out).mono ?_); (case side1 => exact LaidM.below HT.out (by repeat (first | (with_reducible first | exact HB.out | apply below_alloc | apply pw_below_drewN | apply below_drew1) | exact HB.out))); rintro e w49 ⟨v156, rfl, ho0, hb⟩; have n0_ := Aside0.mk (Kd.R_lower ho0 (below_size (by repeat (first | (with_reducible first | exact HB.out | apply below_alloc | apply pw_below_drewN | apply below_drew1) | exact HB.out)))); have n1_ := Aside0.mk (below_step (by repeat (first | (with_reducible first | exact HB.out | apply below_alloc | apply pw_below_drewN | apply below_drew1) | exact HB.out)) hb); clear HB; have HO157 := n0_; have HB := n1_; clear n0_ n1_; (try clear hb); (try clear hb2); (try clear hk); (try clear hi); (try clear ho0))))
                                      go_ret
                                      exact ⟨by first | rfl | (simp [errW_none, errW_some] <;> rfl) | (simp [*, errW_none, errW_some] <;> rfl), by repeat (first | (with_reducible first | exact HB.out | apply below_alloc | apply pw_below_drewN | apply below_drew1) | exact HB.out)⟩
                                    · rw [if_neg c48] at H
                                      have c48e := c48
                                      (try simp only [ByteArray.size_append, gt_iff_lt, ge_iff_le, show (⟨#[45, 45, 62]⟩ : ByteArray).size = 3 from rfl, show (⟨#[60, 33, 45, 45]⟩ : ByteArray).size = 4 from rfl] at c48e)
                                      (try simp only [Int.natCast_add, Int.cast_ofNat_Int] at c48e)
                                      (try (have c48e2 := decide_eq_false c48e))
                                      (try replace c48e := eq_false c48e)
                                      have c48b0 : decide (65536 < ((((((t152.extract 0 (x10_32 : Int).toNat) ++ (⟨#[60, 33, 45, 45]⟩ : ByteArray)) ++ a2) ++ (⟨#[45, 45, 62]⟩ : ByteArray)) ++ (t152.extract (x10_32 : Int).toNat t152.size)).size : Int)) = false := decide_eq_false c48
                                      have c48b8 : decide ((65536 : Int) < (t152.extract 0 (x10_32 : Int).toNat).size + 4 + (a2.size : Int) + 3 + (t152.extract (x10_32 : Int).toNat t152.size).size) = false := by have h_ := c48; simp only [ByteArray.size_append] at h_; change ¬ ((((t152.extract 0 (x10_32 : Int).toNat).size + 4 + a2.size + 3 + (t152.extract (x10_32 : Int).toNat t152.size).size : Nat) : Int) > 65536) at h_; exact decide_eq_false (by omega)
                                      have c48b1 : decide (65536 < (((((t152.extract 0 (x10_32 : Int).toNat) ++ (⟨#[60, 33, 45, 45]⟩ : ByteArray)) ++ a2) ++ (⟨#[45, 45, 62]⟩ : ByteArray)) ++ (t152.extract (x10_32 : Int).toNat t152.size)).size) = false := decide_eq_false (by omega)
                                      have d48_ : ((65536 : Int) < max x10_32 0 + 4 + (a2.size : Int) + 3 + ((t152.size - x10_32.toNat : Nat) : Int)) = False := eq_false (by have h_ := of_decide_eq_false c48b8; have h1_ := of_eq_true c39b0; rw [Int.max_eq_left h1_]; omega)
                                      clear c48
                                      by_cases c50 : 3 + a2.size ≤ 9223372036854775807
                                      · rw [if_pos c50] at H
                                        have c50b0 := eq_true c50
                                        have c50b1 : decide (3 + a2.size ≤ 9223372036854775807) = true := decide_eq_true c50
                                        try have c50b2 : (9223372036854775807 < 3 + a2.size) = False := eq_false (Nat.not_lt.2 c50)
                                        by_cases c51 : ((⟨#[60, 97, 62]⟩ : ByteArray) ++ a2).size + 4 ≤ 9223372036854775807
                                        · rw [if_pos c51] at H
                                          have c51e := c51
                                          (try simp only [ByteArray.size_append, gt_iff_lt, ge_iff_le, show (⟨#[60, 97, 62]⟩ : ByteArray).size = 3 from rfl] at c51e)
                                          (try simp only [Int.natCast_add, Int.cast_ofNat_Int] at c51e)
                                          (try (have c51e2 := decide_eq_true c51e))
                                          (try replace c51e := eq_true c51e)
                                          have c51b0 := eq_true c51
                                          have c51b1 : decide (((⟨#[60, 97, 62]⟩ : ByteArray) ++ a2).size + 4 ≤ 9223372036854775807) = true := decide_eq_true c51
                                          try have c51b2 : (9223372036854775807 < ((⟨#[60, 97, 62]⟩ : ByteArray) ++ a2).size + 4) = False := eq_false (Nat.not_lt.2 c51)
                                          have c51b8 : (9223372036854775807 < 3 + a2.size + 4) = False := by have h_ := c51; simp only [ByteArray.size_append] at h_; exact eq_false (Nat.not_lt.2 h_)
                                          replace H := Option.bind_eq_some_iff.mp H
                                          obtain ⟨⟨t158, t159⟩, A520, H⟩ := H
                                          replace H : (if t155 = 0 then ((calepinref07_Same.f kj32 t154 l0).bind fun t162 => (if t162 = true then (some true) else (if t155 = 10 then (if t159 = 10 then (some true) else (some (decide ((a2.size : Int) > 0)))) else (some false)))) else (if t155 = 10 then (if t159 = 10 then (some true) else (some (decide ((a2.size : Int) > 0)))) else (some false))) = some r := H
                                          have A52 := Aside0.mk A520
                                          clear A520
                                          by_cases c53 : t155 = 0
                                          · rw [if_pos c53] at H
                                            have c53b0 : (t155 == 0) = true := beq_iff_eq.mpr c53
                                            have c53b1 : (t155 != 0) = false := bne_eq_false_iff_eq.mpr c53
                                            clear c53
                                            replace H := Option.bind_eq_some_iff.mp H
                                            obtain ⟨t162, A540, H⟩ := H
                                            replace H : (if t162 = true then (some true) else (if t155 = 10 then (if t159 = 10 then (some true) else (some (decide ((a2.size : Int) > 0)))) else (some false))) = some r := H
                                            have A54 := Aside0.mk A540
                                            clear A540
                                            by_cases c55 : t162 = true
                                            · subst c55
                                              have H1 : (some true) = some r := by rw [if_pos rfl] at H; exact H
                                              clear H
                                              have H := H1
                                              clear H1
                                              obtain rfl := Option.some.inj H
                                              go_wp2_with (first | (go_at_call 25; (with_reducible refine (xml_Parse.calls (((((t152.extract 0 (x10_32 : Int).toNat) ++ (⟨#[60, 33, 45, 45]⟩ : ByteArray)) ++ a2) ++ (⟨#[45, 45, 62]⟩ : ByteArray)) ++ (t152.extract (x10_32 : Int).toNat t152.size)) t154 t155 _ ?side1 A47.out).mono ?_); (case side1 => exact LaidM.below HT.out (by repeat (first | (with_reducible first | exact HB.out | apply below_alloc | apply pw_below_drewN | apply below_drew1) | exact HB.out))); rintro e w56 ⟨v156, rfl, ho0, hb⟩; have n0_ := Aside0.mk (Kd.R_lower ho0 (below_size (by repeat (first | (with_reducible first | exact HB.out | apply below_alloc | apply pw_below_drewN | apply below_drew1) | exact HB.out)))); have n1_ := Aside0.mk (below_step (by repeat (first | (with_reducible first | exact HB.out | apply below_alloc | apply pw_below_drewN | apply below_drew1) | exact HB.out)) hb); clear HB; have HO157 := n0_; have HB := n1_; clear n0_ n1_; (try clear hb); (try clear hb2); (try clear hk); (try clear hi); (try clear ho0)) | (go_at_call 25; (with_reducible refine (xml_Parse.calls (((⟨#[60, 97, 62]⟩ : ByteArray) ++ a2) ++ (⟨#[60, 47, 97, 62]⟩ : ByteArray)) t158 t159 _ ?side1 A52.out).mono ?_); (case side1 => exact LaidM.below HT.out (by repeat (first | (with_reducible first | exact HB.out | apply below_alloc | apply pw_below_drewN | apply below_drew1) | exact HB.out))); rintro e w57 ⟨v160, rfl, ho0, hb⟩; have n0_ := Aside0.mk (Kd.R_elder' (by (with_reducible repeat (first | apply Kd.R_alloc | apply Kd.R_drewN | apply Kd.R_drew)); exact HO157.out) (Kd.R_base ho0) hb); have n1_ := Aside0.mk (Kd.R_lower (Kd.R_new' ho0 (Kd.R_lt (by (with_reducible repeat (first | apply Kd.R_alloc | apply Kd.R_drewN | apply Kd.R_drew)); exact HO157.out))) (below_size (by repeat (first | (with_reducible first | exact HB.out | apply below_alloc | apply pw_below_drewN | apply below_drew1) | exact HB.out)))); have n2_ := Aside0.mk (below_step (by repeat (first | (with_reducible first | exact HB.out | apply below_alloc | apply pw_below_drewN | apply below_drew1) | exact HB.out)) hb); clear HO157; clear HB; have HO157 := n0_; have HO161 := n1_; have HB := n2_; clear n0_ n1_ n2_; (try clear hb); (try clear hb2); (try clear hk); (try clear hi); (try clear ho0); obtain ⟨Ao58, co58, eo58⟩ := Kd.R_slice HO157.out; subst eo58) | (go_at_call 22; (with_reducible refine (calepinref07_Same.calls kj32 _ _ t154 _ _ l0 true _ ?side1 ?side2 ?side3 ?side4 A54.out).mono ?_); (case side1 => repeat (first | exact (Kd.R_reads' HO157.out).2.2 | (with_reducible refine Kd.C_alloc ?_ _) | (with_reducible refine Kd.C_drewN ?_ _) | (with_reducible refine Kd.C_drew ?_))); (case side2 => exact (Kd.R_reads' HO157.out).2.1); (case side3 => repeat (first | exact (Kd.C_below HR0.out HB.out) | (with_reducible refine Kd.C_alloc ?_ _) | (with_reducible refine Kd.C_drewN ?_ _) | (with_reducible refine Kd.C_drew ?_))); (case side4 => exact HC0.out); rintro e w' ⟨rfl, ⟨nd, rfl⟩⟩; (try first | exact ⟨rfl, _, World.drewN_drewN _ _ _⟩ | exact ⟨rfl, _, Eq.trans (World.drewN_drewN _ _ _) (congrArg (World.drewN _) (Nat.add_assoc _ _ _))⟩)))
                                              repeat (go_quiet (first | (go_at_call 25; (with_reducible refine (xml_Parse.calls (((((t152.extract 0 (x10_32 : Int).toNat) ++ (⟨#[60, 33, 45, 45]⟩ : ByteArray)) ++ a2) ++ (⟨#[45, 45, 62]⟩ : ByteArray)) ++ (t152.extract (x10_32 : Int).toNat t152.size)) t154 t155 _ ?side1 A47.out).mono ?_); (case side1 => exact LaidM.below HT.out (by repeat (first | (with_reducible first | exact HB.out | apply below_alloc | apply pw_below_drewN | apply below_drew1) | exact HB.out))); rintro e w56 ⟨v156, rfl, ho0, hb⟩; have n0_ := Aside0.mk (Kd.R_lower ho0 (below_size (by repeat (first | (with_reducible first | exact HB.out | apply below_alloc | apply pw_below_drewN | apply below_drew1) | exact HB.out)))); have n1_ := Aside0.mk (below_step (by repeat (first | (with_reducible first | exact HB.out | apply below_alloc | apply pw_below_drewN | apply below_drew1) | exact HB.out)) hb); clear HB; have HO157 := n0_; have HB := n1_; clear n0_ n1_; (try clear hb); (try clear hb2); (try clear hk); (try clear hi); (try clear ho0)) | (go_at_call 25; (with_reducible refine (xml_Parse.calls (((⟨#[60, 97, 62]⟩ : ByteArray) ++ a2) ++ (⟨#[60, 47, 97, 62]⟩ : ByteArray)) t158 t159 _ ?side1 A52.out).mono ?_); (case side1 => exact LaidM.below HT.out (by repeat (first | (with_reducible first | exact HB.out | apply below_alloc | apply pw_below_drewN | apply below_drew1) | exact HB.out))); rintro e w57 ⟨v160, rfl, ho0, hb⟩; have n0_ := Aside0.mk (Kd.R_elder' (by (with_reducible repeat (first | apply Kd.R_alloc | apply Kd.R_drewN | apply Kd.R_drew)); exact HO157.out) (Kd.R_base ho0) hb); have n1_ := Aside0.mk (Kd.R_lower (Kd.R_new' ho0 (Kd.R_lt (by (with_reducible repeat (first | apply Kd.R_alloc | apply Kd.R_drewN | apply Kd.R_drew)); exact HO157.out))) (below_size (by repeat (first | (with_reducible first | exact HB.out | apply below_alloc | apply pw_below_drewN | apply below_drew1) | exact HB.out)))); have n2_ := Aside0.mk (below_step (by repeat (first | (with_reducible first | exact HB.out | apply below_alloc | apply pw_below_drewN | apply below_drew1) | exact HB.out)) hb); clear HO157; clear HB; have HO157 := n0_; have HO161 := n1_; have HB := n2_; clear n0_ n1_ n2_; (try clear hb); (try clear hb2); (try clear hk); (try clear hi); (try clear ho0); obtain ⟨Ao58, co58, eo58⟩ := Kd.R_slice HO157.out; subst eo58) | (go_at_call 22; (with_reducible refine (calepinref07_Same.calls kj32 _ _ t154 _ _ l0 true _ ?side1 ?side2 ?side3 ?side4 A54.out).mono ?_); (case side1 => repeat (first | exact (Kd.R_reads' HO157.out).2.2 | (with_reducible refine Kd.C_alloc ?_ _) | (with_reducible refine Kd.C_drewN ?_ _) | (with_reducible refine Kd.C_drew ?_))); (case side2 => exact (Kd.R_reads' HO157.out).2.1); (case side3 => repeat (first | exact (Kd.C_below HR0.out HB.out) | (with_reducible refine Kd.C_alloc ?_ _) | (with_reducible refine Kd.C_drewN ?_ _) | (with_reducible refine Kd.C_drew ?_))); (case side4 => exact HC0.out); rintro e w' ⟨rfl, ⟨nd, rfl⟩⟩; (try first | exact ⟨rfl, _, World.drewN_drewN _ _ _⟩ | exact ⟨rfl, _, Eq.trans (World.drewN_drewN _ _ _) (congrArg (World.drewN _) (Nat.add_assoc _ _ _))⟩))); try go_wp2_with (first | (go_at_call 25; (with_reducible refine (xml_Parse.calls (((((t152.extract 0 (x10_32 : Int).toNat) ++ (⟨#[60, 33, 45, 45]⟩ : ByteArray)) ++ a2) ++ (⟨#[45, 45, 62]⟩ : ByteArray)) ++ (t152.extract (x10_32 : Int).toNat t152.size)) t154 t155 _ ?side1 A47.out).mono ?_); (case side1 => exact LaidM.below HT.out (by repeat (first | (with_reducible first | exact HB.out | apply below_alloc | apply pw_below_drewN | apply below_drew1) | exact HB.out))); rintro e w56 ⟨v156, rfl, ho0, hb⟩; have n0_ := Aside0.mk (Kd.R_lower ho0 (below_size (by repeat (first | (with_reducible first | exact HB.out | apply below_alloc | apply pw_below_drewN | apply below_drew1) | exact HB.out)))); have n1_ := Aside0.mk (below_step (by repeat (first | (with_reducible first | exact HB.out | apply below_alloc | apply pw_below_drewN | apply below_drew1) | exact HB.out)) hb); clear HB; have HO157 := n0_; have HB := n1_; clear n0_ n1_; (try clear hb); (try clear hb2); (try clear hk); (try clear hi); (try clear ho0)) | (go_at_call 25; (with_reducible refine (xml_Parse.calls (((⟨#[60, 97, 62]⟩ : ByteArray) ++ a2) ++ (⟨#[60, 47, 97, 62]⟩ : ByteArray)) t158 t159 _ ?side1 A52.out).mono ?_); (case side1 => exact LaidM.below HT.out (by repeat (first | (with_reducible first | exact HB.out | apply below_alloc | apply pw_below_drewN | apply below_drew1) | exact HB.out))); rintro e w57 ⟨v160, rfl, ho0, hb⟩; have n0_ := Aside0.mk (Kd.R_elder' (by (with_reducible repeat (first | apply Kd.R_alloc | apply Kd.R_drewN | apply Kd.R_drew)); exact HO157.out) (Kd.R_base ho0) hb); have n1_ := Aside0.mk (Kd.R_lower (Kd.R_new' ho0 (Kd.R_lt (by (with_reducible repeat (first | apply Kd.R_alloc | apply Kd.R_drewN | apply Kd.R_drew)); exact HO157.out))) (below_size (by repeat (first | (with_reducible first | exact HB.out | apply below_alloc | apply pw_below_drewN | apply below_drew1) | exact HB.out)))); have n2_ := Aside0.mk (below_step (by repeat (first | (with_reducible first | exact HB.out | apply below_alloc | apply pw_below_drewN | apply below_drew1) | exact HB.out)) hb); clear HO157; clear HB; have HO157 := n0_; have HO161 := n1_; have HB := n2_; clear n0_ n1_ n2_; (try clear hb); (try clear hb2); (try clear hk); (try clear hi); (try clear ho0); obtain ⟨Ao58, co58, eo58⟩ := Kd.R_slice HO157.out; subst eo58) | (go_at_call 22; (with_reducible refine (calepinref07_Same.calls kj32 _ _ t154 _ _ l0 true _ ?side1 ?side2 ?side3 ?side4 A54.out).mono ?_); (case side1 => repeat (first | exact (Kd.R_reads' HO157.out).2.2 | (with_reducible refine Kd.C_alloc ?_ _) | (with_reducible refine Kd.C_drewN ?_ _) | (with_reducible refine Kd.C_drew ?_))); (case side2 => exact (Kd.R_reads' HO157.out).2.1); (case side3 => repeat (first | exact (Kd.C_below HR0.out HB.out) | (with_reducible refine Kd.C_alloc ?_ _) | (with_reducible refine Kd.C_drewN ?_ _) | (with_reducible refine Kd.C_drew ?_))); (case side4 => exact HC0.out); rintro e w' ⟨rfl, ⟨nd, rfl⟩⟩; (try first | exact ⟨rfl, _, World.drewN_drewN _ _ _⟩ | exact ⟨rfl, _, Eq.trans (World.drewN_drewN _ _ _) (congrArg (World.drewN _) (Nat.add_assoc _ _ _))⟩))))
                                              go_ret
                                              exact ⟨by first | rfl | (simp [errW_none, errW_some] <;> rfl) | (simp [*, errW_none, errW_some] <;> rfl), by repeat (first | (with_reducible first | exact HB.out | apply below_alloc | apply pw_below_drewN | apply below_drew1) | exact HB.out)⟩
                                            · replace c55 := Bool.eq_false_iff.mpr c55
                                              subst c55
                                              have H1 : (if t155 = 10 then (if t159 = 10 then (some true) else (some (decide ((a2.size : Int) > 0)))) else (some false)) = some r := by rw [if_neg (show ¬ (false = true) by decide)] at H; exact H
                                              clear H
                                              have H := H1
                                              clear H1
                                              by_cases c59 : t155 = 10
                                              · rw [if_pos c59] at H
                                                have c59b0 : (t155 == 10) = true := beq_iff_eq.mpr c59
                                                have c59b1 : (t155 != 10) = false := bne_eq_false_iff_eq.mpr c59
                                                clear c59
                                                by_cases c60 : t159 = 10
                                                · rw [if_pos c60] at H
                                                  have c60b0 : (t159 == 10) = true := beq_iff_eq.mpr c60
                                                  have c60b1 : (t159 != 10) = false := bne_eq_false_iff_eq.mpr c60
                                                  clear c60
                                                  obtain rfl := Option.some.inj H
                                                  go_wp2_with (first | (go_at_call 25; (with_reducible refine (xml_Parse.calls (((((t152.extract 0 (x10_32 : Int).toNat) ++ (⟨#[60, 33, 45, 45]⟩ : ByteArray)) ++ a2) ++ (⟨#[45, 45, 62]⟩ : ByteArray)) ++ (t152.extract (x10_32 : Int).toNat t152.size)) t154 t155 _ ?side1 A47.out).mono ?_); (case side1 => exact LaidM.below HT.out (by repeat (first | (with_reducible first | exact HB.out | apply below_alloc | apply pw_below_drewN | apply below_drew1) | exact HB.out))); rintro e w61 ⟨v156, rfl, ho0, hb⟩; have n0_ := Aside0.mk (Kd.R_lower ho0 (below_size (by repeat (first | (with_reducible first | exact HB.out | apply below_alloc | apply pw_below_drewN | apply below_drew1) | exact HB.out)))); have n1_ := Aside0.mk (below_step (by repeat (first | (with_reducible first | exact HB.out | apply below_alloc | apply pw_below_drewN | apply below_drew1) | exact HB.out)) hb); clear HB; have HO157 := n0_; have HB := n1_; clear n0_ n1_; (try clear hb); (try clear hb2); (try clear hk); (try clear hi); (try clear ho0)) | (go_at_call 25; (with_reducible refine (xml_Parse.calls (((⟨#[60, 97, 62]⟩ : ByteArray) ++ a2) ++ (⟨#[60, 47, 97, 62]⟩ : ByteArray)) t158 t159 _ ?side1 A52.out).mono ?_); (case side1 => exact LaidM.below HT.out (by repeat (first | (with_reducible first | exact HB.out | apply below_alloc | apply pw_below_drewN | apply below_drew1) | exact HB.out))); rintro e w62 ⟨v160, rfl, ho0, hb⟩; have n0_ := Aside0.mk (Kd.R_elder' (by (with_reducible repeat (first | apply Kd.R_alloc | apply Kd.R_drewN | apply Kd.R_drew)); exact HO157.out) (Kd.R_base ho0) hb); have n1_ := Aside0.mk (Kd.R_lower (Kd.R_new' ho0 (Kd.R_lt (by (with_reducible repeat (first | apply Kd.R_alloc | apply Kd.R_drewN | apply Kd.R_drew)); exact HO157.out))) (below_size (by repeat (first | (with_reducible first | exact HB.out | apply below_alloc | apply pw_below_drewN | apply below_drew1) | exact HB.out)))); have n2_ := Aside0.mk (below_step (by repeat (first | (with_reducible first | exact HB.out | apply below_alloc | apply pw_below_drewN | apply below_drew1) | exact HB.out)) hb); clear HO157; clear HB; have HO157 := n0_; have HO161 := n1_; have HB := n2_; clear n0_ n1_ n2_; (try clear hb); (try clear hb2); (try clear hk); (try clear hi); (try clear ho0); obtain ⟨Ao63, co63, eo63⟩ := Kd.R_slice HO157.out; subst eo63) | (go_at_call 22; (with_reducible refine (calepinref07_Same.calls kj32 _ _ t154 _ _ l0 false _ ?side1 ?side2 ?side3 ?side4 A54.out).mono ?_); (case side1 => repeat (first | exact (Kd.R_reads' HO157.out).2.2 | (with_reducible refine Kd.C_alloc ?_ _) | (with_reducible refine Kd.C_drewN ?_ _) | (with_reducible refine Kd.C_drew ?_))); (case side2 => exact (Kd.R_reads' HO157.out).2.1); (case side3 => repeat (first | exact (Kd.C_below HR0.out HB.out) | (with_reducible refine Kd.C_alloc ?_ _) | (with_reducible refine Kd.C_drewN ?_ _) | (with_reducible refine Kd.C_drew ?_))); (case side4 => exact HC0.out); rintro e w' ⟨rfl, ⟨nd, rfl⟩⟩; (try first | exact ⟨rfl, _, World.drewN_drewN _ _ _⟩ | exact ⟨rfl, _, Eq.trans (World.drewN_drewN _ _ _) (congrArg (World.drewN _) (Nat.add_assoc _ _ _))⟩)))
                                                  repeat (go_quiet (first | (go_at_call 25; (with_reducible refine (xml_Parse.calls (((((t152.extract 0 (x10_32 : Int).toNat) ++ (⟨#[60, 33, 45, 45]⟩ : ByteArray)) ++ a2) ++ (⟨#[45, 45, 62]⟩ : ByteArray)) ++ (t152.extract (x10_32 : Int).toNat t152.size)) t154 t155 _ ?side1 A47.out).mono ?_); (case side1 => exact LaidM.below HT.out (by repeat (first | (with_reducible first | exact HB.out | apply below_alloc | apply pw_below_drewN | apply below_drew1) | exact HB.out))); rintro e w61 ⟨v156, rfl, ho0, hb⟩; have n0_ := Aside0.mk (Kd.R_lower ho0 (below_size (by repeat (first | (with_reducible first | exact HB.out | apply below_alloc | apply pw_below_drewN | apply below_drew1) | exact HB.out)))); have n1_ := Aside0.mk (below_step (by repeat (first | (with_reducible first | exact HB.out | apply below_alloc | apply pw_below_drewN | apply below_drew1) | exact HB.out)) hb); clear HB; have HO157 := n0_; have HB := n1_; clear n0_ n1_; (try clear hb); (try clear hb2); (try clear hk); (try clear hi); (try clear ho0)) | (go_at_call 25; (with_reducible refine (xml_Parse.calls (((⟨#[60, 97, 62]⟩ : ByteArray) ++ a2) ++ (⟨#[60, 47, 97, 62]⟩ : ByteArray)) t158 t159 _ ?side1 A52.out).mono ?_); (case side1 => exact LaidM.below HT.out (by repeat (first | (with_reducible first | exact HB.out | apply below_alloc | apply pw_below_drewN | apply below_drew1) | exact HB.out))); rintro e w62 ⟨v160, rfl, ho0, hb⟩; have n0_ := Aside0.mk (Kd.R_elder' (by (with_reducible repeat (first | apply Kd.R_alloc | apply Kd.R_drewN | apply Kd.R_drew)); exact HO157.out) (Kd.R_base ho0) hb); have n1_ := Aside0.mk (Kd.R_lower (Kd.R_new' ho0 (Kd.R_lt (by (with_reducible repeat (first | apply Kd.R_alloc | apply Kd.R_drewN | apply Kd.R_drew)); exact HO157.out))) (below_size (by repeat (first | (with_reducible first | exact HB.out | apply below_alloc | apply pw_below_drewN | apply below_drew1) | exact HB.out)))); have n2_ := Aside0.mk (below_step (by repeat (first | (with_reducible first | exact HB.out | apply below_alloc | apply pw_below_drewN | apply below_drew1) | exact HB.out)) hb); clear HO157; clear HB; have HO157 := n0_; have HO161 := n1_; have HB := n2_; clear n0_ n1_ n2_; (try clear hb); (try clear hb2); (try clear hk); (try clear hi); (try clear ho0); obtain ⟨Ao63, co63, eo63⟩ := Kd.R_slice HO157.out; subst eo63) | (go_at_call 22; (with_reducible refine (calepinref07_Same.calls kj32 _ _ t154 _ _ l0 false _ ?side1 ?side2 ?side3 ?side4 A54.out).mono ?_); (case side1 => repeat (first | exact (Kd.R_reads' HO157.out).2.2 | (with_reducible refine Kd.C_alloc ?_ _) | (with_reducible refine Kd.C_drewN ?_ _) | (with_reducible refine Kd.C_drew ?_))); (case side2 => exact (Kd.R_reads' HO157.out).2.1); (case side3 => repeat (first | exact (Kd.C_below HR0.out HB.out) | (with_reducible refine Kd.C_alloc ?_ _) | (with_reducible refine Kd.C_drewN ?_ _) | (with_reducible refine Kd.C_drew ?_))); (case side4 => exact HC0.out); rintro e w' ⟨rfl, ⟨nd, rfl⟩⟩; (try first | exact ⟨rfl, _, World.drewN_drewN _ _ _⟩ | exact ⟨rfl, _, Eq.trans (World.drewN_drewN _ _ _) (congrArg (World.drewN _) (Nat.add_assoc _ _ _))⟩))); try go_wp2_with (first | (go_at_call 25; (with_reducible refine (xml_Parse.calls (((((t152.extract 0 (x10_32 : Int).toNat) ++ (⟨#[60, 33, 45, 45]⟩ : ByteArray)) ++ a2) ++ (⟨#[45, 45, 62]⟩ : ByteArray)) ++ (t152.extract (x10_32 : Int).toNat t152.size)) t154 t155 _ ?side1 A47.out).mono ?_); (case side1 => exact LaidM.below HT.out (by repeat (first | (with_reducible first | exact HB.out | apply below_alloc | apply pw_below_drewN | apply below_drew1) | exact HB.out))); rintro e w61 ⟨v156, rfl, ho0, hb⟩; have n0_ := Aside0.mk (Kd.R_lower ho0 (below_size (by repeat (first | (with_reducible first | exact HB.out | apply below_alloc | apply pw_below_drewN | apply below_drew1) | exact HB.out)))); have n1_ := Aside0.mk (below_step (by repeat (first | (with_reducible first | exact HB.out | apply below_alloc | apply pw_below_drewN | apply below_drew1) | exact HB.out)) hb); clear HB; have HO157 := n0_; have HB := n1_; clear n0_ n1_; (try clear hb); (try clear hb2); (try clear hk); (try clear hi); (try clear ho0)) | (go_at_call 25; (with_reducible refine (xml_Parse.calls (((⟨#[60, 97, 62]⟩ : ByteArray) ++ a2) ++ (⟨#[60, 47, 97, 62]⟩ : ByteArray)) t158 t159 _ ?side1 A52.out).mono ?_); (case side1 => exact LaidM.below HT.out (by repeat (first | (with_reducible first | exact HB.out | apply below_alloc | apply pw_below_drewN | apply below_drew1) | exact HB.out))); rintro e w62 ⟨v160, rfl, ho0, hb⟩; have n0_ := Aside0.mk (Kd.R_elder' (by (with_reducible repeat (first | apply Kd.R_alloc | apply Kd.R_drewN | apply Kd.R_drew)); exact HO157.out) (Kd.R_base ho0) hb); have n1_ := Aside0.mk (Kd.R_lower (Kd.R_new' ho0 (Kd.R_lt (by (with_reducible repeat (first | apply Kd.R_alloc | apply Kd.R_drewN | apply Kd.R_drew)); exact HO157.out))) (below_size (by repeat (first | (with_reducible first | exact HB.out | apply below_alloc | apply pw_below_drewN | apply below_drew1) | exact HB.out)))); have n2_ := Aside0.mk (below_step (by repeat (first | (with_reducible first | exact HB.out | apply below_alloc | apply pw_below_drewN | apply below_drew1) | exact HB.out)) hb); clear HO157; clear HB; have HO157 := n0_; have HO161 := n1_; have HB := n2_; clear n0_ n1_ n2_; (try clear hb); (try clear hb2); (try clear hk); (try clear hi); (try clear ho0); obtain ⟨Ao63, co63, eo63⟩ := Kd.R_slice HO157.out; subst eo63) | (go_at_call 22; (with_reducible refine (calepinref07_Same.calls kj32 _ _ t154 _ _ l0 false _ ?side1 ?side2 ?side3 ?side4 A54.out).mono ?_); (case side1 => repeat (first | exact (Kd.R_reads' HO157.out).2.2 | (with_reducible refine Kd.C_alloc ?_ _) | (with_reducible refine Kd.C_drewN ?_ _) | (with_reducible refine Kd.C_drew ?_))); (case side2 => exact (Kd.R_reads' HO157.out).2.1); (case side3 => repeat (first | exact (Kd.C_below HR0.out HB.out) | (with_reducible refine Kd.C_alloc ?_ _) | (with_reducible refine Kd.C_drewN ?_ _) | (with_reducible refine Kd.C_drew ?_))); (case side4 => exact HC0.out); rintro e w' ⟨rfl, ⟨nd, rfl⟩⟩; (try first | exact ⟨rfl, _, World.drewN_drewN _ _ _⟩ | exact ⟨rfl, _, Eq.trans (World.drewN_drewN _ _ _) (congrArg (World.drewN _) (Nat.add_assoc _ _ _))⟩))))
                                                  go_ret
                                                  exact ⟨by first | rfl | (simp [errW_none, errW_some] <;> rfl) | (simp [*, errW_none, errW_some] <;> rfl), by repeat (first | (with_reducible first | exact HB.out | apply below_alloc | apply pw_below_drewN | apply below_drew1) | exact HB.out)⟩
                                                · rw [if_neg c60] at H
                                                  have c60b0 : (t159 == 10) = false := beq_eq_false_iff_ne.mpr c60
                                                  have c60b1 : (t159 != 10) = true := bne_iff_ne.mpr c60
                                                  obtain rfl := Option.some.inj H
                                                  go_wp2_with (first | (go_at_call 25; (with_reducible refine (xml_Parse.calls (((((t152.extract 0 (x10_32 : Int).toNat) ++ (⟨#[60, 33, 45, 45]⟩ : ByteArray)) ++ a2) ++ (⟨#[45, 45, 62]⟩ : ByteArray)) ++ (t152.extract (x10_32 : Int).toNat t152.size)) t154 t155 _ ?side1 A47.out).mono ?_); (case side1 => exact LaidM.below HT.out (by repeat (first | (with_reducible first | exact HB.out | apply below_alloc | apply pw_below_drewN | apply below_drew1) | exact HB.out))); rintro e w64 ⟨v156, rfl, ho0, hb⟩; have n0_ := Aside0.mk (Kd.R_lower ho0 (below_size (by repeat (first | (with_reducible first | exact HB.out | apply below_alloc | apply pw_below_drewN | apply below_drew1) | exact HB.out)))); have n1_ := Aside0.mk (below_step (by repeat (first | (with_reducible first | exact HB.out | apply below_alloc | apply pw_below_drewN | apply below_drew1) | exact HB.out)) hb); clear HB; have HO157 := n0_; have HB := n1_; clear n0_ n1_; (try clear hb); (try clear hb2); (try clear hk); (try clear hi); (try clear ho0)) | (go_at_call 25; (with_reducible refine (xml_Parse.calls (((⟨#[60, 97, 62]⟩ : ByteArray) ++ a2) ++ (⟨#[60, 47, 97, 62]⟩ : ByteArray)) t158 t159 _ ?side1 A52.out).mono ?_); (case side1 => exact LaidM.below HT.out (by repeat (first | (with_reducible first | exact HB.out | apply below_alloc | apply pw_below_drewN | apply below_drew1) | exact HB.out))); rintro e w65 ⟨v160, rfl, ho0, hb⟩; have n0_ := Aside0.mk (Kd.R_elder' (by (with_reducible repeat (first | apply Kd.R_alloc | apply Kd.R_drewN | apply Kd.R_drew)); exact HO157.out) (Kd.R_base ho0) hb); have n1_ := Aside0.mk (Kd.R_lower (Kd.R_new' ho0 (Kd.R_lt (by (with_reducible repeat (first | apply Kd.R_alloc | apply Kd.R_drewN | apply Kd.R_drew)); exact HO157.out))) (below_size (by repeat (first | (with_reducible first | exact HB.out | apply below_alloc | apply pw_below_drewN | apply below_drew1) | exact HB.out)))); have n2_ := Aside0.mk (below_step (by repeat (first | (with_reducible first | exact HB.out | apply below_alloc | apply pw_below_drewN | apply below_drew1) | exact HB.out)) hb); clear HO157; clear HB; have HO157 := n0_; have HO161 := n1_; have HB := n2_; clear n0_ n1_ n2_; (try clear hb); (try clear hb2); (try clear hk); (try clear hi); (try clear ho0); obtain ⟨Ao66, co66, eo66⟩ := Kd.R_slice HO157.out; subst eo66) | (go_at_call 22; (with_reducible refine (calepinref07_Same.calls kj32 _ _ t154 _ _ l0 false _ ?side1 ?side2 ?side3 ?side4 A54.out).mono ?_); (case side1 => repeat (first | exact (Kd.R_reads' HO157.out).2.2 | (with_reducible refine Kd.C_alloc ?_ _) | (with_reducible refine Kd.C_drewN ?_ _) | (with_reducible refine Kd.C_drew ?_))); (case side2 => exact (Kd.R_reads' HO157.out).2.1); (case side3 => repeat (first | exact (Kd.C_below HR0.out HB.out) | (with_reducible refine Kd.C_alloc ?_ _) | (with_reducible refine Kd.C_drewN ?_ _) | (with_reducible refine Kd.C_drew ?_))); (case side4 => exact HC0.out); rintro e w' ⟨rfl, ⟨nd, rfl⟩⟩; (try first | exact ⟨rfl, _, World.drewN_drewN _ _ _⟩ | exact ⟨rfl, _, Eq.trans (World.drewN_drewN _ _ _) (congrArg (World.drewN _) (Nat.add_assoc _ _ _))⟩)))
                                                  repeat (go_quiet (first | (go_at_call 25; (with_reducible refine (xml_Parse.calls (((((t152.extract 0 (x10_32 : Int).toNat) ++ (⟨#[60, 33, 45, 45]⟩ : ByteArray)) ++ a2) ++ (⟨#[45, 45, 62]⟩ : ByteArray)) ++ (t152.extract (x10_32 : Int).toNat t152.size)) t154 t155 _ ?side1 A47.out).mono ?_); (case side1 => exact LaidM.below HT.out (by repeat (first | (with_reducible first | exact HB.out | apply below_alloc | apply pw_below_drewN | apply below_drew1) | exact HB.out))); rintro e w64 ⟨v156, rfl, ho0, hb⟩; have n0_ := Aside0.mk (Kd.R_lower ho0 (below_size (by repeat (first | (with_reducible first | exact HB.out | apply below_alloc | apply pw_below_drewN | apply below_drew1) | exact HB.out)))); have n1_ := Aside0.mk (below_step (by repeat (first | (with_reducible first | exact HB.out | apply below_alloc | apply pw_below_drewN | apply below_drew1) | exact HB.out)) hb); clear HB; have HO157 := n0_; have HB := n1_; clear n0_ n1_; (try clear hb); (try clear hb2); (try clear hk); (try clear hi); (try clear ho0)) | (go_at_call 25; (with_reducible refine (xml_Parse.calls (((⟨#[60, 97, 62]⟩ : ByteArray) ++ a2) ++ (⟨#[60, 47, 97, 62]⟩ : ByteArray)) t158 t159 _ ?side1 A52.out).mono ?_); (case side1 => exact LaidM.below HT.out (by repeat (first | (with_reducible first | exact HB.out | apply below_alloc | apply pw_below_drewN | apply below_drew1) | exact HB.out))); rintro e w65 ⟨v160, rfl, ho0, hb⟩; have n0_ := Aside0.mk (Kd.R_elder' (by (with_reducible repeat (first | apply Kd.R_alloc | apply Kd.R_drewN | apply Kd.R_drew)); exact HO157.out) (Kd.R_base ho0) hb); have n1_ := Aside0.mk (Kd.R_lower (Kd.R_new' ho0 (Kd.R_lt (by (with_reducible repeat (first | apply Kd.R_alloc | apply Kd.R_drewN | apply Kd.R_drew)); exact HO157.out))) (below_size (by repeat (first | (with_reducible first | exact HB.out | apply below_alloc | apply pw_below_drewN | apply below_drew1) | exact HB.out)))); have n2_ := Aside0.mk (below_step (by repeat (first | (with_reducible first | exact HB.out | apply below_alloc | apply pw_below_drewN | apply below_drew1) | exact HB.out)) hb); clear HO157; clear HB; have HO157 := n0_; have HO161 := n1_; have HB := n2_; clear n0_ n1_ n2_; (try clear hb); (try clear hb2); (try clear hk); (try clear hi); (try clear ho0); obtain ⟨Ao66, co66, eo66⟩ := Kd.R_slice HO157.out; subst eo66) | (go_at_call 22; (with_reducible refine (calepinref07_Same.calls kj32 _ _ t154 _ _ l0 false _ ?side1 ?side2 ?side3 ?side4 A54.out).mono ?_); (case side1 => repeat (first | exact (Kd.R_reads' HO157.out).2.2 | (with_reducible refine Kd.C_alloc ?_ _) | (with_reducible refine Kd.C_drewN ?_ _) | (with_reducible refine Kd.C_drew ?_))); (case side2 => exact (Kd.R_reads' HO157.out).2.1); (case side3 => repeat (first | exact (Kd.C_below HR0.out HB.out) | (with_reducible refine Kd.C_alloc ?_ _) | (with_reducible refine Kd.C_drewN ?_ _) | (with_reducible refine Kd.C_drew ?_))); (case side4 => exact HC0.out); rintro e w' ⟨rfl, ⟨nd, rfl⟩⟩; (try first | exact ⟨rfl, _, World.drewN_drewN _ _ _⟩ | exact ⟨rfl, _, Eq.trans (World.drewN_drewN _ _ _) (congrArg (World.drewN _) (Nat.add_assoc _ _ _))⟩))); try go_wp2_with (first | (go_at_call 25; (with_reducible refine (xml_Parse.calls (((((t152.extract 0 (x10_32 : Int).toNat) ++ (⟨#[60, 33, 45, 45]⟩ : ByteArray)) ++ a2) ++ (⟨#[45, 45, 62]⟩ : ByteArray)) ++ (t152.extract (x10_32 : Int).toNat t152.size)) t154 t155 _ ?side1 A47.out).mono ?_); (case side1 => exact LaidM.below HT.out (by repeat (first | (with_reducible first | exact HB.out | apply below_alloc | apply pw_below_drewN | apply below_drew1) | exact HB.out))); rintro e w64 ⟨v156, rfl, ho0, hb⟩; have n0_ := Aside0.mk (Kd.R_lower ho0 (below_size (by repeat (first | (with_reducible first | exact HB.out | apply below_alloc | apply pw_below_drewN | apply below_drew1) | exact HB.out)))); have n1_ := Aside0.mk (below_step (by repeat (first | (with_reducible first | exact HB.out | apply below_alloc | apply pw_below_drewN | apply below_drew1) | exact HB.out)) hb); clear HB; have HO157 := n0_; have HB := n1_; clear n0_ n1_; (try clear hb); (try clear hb2); (try clear hk); (try clear hi); (try clear ho0)) | (go_at_call 25; (with_reducible refine (xml_Parse.calls (((⟨#[60, 97, 62]⟩ : ByteArray) ++ a2) ++ (⟨#[60, 47, 97, 62]⟩ : ByteArray)) t158 t159 _ ?side1 A52.out).mono ?_); (case side1 => exact LaidM.below HT.out (by repeat (first | (with_reducible first | exact HB.out | apply below_alloc | apply pw_below_drewN | apply below_drew1) | exact HB.out))); rintro e w65 ⟨v160, rfl, ho0, hb⟩; have n0_ := Aside0.mk (Kd.R_elder' (by (with_reducible repeat (first | apply Kd.R_alloc | apply Kd.R_drewN | apply Kd.R_drew)); exact HO157.out) (Kd.R_base ho0) hb); have n1_ := Aside0.mk (Kd.R_lower (Kd.R_new' ho0 (Kd.R_lt (by (with_reducible repeat (first | apply Kd.R_alloc | apply Kd.R_drewN | apply Kd.R_drew)); exact HO157.out))) (below_size (by repeat (first | (with_reducible first | exact HB.out | apply below_alloc | apply pw_below_drewN | apply below_drew1) | exact HB.out)))); have n2_ := Aside0.mk (below_step (by repeat (first | (with_reducible first | exact HB.out | apply below_alloc | apply pw_below_drewN | apply below_drew1) | exact HB.out)) hb); clear HO157; clear HB; have HO157 := n0_; have HO161 := n1_; have HB := n2_; clear n0_ n1_ n2_; (try clear hb); (try clear hb2); (try clear hk); (try clear hi); (try clear ho0); obtain ⟨Ao66, co66, eo66⟩ := Kd.R_slice HO157.out; subst eo66) | (go_at_call 22; (with_reducible refine (calepinref07_Same.calls kj32 _ _ t154 _ _ l0 false _ ?side1 ?side2 ?side3 ?side4 A54.out).mono ?_); (case side1 => repeat (first | exact (Kd.R_reads' HO157.out).2.2 | (with_reducible refine Kd.C_alloc ?_ _) | (with_reducible refine Kd.C_drewN ?_ _) | (with_reducible refine Kd.C_drew ?_))); (case side2 => exact (Kd.R_reads' HO157.out).2.1); (case side3 => repeat (first | exact (Kd.C_below HR0.out HB.out) | (with_reducible refine Kd.C_alloc ?_ _) | (with_reducible refine Kd.C_drewN ?_ _) | (with_reducible refine Kd.C_drew ?_))); (case side4 => exact HC0.out); rintro e w' ⟨rfl, ⟨nd, rfl⟩⟩; (try first | exact ⟨rfl, _, World.drewN_drewN _ _ _⟩ | exact ⟨rfl, _, Eq.trans (World.drewN_drewN _ _ _) (congrArg (World.drewN _) (Nat.add_assoc _ _ _))⟩))))
                                                  go_ret
                                                  exact ⟨by first | rfl | (simp [errW_none, errW_some] <;> rfl) | (simp [*, errW_none, errW_some] <;> rfl), by repeat (first | (with_reducible first | exact HB.out | apply below_alloc | apply pw_below_drewN | apply below_drew1) | exact HB.out)⟩
                                              · rw [if_neg c59] at H
                                                have c59b0 : (t155 == 10) = false := beq_eq_false_iff_ne.mpr c59
                                                have c59b1 : (t155 != 10) = true := bne_iff_ne.mpr c59
                                                obtain rfl := Option.some.inj H
                                                go_wp2_with (first | (go_at_call 25; (with_reducible refine (xml_Parse.calls (((((t152.extract 0 (x10_32 : Int).toNat) ++ (⟨#[60, 33, 45, 45]⟩ : ByteArray)) ++ a2) ++ (⟨#[45, 45, 62]⟩ : ByteArray)) ++ (t152.extract (x10_32 : Int).toNat t152.size)) t154 t155 _ ?side1 A47.out).mono ?_); (case side1 => exact LaidM.below HT.out (by repeat (first | (with_reducible first | exact HB.out | apply below_alloc | apply pw_below_drewN | apply below_drew1) | exact HB.out))); rintro e w67 ⟨v156, rfl, ho0, hb⟩; have n0_ := Aside0.mk (Kd.R_lower ho0 (below_size (by repeat (first | (with_reducible first | exact HB.out | apply below_alloc | apply pw_below_drewN | apply below_drew1) | exact HB.out)))); have n1_ := Aside0.mk (below_step (by repeat (first | (with_reducible first | exact HB.out | apply below_alloc | apply pw_below_drewN | apply below_drew1) | exact HB.out)) hb); clear HB; have HO157 := n0_; have HB := n1_; clear n0_ n1_; (try clear hb); (try clear hb2); (try clear hk); (try clear hi); (try clear ho0)) | (go_at_call 25; (with_reducible refine (xml_Parse.calls (((⟨#[60, 97, 62]⟩ : ByteArray) ++ a2) ++ (⟨#[60, 47, 97, 62]⟩ : ByteArray)) t158 t159 _ ?side1 A52.out).mono ?_); (case side1 => exact LaidM.below HT.out (by repeat (first | (with_reducible first | exact HB.out | apply below_alloc | apply pw_below_drewN | apply below_drew1) | exact HB.out))); rintro e w68 ⟨v160, rfl, ho0, hb⟩; have n0_ := Aside0.mk (Kd.R_elder' (by (with_reducible repeat (first | apply Kd.R_alloc | apply Kd.R_drewN | apply Kd.R_drew)); exact HO157.out) (Kd.R_base ho0) hb); have n1_ := Aside0.mk (Kd.R_lower (Kd.R_new' ho0 (Kd.R_lt (by (with_reducible repeat (first | apply Kd.R_alloc | apply Kd.R_drewN | apply Kd.R_drew)); exact HO157.out))) (below_size (by repeat (first | (with_reducible first | exact HB.out | apply below_alloc | apply pw_below_drewN | apply below_drew1) | exact HB.out)))); have n2_ := Aside0.mk (below_step (by repeat (first | (with_reducible first | exact HB.out | apply below_alloc | apply pw_below_drewN | apply below_drew1) | exact HB.out)) hb); clear HO157; clear HB; have HO157 := n0_; have HO161 := n1_; have HB := n2_; clear n0_ n1_ n2_; (try clear hb); (try clear hb2); (try clear hk); (try clear hi); (try clear ho0); obtain ⟨Ao69, co69, eo69⟩ := Kd.R_slice HO157.out; subst eo69) | (go_at_call 22; (with_reducible refine (calepinref07_Same.calls kj32 _ _ t154 _ _ l0 false _ ?side1 ?side2 ?side3 ?side4 A54.out).mono ?_); (case side1 => repeat (first | exact (Kd.R_reads' HO157.out).2.2 | (with_reducible refine Kd.C_alloc ?_ _) | (with_reducible refine Kd.C_drewN ?_ _) | (with_reducible refine Kd.C_drew ?_))); (case side2 => exact (Kd.R_reads' HO157.out).2.1); (case side3 => repeat (first | exact (Kd.C_below HR0.out HB.out) | (with_reducible refine Kd.C_alloc ?_ _) | (with_reducible refine Kd.C_drewN ?_ _) | (with_reducible refine Kd.C_drew ?_))); (case side4 => exact HC0.out); rintro e w' ⟨rfl, ⟨nd, rfl⟩⟩; (try first | exact ⟨rfl, _, World.drewN_drewN _ _ _⟩ | exact ⟨rfl, _, Eq.trans (World.drewN_drewN _ _ _) (congrArg (World.drewN _) (Nat.add_assoc _ _ _))⟩)))
                                                repeat (go_quiet (first | (go_at_call 25; (with_reducible refine (xml_Parse.calls (((((t152.extract 0 (x10_32 : Int).toNat) ++ (⟨#[60, 33, 45, 45]⟩ : ByteArray)) ++ a2) ++ (⟨#[45, 45, 62]⟩ : ByteArray)) ++ (t152.extract (x10_32 : Int).toNat t152.size)) t154 t155 _ ?side1 A47.out).mono ?_); (case side1 => exact LaidM.below HT.out (by repeat (first | (with_reducible first | exact HB.out | apply below_alloc | apply pw_below_drewN | apply below_drew1) | exact HB.out))); rintro e w67 ⟨v156, rfl, ho0, hb⟩; have n0_ := Aside0.mk (Kd.R_lower ho0 (below_size (by repeat (first | (with_reducible first | exact HB.out | apply below_alloc | apply pw_below_drewN | apply below_drew1) | exact HB.out)))); have n1_ := Aside0.mk (below_step (by repeat (first | (with_reducible first | exact HB.out | apply below_alloc | apply pw_below_drewN | apply below_drew1) | exact HB.out)) hb); clear HB; have HO157 := n0_; have HB := n1_; clear n0_ n1_; (try clear hb); (try clear hb2); (try clear hk); (try clear hi); (try clear ho0)) | (go_at_call 25; (with_reducible refine (xml_Parse.calls (((⟨#[60, 97, 62]⟩ : ByteArray) ++ a2) ++ (⟨#[60, 47, 97, 62]⟩ : ByteArray)) t158 t159 _ ?side1 A52.out).mono ?_); (case side1 => exact LaidM.below HT.out (by repeat (first | (with_reducible first | exact HB.out | apply below_alloc | apply pw_below_drewN | apply below_drew1) | exact HB.out))); rintro e w68 ⟨v160, rfl, ho0, hb⟩; have n0_ := Aside0.mk (Kd.R_elder' (by (with_reducible repeat (first | apply Kd.R_alloc | apply Kd.R_drewN | apply Kd.R_drew)); exact HO157.out) (Kd.R_base ho0) hb); have n1_ := Aside0.mk (Kd.R_lower (Kd.R_new' ho0 (Kd.R_lt (by (with_reducible repeat (first | apply Kd.R_alloc | apply Kd.R_drewN | apply Kd.R_drew)); exact HO157.out))) (below_size (by repeat (first | (with_reducible first | exact HB.out | apply below_alloc | apply pw_below_drewN | apply below_drew1) | exact HB.out)))); have n2_ := Aside0.mk (below_step (by repeat (first | (with_reducible first | exact HB.out | apply below_alloc | apply pw_below_drewN | apply below_drew1) | exact HB.out)) hb); clear HO157; clear HB; have HO157 := n0_; have HO161 := n1_; have HB := n2_; clear n0_ n1_ n2_; (try clear hb); (try clear hb2); (try clear hk); (try clear hi); (try clear ho0); obtain ⟨Ao69, co69, eo69⟩ := Kd.R_slice HO157.out; subst eo69) | (go_at_call 22; (with_reducible refine (calepinref07_Same.calls kj32 _ _ t154 _ _ l0 false _ ?side1 ?side2 ?side3 ?side4 A54.out).mono ?_); (case side1 => repeat (first | exact (Kd.R_reads' HO157.out).2.2 | (with_reducible refine Kd.C_alloc ?_ _) | (with_reducible refine Kd.C_drewN ?_ _) | (with_reducible refine Kd.C_drew ?_))); (case side2 => exact (Kd.R_reads' HO157.out).2.1); (case side3 => repeat (first | exact (Kd.C_below HR0.out HB.out) | (with_reducible refine Kd.C_alloc ?_ _) | (with_reducible refine Kd.C_drewN ?_ _) | (with_reducible refine Kd.C_drew ?_))); (case side4 => exact HC0.out); rintro e w' ⟨rfl, ⟨nd, rfl⟩⟩; (try first | exact ⟨rfl, _, World.drewN_drewN _ _ _⟩ | exact ⟨rfl, _, Eq.trans (World.drewN_drewN _ _ _) (congrArg (World.drewN _) (Nat.add_assoc _ _ _))⟩))); try go_wp2_with (first | (go_at_call 25; (with_reducible refine (xml_Parse.calls (((((t152.extract 0 (x10_32 : Int).toNat) ++ (⟨#[60, 33, 45, 45]⟩ : ByteArray)) ++ a2) ++ (⟨#[45, 45, 62]⟩ : ByteArray)) ++ (t152.extract (x10_32 : Int).toNat t152.size)) t154 t155 _ ?side1 A47.out).mono ?_); (case side1 => exact LaidM.below HT.out (by repeat (first | (with_reducible first | exact HB.out | apply below_alloc | apply pw_below_drewN | apply below_drew1) | exact HB.out))); rintro e w67 ⟨v156, rfl, ho0, hb⟩; have n0_ := Aside0.mk (Kd.R_lower ho0 (below_size (by repeat (first | (with_reducible first | exact HB.out | apply below_alloc | apply pw_below_drewN | apply below_drew1) | exact HB.out)))); have n1_ := Aside0.mk (below_step (by repeat (first | (with_reducible first | exact HB.out | apply below_alloc | apply pw_below_drewN | apply below_drew1) | exact HB.out)) hb); clear HB; have HO157 := n0_; have HB := n1_; clear n0_ n1_; (try clear hb); (try clear hb2); (try clear hk); (try clear hi); (try clear ho0)) | (go_at_call 25; (with_reducible refine (xml_Parse.calls (((⟨#[60, 97, 62]⟩ : ByteArray) ++ a2) ++ (⟨#[60, 47, 97, 62]⟩ : ByteArray)) t158 t159 _ ?side1 A52.out).mono ?_); (case side1 => exact LaidM.below HT.out (by repeat (first | (with_reducible first | exact HB.out | apply below_alloc | apply pw_below_drewN | apply below_drew1) | exact HB.out))); rintro e w68 ⟨v160, rfl, ho0, hb⟩; have n0_ := Aside0.mk (Kd.R_elder' (by (with_reducible repeat (first | apply Kd.R_alloc | apply Kd.R_drewN | apply Kd.R_drew)); exact HO157.out) (Kd.R_base ho0) hb); have n1_ := Aside0.mk (Kd.R_lower (Kd.R_new' ho0 (Kd.R_lt (by (with_reducible repeat (first | apply Kd.R_alloc | apply Kd.R_drewN | apply Kd.R_drew)); exact HO157.out))) (below_size (by repeat (first | (with_reducible first | exact HB.out | apply below_alloc | apply pw_below_drewN | apply below_drew1) | exact HB.out)))); have n2_ := Aside0.mk (below_step (by repeat (first | (with_reducible first | exact HB.out | apply below_alloc | apply pw_below_drewN | apply below_drew1) | exact HB.out)) hb); clear HO157; clear HB; have HO157 := n0_; have HO161 := n1_; have HB := n2_; clear n0_ n1_ n2_; (try clear hb); (try clear hb2); (try clear hk); (try clear hi); (try clear ho0); obtain ⟨Ao69, co69, eo69⟩ := Kd.R_slice HO157.out; subst eo69) | (go_at_call 22; (with_reducible refine (calepinref07_Same.calls kj32 _ _ t154 _ _ l0 false _ ?side1 ?side2 ?side3 ?side4 A54.out).mono ?_); (case side1 => repeat (first | exact (Kd.R_reads' HO157.out).2.2 | (with_reducible refine Kd.C_alloc ?_ _) | (with_reducible refine Kd.C_drewN ?_ _) | (with_reducible refine Kd.C_drew ?_))); (case side2 => exact (Kd.R_reads' HO157.out).2.1); (case side3 => repeat (first | exact (Kd.C_below HR0.out HB.out) | (with_reducible refine Kd.C_alloc ?_ _) | (with_reducible refine Kd.C_drewN ?_ _) | (with_reducible refine Kd.C_drew ?_))); (case side4 => exact HC0.out); rintro e w' ⟨rfl, ⟨nd, rfl⟩⟩; (try first | exact ⟨rfl, _, World.drewN_drewN _ _ _⟩ | exact ⟨rfl, _, Eq.trans (World.drewN_drewN _ _ _) (congrArg (World.drewN _) (Nat.add_assoc _ _ _))⟩))))
                                                go_ret
                                                exact ⟨by first | rfl | (simp [errW_none, errW_some] <;> rfl) | (simp [*, errW_none, errW_some] <;> rfl), by repeat (first | (with_reducible first | exact HB.out | apply below_alloc | apply pw_below_drewN | apply below_drew1) | exact HB.out)⟩
                                          · rw [if_neg c53] at H
                                            have c53b0 : (t155 == 0) = false := beq_eq_false_iff_ne.mpr c53
                                            have c53b1 : (t155 != 0) = true := bne_iff_ne.mpr c53
                                            by_cases c70 : t155 = 10
                                            · rw [if_pos c70] at H
                                              have c70b0 : (t155 == 10) = true := beq_iff_eq.mpr c70
                                              have c70b1 : (t155 != 10) = false := bne_eq_false_iff_eq.mpr c70
                                              clear c70
                                              by_cases c71 : t159 = 10
                                              · rw [if_pos c71] at H
                                                have c71b0 : (t159 == 10) = true := beq_iff_eq.mpr c71
                                                have c71b1 : (t159 != 10) = false := bne_eq_false_iff_eq.mpr c71
                                                clear c71
                                                obtain rfl := Option.some.inj H
                                                go_wp2_with (first | (go_at_call 25; (with_reducible refine (xml_Parse.calls (((((t152.extract 0 (x10_32 : Int).toNat) ++ (⟨#[60, 33, 45, 45]⟩ : ByteArray)) ++ a2) ++ (⟨#[45, 45, 62]⟩ : ByteArray)) ++ (t152.extract (x10_32 : Int).toNat t152.size)) t154 t155 _ ?side1 A47.out).mono ?_); (case side1 => exact LaidM.below HT.out (by repeat (first | (with_reducible first | exact HB.out | apply below_alloc | apply pw_below_drewN | apply below_drew1) | exact HB.out))); rintro e w72 ⟨v156, rfl, ho0, hb⟩; have n0_ := Aside0.mk (Kd.R_lower ho0 (below_size (by repeat (first | (with_reducible first | exact HB.out | apply below_alloc | apply pw_below_drewN | apply below_drew1) | exact HB.out)))); have n1_ := Aside0.mk (below_step (by repeat (first | (with_reducible first | exact HB.out | apply below_alloc | apply pw_below_drewN | apply below_drew1) | exact HB.out)) hb); clear HB; have HO157 := n0_; have HB := n1_; clear n0_ n1_; (try clear hb); (try clear hb2); (try clear hk); (try clear hi); (try clear ho0)) | (go_at_call 25; (with_reducible refine (xml_Parse.calls (((⟨#[60, 97, 62]⟩ : ByteArray) ++ a2) ++ (⟨#[60, 47, 97, 62]⟩ : ByteArray)) t158 t159 _ ?side1 A52.out).mono ?_); (case side1 => exact LaidM.below HT.out (by repeat (first | (with_reducible first | exact HB.out | apply below_alloc | apply pw_below_drewN | apply below_drew1) | exact HB.out))); rintro e w73 ⟨v160, rfl, ho0, hb⟩; have n0_ := Aside0.mk (Kd.R_elder' (by (with_reducible repeat (first | apply Kd.R_alloc | apply Kd.R_drewN | apply Kd.R_drew)); exact HO157.out) (Kd.R_base ho0) hb); have n1_ := Aside0.mk (Kd.R_lower (Kd.R_new' ho0 (Kd.R_lt (by (with_reducible repeat (first | apply Kd.R_alloc | apply Kd.R_drewN | apply Kd.R_drew)); exact HO157.out))) (below_size (by repeat (first | (with_reducible first | exact HB.out | apply below_alloc | apply pw_below_drewN | apply below_drew1) | exact HB.out)))); have n2_ := Aside0.mk (below_step (by repeat (first | (with_reducible first | exact HB.out | apply below_alloc | apply pw_below_drewN | apply below_drew1) | exact HB.out)) hb); clear HO157; clear HB; have HO157 := n0_; have HO161 := n1_; have HB := n2_; clear n0_ n1_ n2_; (try clear hb); (try clear hb2); (try clear hk); (try clear hi); (try clear ho0)))
                                                repeat (go_quiet (first | (go_at_call 25; (with_reducible refine (xml_Parse.calls (((((t152.extract 0 (x10_32 : Int).toNat) ++ (⟨#[60, 33, 45, 45]⟩ : ByteArray)) ++ a2) ++ (⟨#[45, 45, 62]⟩ : ByteArray)) ++ (t152.extract (x10_32 : Int).toNat t152.size)) t154 t155 _ ?side1 A47.out).mono ?_); (case side1 => exact LaidM.below HT.out (by repeat (first | (with_reducible first | exact HB.out | apply below_alloc | apply pw_below_drewN | apply below_drew1) | exact HB.out))); rintro e w72 ⟨v156, rfl, ho0, hb⟩; have n0_ := Aside0.mk (Kd.R_lower ho0 (below_size (by repeat (first | (with_reducible first | exact HB.out | apply below_alloc | apply pw_below_drewN | apply below_drew1) | exact HB.out)))); have n1_ := Aside0.mk (below_step (by repeat (first | (with_reducible first | exact HB.out | apply below_alloc | apply pw_below_drewN | apply below_drew1) | exact HB.out)) hb); clear HB; have HO157 := n0_; have HB := n1_; clear n0_ n1_; (try clear hb); (try clear hb2); (try clear hk); (try clear hi); (try clear ho0)) | (go_at_call 25; (with_reducible refine (xml_Parse.calls (((⟨#[60, 97, 62]⟩ : ByteArray) ++ a2) ++ (⟨#[60, 47, 97, 62]⟩ : ByteArray)) t158 t159 _ ?side1 A52.out).mono ?_); (case side1 => exact LaidM.below HT.out (by repeat (first | (with_reducible first | exact HB.out | apply below_alloc | apply pw_below_drewN | apply below_drew1) | exact HB.out))); rintro e w73 ⟨v160, rfl, ho0, hb⟩; have n0_ := Aside0.mk (Kd.R_elder' (by (with_reducible repeat (first | apply Kd.R_alloc | apply Kd.R_drewN | apply Kd.R_drew)); exact HO157.out) (Kd.R_base ho0) hb); have n1_ := Aside0.mk (Kd.R_lower (Kd.R_new' ho0 (Kd.R_lt (by (with_reducible repeat (first | apply Kd.R_alloc | apply Kd.R_drewN | apply Kd.R_drew)); exact HO157.out))) (below_size (by repeat (first | (with_reducible first | exact HB.out | apply below_alloc | apply pw_below_drewN | apply below_drew1) | exact HB.out)))); have n2_ := Aside0.mk (below_step (by repeat (first | (with_reducible first | exact HB.out | apply below_alloc | apply pw_below_drewN | apply below_drew1) | exact HB.out)) hb); clear HO157; clear HB; have HO157 := n0_; have HO161 := n1_; have HB := n2_; clear n0_ n1_ n2_; (try clear hb); (try clear hb2); (try clear hk); (try clear hi); (try clear ho0))); try go_wp2_with (first | (go_at_call 25; (with_reducible refine (xml_Parse.calls (((((t152.extract 0 (x10_32 : Int).toNat) ++ (⟨#[60, 33, 45, 45]⟩ : ByteArray)) ++ a2) ++ (⟨#[45, 45, 62]⟩ : ByteArray)) ++ (t152.extract (x10_32 : Int).toNat t152.size)) t154 t155 _ ?side1 A47.out).mono ?_); (case side1 => exact LaidM.below HT.out (by repeat (first | (with_reducible first | exact HB.out | apply below_alloc | apply pw_below_drewN | apply below_drew1) | exact HB.out))); rintro e w72 ⟨v156, rfl, ho0, hb⟩; have n0_ := Aside0.mk (Kd.R_lower ho0 (below_size (by repeat (first | (with_reducible first | exact HB.out | apply below_alloc | apply pw_below_drewN | apply below_drew1) | exact HB.out)))); have n1_ := Aside0.mk (below_step (by repeat (first | (with_reducible first | exact HB.out | apply below_alloc | apply pw_below_drewN | apply below_drew1) | exact HB.out)) hb); clear HB; have HO157 := n0_; have HB := n1_; clear n0_ n1_; (try clear hb); (try clear hb2); (try clear hk); (try clear hi); (try clear ho0)) | (go_at_call 25; (with_reducible refine (xml_Parse.calls (((⟨#[60, 97, 62]⟩ : ByteArray) ++ a2) ++ (⟨#[60, 47, 97, 62]⟩ : ByteArray)) t158 t159 _ ?side1 A52.out).mono ?_); (case side1 => exact LaidM.below HT.out (by repeat (first | (with_reducible first | exact HB.out | apply below_alloc | apply pw_below_drewN | apply below_drew1) | exact HB.out))); rintro e w73 ⟨v160, rfl, ho0, hb⟩; have n0_ := Aside0.mk (Kd.R_elder' (by (with_reducible repeat (first | apply Kd.R_alloc | apply Kd.R_drewN | apply Kd.R_drew)); exact HO157.out) (Kd.R_base ho0) hb); have n1_ := Aside0.mk (Kd.R_lower (Kd.R_new' ho0 (Kd.R_lt (by (with_reducible repeat (first | apply Kd.R_alloc | apply Kd.R_drewN | apply Kd.R_drew)); exact HO157.out))) (below_size (by repeat (first | (with_reducible first | exact HB.out | apply below_alloc | apply pw_below_drewN | apply below_drew1) | exact HB.out)))); have n2_ := Aside0.mk (below_step (by repeat (first | (with_reducible first | exact HB.out | apply below_alloc | apply pw_below_drewN | apply below_drew1) | exact HB.out)) hb); clear HO157; clear HB; have HO157 := n0_; have HO161 := n1_; have HB := n2_; clear n0_ n1_ n2_; (try clear hb); (try clear hb2); (try clear hk); (try clear hi); (try clear ho0))))
                                                go_ret
                                                exact ⟨by first | rfl | (simp [errW_none, errW_some] <;> rfl) | (simp [*, errW_none, errW_some] <;> rfl), by repeat (first | (with_reducible first | exact HB.out | apply below_alloc | apply pw_below_drewN | apply below_drew1) | exact HB.out)⟩
                                              · rw [if_neg c71] at H
                                                have c71b0 : (t159 == 10) = false := beq_eq_false_iff_ne.mpr c71
                                                have c71b1 : (t159 != 10) = true := bne_iff_ne.mpr c71
                                                obtain rfl := Option.some.inj H
                                                go_wp2_with (first | (go_at_call 25; (with_reducible refine (xml_Parse.calls (((((t152.extract 0 (x10_32 : Int).toNat) ++ (⟨#[60, 33, 45, 45]⟩ : ByteArray)) ++ a2) ++ (⟨#[45, 45, 62]⟩ : ByteArray)) ++ (t152.extract (x10_32 : Int).toNat t152.size)) t154 t155 _ ?side1 A47.out).mono ?_); (case side1 => exact LaidM.below HT.out (by repeat (first | (with_reducible first | exact HB.out | apply below_alloc | apply pw_below_drewN | apply below_drew1) | exact HB.out))); rintro e w74 ⟨v156, rfl, ho0, hb⟩; have n0_ := Aside0.mk (Kd.R_lower ho0 (below_size (by repeat (first | (with_reducible first | exact HB.out | apply below_alloc | apply pw_below_drewN | apply below_drew1) | exact HB.out)))); have n1_ := Aside0.mk (below_step (by repeat (first | (with_reducible first | exact HB.out | apply below_alloc | apply pw_below_drewN | apply below_drew1) | exact HB.out)) hb); clear HB; have HO157 := n0_; have HB := n1_; clear n0_ n1_; (try clear hb); (try clear hb2); (try clear hk); (try clear hi); (try clear ho0)) | (go_at_call 25; (with_reducible refine (xml_Parse.calls (((⟨#[60, 97, 62]⟩ : ByteArray) ++ a2) ++ (⟨#[60, 47, 97, 62]⟩ : ByteArray)) t158 t159 _ ?side1 A52.out).mono ?_); (case side1 => exact LaidM.below HT.out (by repeat (first | (with_reducible first | exact HB.out | apply below_alloc | apply pw_below_drewN | apply below_drew1) | exact HB.out))); rintro e w75 ⟨v160, rfl, ho0, hb⟩; have n0_ := Aside0.mk (Kd.R_elder' (by (with_reducible repeat (first | apply Kd.R_alloc | apply Kd.R_drewN | apply Kd.R_drew)); exact HO157.out) (Kd.R_base ho0) hb); have n1_ := Aside0.mk (Kd.R_lower (Kd.R_new' ho0 (Kd.R_lt (by (with_reducible repeat (first | apply Kd.R_alloc | apply Kd.R_drewN | apply Kd.R_drew)); exact HO157.out))) (below_size (by repeat (first | (with_reducible first | exact HB.out | apply below_alloc | apply pw_below_drewN | apply below_drew1) | exact HB.out)))); have n2_ := Aside0.mk (below_step (by repeat (first | (with_reducible first | exact HB.out | apply below_alloc | apply pw_below_drewN | apply below_drew1) | exact HB.out)) hb); clear HO157; clear HB; have HO157 := n0_; have HO161 := n1_; have HB := n2_; clear n0_ n1_ n2_; (try clear hb); (try clear hb2); (try clear hk); (try clear hi); (try clear ho0)))
                                                repeat (go_quiet (first | (go_at_call 25; (with_reducible refine (xml_Parse.calls (((((t152.extract 0 (x10_32 : Int).toNat) ++ (⟨#[60, 33, 45, 45]⟩ : ByteArray)) ++ a2) ++ (⟨#[45, 45, 62]⟩ : ByteArray)) ++ (t152.extract (x10_32 : Int).toNat t152.size)) t154 t155 _ ?side1 A47.out).mono ?_); (case side1 => exact LaidM.below HT.out (by repeat (first | (with_reducible first | exact HB.out | apply below_alloc | apply pw_below_drewN | apply below_drew1) | exact HB.out))); rintro e w74 ⟨v156, rfl, ho0, hb⟩; have n0_ := Aside0.mk (Kd.R_lower ho0 (below_size (by repeat (first | (with_reducible first | exact HB.out | apply below_alloc | apply pw_below_drewN | apply below_drew1) | exact HB.out)))); have n1_ := Aside0.mk (below_step (by repeat (first | (with_reducible first | exact HB.out | apply below_alloc | apply pw_below_drewN | apply below_drew1) | exact HB.out)) hb); clear HB; have HO157 := n0_; have HB := n1_; clear n0_ n1_; (try clear hb); (try clear hb2); (try clear hk); (try clear hi); (try clear ho0)) | (go_at_call 25; (with_reducible refine (xml_Parse.calls (((⟨#[60, 97, 62]⟩ : ByteArray) ++ a2) ++ (⟨#[60, 47, 97, 62]⟩ : ByteArray)) t158 t159 _ ?side1 A52.out).mono ?_); (case side1 => exact LaidM.below HT.out (by repeat (first | (with_reducible first | exact HB.out | apply below_alloc | apply pw_below_drewN | apply below_drew1) | exact HB.out))); rintro e w75 ⟨v160, rfl, ho0, hb⟩; have n0_ := Aside0.mk (Kd.R_elder' (by (with_reducible repeat (first | apply Kd.R_alloc | apply Kd.R_drewN | apply Kd.R_drew)); exact HO157.out) (Kd.R_base ho0) hb); have n1_ := Aside0.mk (Kd.R_lower (Kd.R_new' ho0 (Kd.R_lt (by (with_reducible repeat (first | apply Kd.R_alloc | apply Kd.R_drewN | apply Kd.R_drew)); exact HO157.out))) (below_size (by repeat (first | (with_reducible first | exact HB.out | apply below_alloc | apply pw_below_drewN | apply below_drew1) | exact HB.out)))); have n2_ := Aside0.mk (below_step (by repeat (first | (with_reducible first | exact HB.out | apply below_alloc | apply pw_below_drewN | apply below_drew1) | exact HB.out)) hb); clear HO157; clear HB; have HO157 := n0_; have HO161 := n1_; have HB := n2_; clear n0_ n1_ n2_; (try clear hb); (try clear hb2); (try clear hk); (try clear hi); (try clear ho0))); try go_wp2_with (first | (go_at_call 25; (with_reducible refine (xml_Parse.calls (((((t152.extract 0 (x10_32 : Int).toNat) ++ (⟨#[60, 33, 45, 45]⟩ : ByteArray)) ++ a2) ++ (⟨#[45, 45, 62]⟩ : ByteArray)) ++ (t152.extract (x10_32 : Int).toNat t152.size)) t154 t155 _ ?side1 A47.out).mono ?_); (case side1 => exact LaidM.below HT.out (by repeat (first | (with_reducible first | exact HB.out | apply below_alloc | apply pw_below_drewN | apply below_drew1) | exact HB.out))); rintro e w74 ⟨v156, rfl, ho0, hb⟩; have n0_ := Aside0.mk (Kd.R_lower ho0 (below_size (by repeat (first | (with_reducible first | exact HB.out | apply below_alloc | apply pw_below_drewN | apply below_drew1) | exact HB.out)))); have n1_ := Aside0.mk (below_step (by repeat (first | (with_reducible first | exact HB.out | apply below_alloc | apply pw_below_drewN | apply below_drew1) | exact HB.out)) hb); clear HB; have HO157 := n0_; have HB := n1_; clear n0_ n1_; (try clear hb); (try clear hb2); (try clear hk); (try clear hi); (try clear ho0)) | (go_at_call 25; (with_reducible refine (xml_Parse.calls (((⟨#[60, 97, 62]⟩ : ByteArray) ++ a2) ++ (⟨#[60, 47, 97, 62]⟩ : ByteArray)) t158 t159 _ ?side1 A52.out).mono ?_); (case side1 => exact LaidM.below HT.out (by repeat (first | (with_reducible first | exact HB.out | apply below_alloc | apply pw_below_drewN | apply below_drew1) | exact HB.out))); rintro e w75 ⟨v160, rfl, ho0, hb⟩; have n0_ := Aside0.mk (Kd.R_elder' (by (with_reducible repeat (first | apply Kd.R_alloc | apply Kd.R_drewN | apply Kd.R_drew)); exact HO157.out) (Kd.R_base ho0) hb); have n1_ := Aside0.mk (Kd.R_lower (Kd.R_new' ho0 (Kd.R_lt (by (with_reducible repeat (first | apply Kd.R_alloc | apply Kd.R_drewN | apply Kd.R_drew)); exact HO157.out))) (below_size (by repeat (first | (with_reducible first | exact HB.out | apply below_alloc | apply pw_below_drewN | apply below_drew1) | exact HB.out)))); have n2_ := Aside0.mk (below_step (by repeat (first | (with_reducible first | exact HB.out | apply below_alloc | apply pw_below_drewN | apply below_drew1) | exact HB.out)) hb); clear HO157; clear HB; have HO157 := n0_; have HO161 := n1_; have HB := n2_; clear n0_ n1_ n2_; (try clear hb); (try clear hb2); (try clear hk); (try clear hi); (try clear ho0))))
                                                go_ret
                                                exact ⟨by first | rfl | (simp [errW_none, errW_some] <;> rfl) | (simp [*, errW_none, errW_some] <;> rfl), by repeat (first | (with_reducible first | exact HB.out | apply below_alloc | apply pw_below_drewN | apply below_drew1) | exact HB.out)⟩
                                            · rw [if_neg c70] at H
                                              have c70b0 : (t155 == 10) = false := beq_eq_false_iff_ne.mpr c70
                                              have c70b1 : (t155 != 10) = true := bne_iff_ne.mpr c70
                                              obtain rfl := Option.some.inj H
                                              go_wp2_with (first | (go_at_call 25; (with_reducible refine (xml_Parse.calls (((((t152.extract 0 (x10_32 : Int).toNat) ++ (⟨#[60, 33, 45, 45]⟩ : ByteArray)) ++ a2) ++ (⟨#[45, 45, 62]⟩ : ByteArray)) ++ (t152.extract (x10_32 : Int).toNat t152.size)) t154 t155 _ ?side1 A47.out).mono ?_); (case side1 => exact LaidM.below HT.out (by repeat (first | (with_reducible first | exact HB.out | apply below_alloc | apply pw_below_drewN | apply below_drew1) | exact HB.out))); rintro e w76 ⟨v156, rfl, ho0, hb⟩; have n0_ := Aside0.mk (Kd.R_lower ho0 (below_size (by repeat (first | (with_reducible first | exact HB.out | apply below_alloc | apply pw_below_drewN | apply below_drew1) | exact HB.out)))); have n1_ := Aside0.mk (below_step (by repeat (first | (with_reducible first | exact HB.out | apply below_alloc | apply pw_below_drewN | apply below_drew1) | exact HB.out)) hb); clear HB; have HO157 := n0_; have HB := n1_; clear n0_ n1_; (try clear hb); (try clear hb2); (try clear hk); (try clear hi); (try clear ho0)) | (go_at_call 25; (with_reducible refine (xml_Parse.calls (((⟨#[60, 97, 62]⟩ : ByteArray) ++ a2) ++ (⟨#[60, 47, 97, 62]⟩ : ByteArray)) t158 t159 _ ?side1 A52.out).mono ?_); (case side1 => exact LaidM.below HT.out (by repeat (first | (with_reducible first | exact HB.out | apply below_alloc | apply pw_below_drewN | apply below_drew1) | exact HB.out))); rintro e w77 ⟨v160, rfl, ho0, hb⟩; have n0_ := Aside0.mk (Kd.R_elder' (by (with_reducible repeat (first | apply Kd.R_alloc | apply Kd.R_drewN | apply Kd.R_drew)); exact HO157.out) (Kd.R_base ho0) hb); have n1_ := Aside0.mk (Kd.R_lower (Kd.R_new' ho0 (Kd.R_lt (by (with_reducible repeat (first | apply Kd.R_alloc | apply Kd.R_drewN | apply Kd.R_drew)); exact HO157.out))) (below_size (by repeat (first | (with_reducible first | exact HB.out | apply below_alloc | apply pw_below_drewN | apply below_drew1) | exact HB.out)))); have n2_ := Aside0.mk (below_step (by repeat (first | (with_reducible first | exact HB.out | apply below_alloc | apply pw_below_drewN | apply below_drew1) | exact HB.out)) hb); clear HO157; clear HB; have HO157 := n0_; have HO161 := n1_; have HB := n2_; clear n0_ n1_ n2_; (try clear hb); (try clear hb2); (try clear hk); (try clear hi); (try clear ho0)))
                                              repeat (go_quiet (first | (go_at_call 25; (with_reducible refine (xml_Parse.calls (((((t152.extract 0 (x10_32 : Int).toNat) ++ (⟨#[60, 33, 45, 45]⟩ : ByteArray)) ++ a2) ++ (⟨#[45, 45, 62]⟩ : ByteArray)) ++ (t152.extract (x10_32 : Int).toNat t152.size)) t154 t155 _ ?side1 A47.out).mono ?_); (case side1 => exact LaidM.below HT.out (by repeat (first | (with_reducible first | exact HB.out | apply below_alloc | apply pw_below_drewN | apply below_drew1) | exact HB.out))); rintro e w76 ⟨v156, rfl, ho0, hb⟩; have n0_ := Aside0.mk (Kd.R_lower ho0 (below_size (by repeat (first | (with_reducible first | exact HB.out | apply below_alloc | apply pw_below_drewN | apply below_drew1) | exact HB.out)))); have n1_ := Aside0.mk (below_step (by repeat (first | (with_reducible first | exact HB.out | apply below_alloc | apply pw_below_drewN | apply below_drew1) | exact HB.out)) hb); clear HB; have HO157 := n0_; have HB := n1_; clear n0_ n1_; (try clear hb); (try clear hb2); (try clear hk); (try clear hi); (try clear ho0)) | (go_at_call 25; (with_reducible refine (xml_Parse.calls (((⟨#[60, 97, 62]⟩ : ByteArray) ++ a2) ++ (⟨#[60, 47, 97, 62]⟩ : ByteArray)) t158 t159 _ ?side1 A52.out).mono ?_); (case side1 => exact LaidM.below HT.out (by repeat (first | (with_reducible first | exact HB.out | apply below_alloc | apply pw_below_drewN | apply below_drew1) | exact HB.out))); rintro e w77 ⟨v160, rfl, ho0, hb⟩; have n0_ := Aside0.mk (Kd.R_elder' (by (with_reducible repeat (first | apply Kd.R_alloc | apply Kd.R_drewN | apply Kd.R_drew)); exact HO157.out) (Kd.R_base ho0) hb); have n1_ := Aside0.mk (Kd.R_lower (Kd.R_new' ho0 (Kd.R_lt (by (with_reducible repeat (first | apply Kd.R_alloc | apply Kd.R_drewN | apply Kd.R_drew)); exact HO157.out))) (below_size (by repeat (first | (with_reducible first | exact HB.out | apply below_alloc | apply pw_below_drewN | apply below_drew1) | exact HB.out)))); have n2_ := Aside0.mk (below_step (by repeat (first | (with_reducible first | exact HB.out | apply below_alloc | apply pw_below_drewN | apply below_drew1) | exact HB.out)) hb); clear HO157; clear HB; have HO157 := n0_; have HO161 := n1_; have HB := n2_; clear n0_ n1_ n2_; (try clear hb); (try clear hb2); (try clear hk); (try clear hi); (try clear ho0))); try go_wp2_with (first | (go_at_call 25; (with_reducible refine (xml_Parse.calls (((((t152.extract 0 (x10_32 : Int).toNat) ++ (⟨#[60, 33, 45, 45]⟩ : ByteArray)) ++ a2) ++ (⟨#[45, 45, 62]⟩ : ByteArray)) ++ (t152.extract (x10_32 : Int).toNat t152.size)) t154 t155 _ ?side1 A47.out).mono ?_); (case side1 => exact LaidM.below HT.out (by repeat (first | (with_reducible first | exact HB.out | apply below_alloc | apply pw_below_drewN | apply below_drew1) | exact HB.out))); rintro e w76 ⟨v156, rfl, ho0, hb⟩; have n0_ := Aside0.mk (Kd.R_lower ho0 (below_size (by repeat (first | (with_reducible first | exact HB.out | apply below_alloc | apply pw_below_drewN | apply below_drew1) | exact HB.out)))); have n1_ := Aside0.mk (below_step (by repeat (first | (with_reducible first | exact HB.out | apply below_alloc | apply pw_below_drewN | apply below_drew1) | exact HB.out)) hb); clear HB; have HO157 := n0_; have HB := n1_; clear n0_ n1_; (try clear hb); (try clear hb2); (try clear hk); (try clear hi); (try clear ho0)) | (go_at_call 25; (with_reducible refine (xml_Parse.calls (((⟨#[60, 97, 62]⟩ : ByteArray) ++ a2) ++ (⟨#[60, 47, 97, 62]⟩ : ByteArray)) t158 t159 _ ?side1 A52.out).mono ?_); (case side1 => exact LaidM.below HT.out (by repeat (first | (with_reducible first | exact HB.out | apply below_alloc | apply pw_below_drewN | apply below_drew1) | exact HB.out))); rintro e w77 ⟨v160, rfl, ho0, hb⟩; have n0_ := Aside0.mk (Kd.R_elder' (by (with_reducible repeat (first | apply Kd.R_alloc | apply Kd.R_drewN | apply Kd.R_drew)); exact HO157.out) (Kd.R_base ho0) hb); have n1_ := Aside0.mk (Kd.R_lower (Kd.R_new' ho0 (Kd.R_lt (by (with_reducible repeat (first | apply Kd.R_alloc | apply Kd.R_drewN | apply Kd.R_drew)); exact HO157.out))) (below_size (by repeat (first | (with_reducible first | exact HB.out | apply below_alloc | apply pw_below_drewN | apply below_drew1) | exact HB.out)))); have n2_ := Aside0.mk (below_step (by repeat (first | (with_reducible first | exact HB.out | apply below_alloc | apply pw_below_drewN | apply below_drew1) | exact HB.out)) hb); clear HO157; clear HB; have HO157 := n0_; have HO161 := n1_; have HB := n2_; clear n0_ n1_ n2_; (try clear hb); (try clear hb2); (try clear hk); (try clear hi); (try clear ho0))))
                                              go_ret
                                              exact ⟨by first | rfl | (simp [errW_none, errW_some] <;> rfl) | (simp [*, errW_none, errW_some] <;> rfl), by repeat (first | (with_reducible first | exact HB.out | apply below_alloc | apply pw_below_drewN | apply below_drew1) | exact HB.out)⟩
                                        · rw [if_neg c51] at H
                                          have c51e := c51
                                          (try simp only [ByteArray.size_append, gt_iff_lt, ge_iff_le, show (⟨#[60, 97, 62]⟩ : ByteArray).size = 3 from rfl] at c51e)
                                          (try simp only [Int.natCast_add, Int.cast_ofNat_Int] at c51e)
                                          (try (have c51e2 := decide_eq_false c51e))
                                          (try replace c51e := eq_false c51e)
                                          exact absurd H (by simp)
                                      · rw [if_neg c50] at H
                                        exact absurd H (by simp)
                                  · rw [if_neg c46] at H
                                    have c46e := c46
                                    (try simp only [ByteArray.size_append, gt_iff_lt, ge_iff_le, show (⟨#[45, 45, 62]⟩ : ByteArray).size = 3 from rfl, show (⟨#[60, 33, 45, 45]⟩ : ByteArray).size = 4 from rfl] at c46e)
                                    (try simp only [Int.natCast_add, Int.cast_ofNat_Int] at c46e)
                                    (try (have c46e2 := decide_eq_false c46e))
                                    (try replace c46e := eq_false c46e)
                                    exact absurd H (by simp)
                                · rw [if_neg c43] at H
                                  have c43e := c43
                                  (try simp only [ByteArray.size_append, gt_iff_lt, ge_iff_le, show (⟨#[60, 33, 45, 45]⟩ : ByteArray).size = 4 from rfl] at c43e)
                                  (try simp only [Int.natCast_add, Int.cast_ofNat_Int] at c43e)
                                  (try (have c43e2 := decide_eq_false c43e))
                                  (try replace c43e := eq_false c43e)
                                  exact absurd H (by simp)
                              · rw [if_neg c42] at H
                                have c42e := c42
                                (try simp only [ByteArray.size_append, gt_iff_lt, ge_iff_le, show (⟨#[60, 33, 45, 45]⟩ : ByteArray).size = 4 from rfl] at c42e)
                                (try simp only [Int.natCast_add, Int.cast_ofNat_Int] at c42e)
                                (try (have c42e2 := decide_eq_false c42e))
                                (try replace c42e := eq_false c42e)
                                exact absurd H (by simp)
                            · rw [if_neg c41] at H
                              exact absurd H (by simp)
                          · rw [if_neg c40] at H
                            exact absurd H (by simp)
                        · rw [if_neg c39] at H
                          exact absurd H (by simp)
                · rw [if_neg c31] at H
                  have c31b0 : (t153 == 0) = false := beq_eq_false_iff_ne.mpr c31
                  have c31b1 : (t153 != 0) = true := bne_iff_ne.mpr c31
                  obtain rfl := Option.some.inj H
                  go_wp2_with (first | (go_at_call 21; (with_reducible refine (xml_Print.calls kj15 _ _ l0 t152 t153 _ ?side1 ?side2 ?side3 A30.out).mono ?_); (case side1 => repeat (first | exact (Kd.C_below HR0.out HB.out) | (with_reducible refine Kd.C_alloc ?_ _) | (with_reducible refine Kd.C_drewN ?_ _) | (with_reducible refine Kd.C_drew ?_))); (case side2 => exact HC0.out); (case side3 => exact LaidM.below HT.out (by repeat (first | (with_reducible first | exact HB.out | apply below_alloc | apply pw_below_drewN | apply below_drew1) | exact HB.out))); rintro e w78 ⟨rfl, hb⟩; have n0_ := Aside0.mk (below_step (by repeat (first | (with_reducible first | exact HB.out | apply below_alloc | apply pw_below_drewN | apply below_drew1) | exact HB.out)) hb); clear HB; have HB := n0_; clear n0_; (try clear hb); (try clear hb2); (try clear hk); (try clear hi)))
                  repeat (go_quiet (first | (go_at_call 21; (with_reducible refine (xml_Print.calls kj15 _ _ l0 t152 t153 _ ?side1 ?side2 ?side3 A30.out).mono ?_); (case side1 => repeat (first | exact (Kd.C_below HR0.out HB.out) | (with_reducible refine Kd.C_alloc ?_ _) | (with_reducible refine Kd.C_drewN ?_ _) | (with_reducible refine Kd.C_drew ?_))); (case side2 => exact HC0.out); (case side3 => exact LaidM.below HT.out (by repeat (first | (with_reducible first | exact HB.out | apply below_alloc | apply pw_below_drewN | apply below_drew1) | exact HB.out))); rintro e w78 ⟨rfl, hb⟩; have n0_ := Aside0.mk (below_step (by repeat (first | (with_reducible first | exact HB.out | apply below_alloc | apply pw_below_drewN | apply below_drew1) | exact HB.out)) hb); clear HB; have HB := n0_; clear n0_; (try clear hb); (try clear hb2); (try clear hk); (try clear hi))); try go_wp2_with (first | (go_at_call 21; (with_reducible refine (xml_Print.calls kj15 _ _ l0 t152 t153 _ ?side1 ?side2 ?side3 A30.out).mono ?_); (case side1 => repeat (first | exact (Kd.C_below HR0.out HB.out) | (with_reducible refine Kd.C_alloc ?_ _) | (with_reducible refine Kd.C_drewN ?_ _) | (with_reducible refine Kd.C_drew ?_))); (case side2 => exact HC0.out); (case side3 => exact LaidM.below HT.out (by repeat (first | (with_reducible first | exact HB.out | apply below_alloc | apply pw_below_drewN | apply below_drew1) | exact HB.out))); rintro e w78 ⟨rfl, hb⟩; have n0_ := Aside0.mk (below_step (by repeat (first | (with_reducible first | exact HB.out | apply below_alloc | apply pw_below_drewN | apply below_drew1) | exact HB.out)) hb); clear HB; have HB := n0_; clear n0_; (try clear hb); (try clear hb2); (try clear hk); (try clear hi))))
                  go_ret
                  exact ⟨by first | rfl | (simp [errW_none, errW_some] <;> rfl) | (simp [*, errW_none, errW_some] <;> rfl), by repeat (first | (with_reducible first | exact HB.out | apply below_alloc | apply pw_below_drewN | apply below_drew1) | exact HB.out)⟩
  · replace c5 := Bool.eq_false_iff.mpr c5
    subst c5
    have H1 : (some false) = some r := by rw [if_neg (show ¬ (false = true) by decide)] at H; exact H
    clear H
    have H := H1
    clear H1
    obtain rfl := Option.some.inj H
    go_enter Tryz.func8, Tryz.ntmps8
    go_wp2_with (first | (go_at_call 19; (with_reducible refine (calepinlaw07_first.calls k  false _ ?side1 A4.out).mono ?_); (case side1 => exact LaidM.below HT.out (by repeat (first | (with_reducible first | exact HB.out | apply below_alloc | apply pw_below_drewN | apply below_drew1) | exact HB.out))); rintro e w79 ⟨rfl, hb⟩; have n0_ := Aside0.mk (below_step (by repeat (first | (with_reducible first | exact HB.out | apply below_alloc | apply pw_below_drewN | apply below_drew1) | exact HB.out)) hb); clear HB; have HB := n0_; clear n0_; (try clear hb); (try clear hb2); (try clear hk); (try clear hi)))
    repeat (go_quiet (first | (go_at_call 19; (with_reducible refine (calepinlaw07_first.calls k  false _ ?side1 A4.out).mono ?_); (case side1 => exact LaidM.below HT.out (by repeat (first | (with_reducible first | exact HB.out | apply below_alloc | apply pw_below_drewN | apply below_drew1) | exact HB.out))); rintro e w79 ⟨rfl, hb⟩; have n0_ := Aside0.mk (below_step (by repeat (first | (with_reducible first | exact HB.out | apply below_alloc | apply pw_below_drewN | apply below_drew1) | exact HB.out)) hb); clear HB; have HB := n0_; clear n0_; (try clear hb); (try clear hb2); (try clear hk); (try clear hi))); try go_wp2_with (first | (go_at_call 19; (with_reducible refine (calepinlaw07_first.calls k  false _ ?side1 A4.out).mono ?_); (case side1 => exact LaidM.below HT.out (by repeat (first | (with_reducible first | exact HB.out | apply below_alloc | apply pw_below_drewN | apply below_drew1) | exact HB.out))); rintro e w79 ⟨rfl, hb⟩; have n0_ := Aside0.mk (below_step (by repeat (first | (with_reducible first | exact HB.out | apply below_alloc | apply pw_below_drewN | apply below_drew1) | exact HB.out)) hb); clear HB; have HB := n0_; clear n0_; (try clear hb); (try clear hb2); (try clear hk); (try clear hi))))
    go_ret
    exact ⟨by first | rfl | (simp [errW_none, errW_some] <;> rfl) | (simp [*, errW_none, errW_some] <;> rfl), by repeat (first | (with_reducible first | exact HB.out | apply below_alloc | apply pw_below_drewN | apply below_drew1) | exact HB.out)⟩

end Go.Proofs.YtpaopeiegaijiaaGreatDoor.XXmlRemarks
