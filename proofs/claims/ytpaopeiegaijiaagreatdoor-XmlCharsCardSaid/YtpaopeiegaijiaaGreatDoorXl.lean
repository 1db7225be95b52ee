import Derived.Test.YtpaopeiegaijiaaGreatDoorTx
/- xml.letter and xml.lead: printed, and in plain words. -/
namespace Go.Proofs.YtpaopeiegaijiaaGreatDoor.XLead
open Go.RowKit Go.Proofs.YtpaopeiegaijiaaGreatDoorW.PrintWords Go.Proofs.YtpaopeiegaijiaaGreatDoorW.PrintLast Go.Proofs.YtpaopeiegaijiaaGreatDoorW.PrintMore
attribute [local go_sem] max2_int min2_int max_two min_two max_three min_three max_four min_four
set_option linter.unusedVariables false
set_option linter.unusedSimpArgs false
/-! ### xml_letter: function 121 -/
def xml_letter.f (a0 : Int) : Option (Bool) := if a0 ≥ 97 then (if a0 ≤ 122 then (some true) else (if a0 ≥ 65 then (if a0 ≤ 90 then (some true) else (some (a0 == 95))) else (some (a0 == 95)))) else (if a0 ≥ 65 then (if a0 ≤ 90 then (some true) else (some (a0 == 95))) else (some (a0 == 95)))
set_option maxHeartbeats 8000000 in
set_option maxRecDepth 100000 in
theorem xml_letter.calls (a0 : Int) (r : Bool) (w : World) (h : xml_letter.f a0 = some r) :
    Calls Tryz.prog 121 #[.int .u8 a0] w fun e w' => e = .returned (.bool r) ∧ Drawn0 w w' := by
  have H : (if a0 ≥ 97 then (if a0 ≤ 122 then (some true) else (if a0 ≥ 65 then (if a0 ≤ 90 then (some true) else (some (a0 == 95))) else (some (a0 == 95)))) else (if a0 ≥ 65 then (if a0 ≤ 90 then (some true) else (some (a0 == 95))) else (some (a0 == 95)))) = some r := h
  clear h
  by_cases c2 : a0 ≥ 97
  · rw [if_pos c2] at H
    have c2b0 : decide (97 ≤ a0) = true := decide_eq_true c2
    clear c2
    by_cases c3 : a0 ≤ 122
    · rw [if_pos c3] at H
      have c3b0 : decide (a0 ≤ 122) = true := decide_eq_true c3
      clear c3
      obtain rfl := Option.some.inj H
      go_enter Tryz.func121, Tryz.ntmps121
      go_wp2
      go_ret
      exact ⟨by first | rfl | (simp; done) | (simp [*]; done), by repeat (first | exact Drawn0.refl _ | apply Drawn0.step)⟩
    · rw [if_neg c3] at H
      have c3b0 : decide (a0 ≤ 122) = false := decide_eq_false c3
      clear c3
      by_cases c4 : a0 ≥ 65
      · rw [if_pos c4] at H
        have c4b0 : decide (65 ≤ a0) = true := decide_eq_true c4
        clear c4
        by_cases c5 : a0 ≤ 90
        · rw [if_pos c5] at H
          have c5b0 : decide (a0 ≤ 90) = true := decide_eq_true c5
          clear c5
          obtain rfl := Option.some.inj H
          go_enter Tryz.func121, Tryz.ntmps121
          go_wp2
          go_ret
          exact ⟨by first | rfl | (simp; done) | (simp [*]; done), by repeat (first | exact Drawn0.refl _ | apply Drawn0.step)⟩
        · rw [if_neg c5] at H
          have c5b0 : decide (a0 ≤ 90) = false := decide_eq_false c5
          clear c5
          obtain rfl := Option.some.inj H
          go_enter Tryz.func121, Tryz.ntmps121
          go_wp2
          go_ret
          exact ⟨by first | rfl | (simp; done) | (simp [*]; done), by repeat (first | exact Drawn0.refl _ | apply Drawn0.step)⟩
      · rw [if_neg c4] at H
        have c4b0 : decide (65 ≤ a0) = false := decide_eq_false c4
        clear c4
        obtain rfl := Option.some.inj H
        go_enter Tryz.func121, Tryz.ntmps121
        go_wp2
        go_ret
        exact ⟨by first | rfl | (simp; done) | (simp [*]; done), by repeat (first | exact Drawn0.refl _ | apply Drawn0.step)⟩
  · rw [if_neg c2] at H
    have c2b0 : decide (97 ≤ a0) = false := decide_eq_false c2
    clear c2
    by_cases c6 : a0 ≥ 65
    · rw [if_pos c6] at H
      have c6b0 : decide (65 ≤ a0) = true := decide_eq_true c6
      clear c6
      by_cases c7 : a0 ≤ 90
      · rw [if_pos c7] at H
        have c7b0 : decide (a0 ≤ 90) = true := decide_eq_true c7
        clear c7
        obtain rfl := Option.some.inj H
        go_enter Tryz.func121, Tryz.ntmps121
        go_wp2
        go_ret
        exact ⟨by first | rfl | (simp; done) | (simp [*]; done), by repeat (first | exact Drawn0.refl _ | apply Drawn0.step)⟩
      · rw [if_neg c7] at H
        have c7b0 : decide (a0 ≤ 90) = false := decide_eq_false c7
        clear c7
        obtain rfl := Option.some.inj H
        go_enter Tryz.func121, Tryz.ntmps121
        go_wp2
        go_ret
        exact ⟨by first | rfl | (simp; done) | (simp [*]; done), by repeat (first | exact Drawn0.refl _ | apply Drawn0.step)⟩
    · rw [if_neg c6] at H
      have c6b0 : decide (65 ≤ a0) = false := decide_eq_false c6
      clear c6
      obtain rfl := Option.some.inj H
      go_enter Tryz.func121, Tryz.ntmps121
      go_wp2
      go_ret
      exact ⟨by first | rfl | (simp; done) | (simp [*]; done), by repeat (first | exact Drawn0.refl _ | apply Drawn0.step)⟩

/-! ### xml_lead: function 91 -/
def xml_lead.l0 : Nat → ByteArray → Int → Option (Int)
  | 0, _, _ => none
  | k + 1, x0, x3 => if x3 < (x0.size : Int) then (if 0 ≤ x3 then ((xml_letter.f (bt x0 x3)).bind fun t101 => (if t101 = true then (xml_lead.l0 k x0 (wrap64 (x3 + 1))) else (if x3 > 0 then (if (bt x0 x3) ≥ 48 then (if (bt x0 x3) ≤ 57 then (xml_lead.l0 k x0 (wrap64 (x3 + 1))) else (if (bt x0 x3) = 45 then (xml_lead.l0 k x0 (wrap64 (x3 + 1))) else (if (bt x0 x3) = 46 then (xml_lead.l0 k x0 (wrap64 (x3 + 1))) else (if x3 > 64 then (some 0) else (some x3))))) else (if (bt x0 x3) = 45 then (xml_lead.l0 k x0 (wrap64 (x3 + 1))) else (if (bt x0 x3) = 46 then (xml_lead.l0 k x0 (wrap64 (x3 + 1))) else (if x3 > 64 then (some 0) else (some x3))))) else (if x3 > 64 then (some 0) else (some x3))))) else (none)) else (if x3 > 64 then (some 0) else (some x3))
def xml_lead.f (k : Nat) (a0 : ByteArray) : Option (Int) := xml_lead.l0 k a0 0
theorem xml_lead.mono_l : ∀ k, (∀ y0 y1, LeO (xml_lead.l0 k y0 y1) (xml_lead.l0 (k + 1) y0 y1))
  | 0 => fun _ _ r h => by simp [xml_lead.l0] at h
  | k + 1 => by
    have ih0 := xml_lead.mono_l k
    · intro y0 y1
      unfold xml_lead.l0
      repeat' first
      | (with_reducible exact ih0 _ _)
      | (with_reducible exact LeO.refl _)
      | (with_reducible exact LeO.none _)
      | (with_reducible refine LeO.ite ?_ ?_)
      | (with_reducible refine LeO.bind ?_ (fun _ => ?_))
      | exact ih0 _ _
      | exact LeO.none _
      | refine LeO.ite ?_ ?_
      | refine LeO.bind ?_ (fun _ => ?_)
theorem xml_lead.mono : ∀ a0 k, LeO (xml_lead.f k a0) (xml_lead.f (k + 1) a0) := by
  intro a0 k
  have ih0 := xml_lead.mono_l k
  unfold xml_lead.f
  repeat' first
      | (with_reducible exact ih0 _ _)
      | (with_reducible exact LeO.refl _)
      | (with_reducible exact LeO.none _)
      | (with_reducible refine LeO.ite ?_ ?_)
      | (with_reducible refine LeO.bind ?_ (fun _ => ?_))
      | exact ih0 _ _
      | exact LeO.none _
      | refine LeO.ite ?_ ?_
      | refine LeO.bind ?_ (fun _ => ?_)
set_option maxHeartbeats 8000000 in
set_option maxRecDepth 100000 in
theorem xml_lead.calls (k : Nat) (a0 : ByteArray) (r : Int) (w : World) (h : xml_lead.f k a0 = some r) :
    Calls Tryz.prog 91 #[.string a0] w fun e w' => e = .returned (.int .i64 r) ∧ Drawn0 w w' := by
  have H : (xml_lead.l0 k a0 0) = some r := h
  clear h
  have H' := Aside0.mk H
  clear H
  go_enter Tryz.func91, Tryz.ntmps91
  go_wp2
  go_loopg [3] k (fun kq v3 w' => ∃ (x3_1 : Int), v3 = .int .i64 x3_1 ∧ Aside0 (xml_lead.l0 kq a0 x3_1 = some r) ∧ Aside0 (kq ≤ k) ∧ Drawn0 w w')
  case atStart => exact ⟨(0), (by first | rfl | (simp; done) | (simp [*]; done)), H', ⟨Nat.le_refl _⟩, by repeat (first | exact Drawn0.refl _ | apply Drawn0.step)⟩
  case round =>
    clear H'
    obtain ⟨x3_1, rfl, HA, HK1, ⟨m1, rfl⟩⟩ := hrel
    cases gk with
    | zero => exact absurd HA.out (by simp [xml_lead.l0])
    | succ k1 =>
      have H := HA.out
      clear HA
      simp only [xml_lead.l0] at H
      by_cases c2 : x3_1 < (a0.size : Int)
      · rw [if_pos c2] at H
        have c2b0 : decide (x3_1 < (a0.size : Int)) = true := decide_eq_true c2
        clear c2
        by_cases c3 : 0 ≤ x3_1
        · rw [if_pos c3] at H
          have c3b0 : decide (0 ≤ x3_1) = true := decide_eq_true c3
          clear c3
          replace H := Option.bind_eq_some_iff.mp H
          obtain ⟨t101, A50, H⟩ := H
          replace H : (if t101 = true then (xml_lead.l0 k1 a0 (wrap64 (x3_1 + 1))) else (if x3_1 > 0 then (if (bt a0 x3_1) ≥ 48 then (if (bt a0 x3_1) ≤ 57 then (xml_lead.l0 k1 a0 (wrap64 (x3_1 + 1))) else (if (bt a0 x3_1) = 45 then (xml_lead.l0 k1 a0 (wrap64 (x3_1 + 1))) else (if (bt a0 x3_1) = 46 then (xml_lead.l0 k1 a0 (wrap64 (x3_1 + 1))) else (if x3_1 > 64 then (some 0) else (some x3_1))))) else (if (bt a0 x3_1) = 45 then (xml_lead.l0 k1 a0 (wrap64 (x3_1 + 1))) else (if (bt a0 x3_1) = 46 then (xml_lead.l0 k1 a0 (wrap64 (x3_1 + 1))) else (if x3_1 > 64 then (some 0) else (some x3_1))))) else (if x3_1 > 64 then (some 0) else (some x3_1)))) = some r := H
          have A5 := Aside0.mk A50
          clear A50
          by_cases c6 : t101 = true
          · subst c6
            have H1 : (xml_lead.l0 k1 a0 (wrap64 (x3_1 + 1))) = some r := by rw [if_pos rfl] at H; exact H
            clear H
            have H := H1
            clear H1
            have H' := Aside0.mk H
            clear H
            have p4 : 0 ≤ (x3_1 : Int) := of_decide_eq_true (by first | (with_reducible assumption) | assumption)
            have q4 : x3_1 < (a0.size : Int) := of_decide_eq_true (by first | (with_reducible assumption) | assumption)
            have hx4 := bt_at a0 x3_1
            replace p4 := eq_true p4
            replace q4 := eq_true q4
            go_wp2_with (first | (go_at_call 121; (with_reducible refine (xml_letter.calls (bt a0 x3_1) true _ A5.out).mono ?_); rintro e w' ⟨rfl, ⟨nd, rfl⟩⟩))
            go_roundg k1
            case measure => have := HK1.out; omega
            case rel => exact ⟨(wrap64 (x3_1 + 1)), (by first | rfl | (simp; done) | (simp [*]; done)), H', ⟨by have := HK1.out; omega⟩, by repeat (first | exact Drawn0.refl _ | apply Drawn0.step)⟩
          · replace c6 := Bool.eq_false_iff.mpr c6
            subst c6
            have H1 : (if x3_1 > 0 then (if (bt a0 x3_1) ≥ 48 then (if (bt a0 x3_1) ≤ 57 then (xml_lead.l0 k1 a0 (wrap64 (x3_1 + 1))) else (if (bt a0 x3_1) = 45 then (xml_lead.l0 k1 a0 (wrap64 (x3_1 + 1))) else (if (bt a0 x3_1) = 46 then (xml_lead.l0 k1 a0 (wrap64 (x3_1 + 1))) else (if x3_1 > 64 then (some 0) else (some x3_1))))) else (if (bt a0 x3_1) = 45 then (xml_lead.l0 k1 a0 (wrap64 (x3_1 + 1))) else (if (bt a0 x3_1) = 46 then (xml_lead.l0 k1 a0 (wrap64 (x3_1 + 1))) else (if x3_1 > 64 then (some 0) else (some x3_1))))) else (if x3_1 > 64 then (some 0) else (some x3_1))) = some r := by rw [if_neg (show ¬ (false = true) by decide)] at H; exact H
            clear H
            have H := H1
            clear H1
            by_cases c7 : x3_1 > 0
            · rw [if_pos c7] at H
              have c7b0 : decide (0 < x3_1) = true := decide_eq_true c7
              clear c7
              by_cases c9 : (bt a0 x3_1) ≥ 48
              · rw [if_pos c9] at H
                have c9b0 : decide (48 ≤ (bt a0 x3_1)) = true := decide_eq_true c9
                clear c9
                by_cases c11 : (bt a0 x3_1) ≤ 57
                · rw [if_pos c11] at H
                  have c11b0 : decide ((bt a0 x3_1) ≤ 57) = true := decide_eq_true c11
                  clear c11
                  have H' := Aside0.mk H
                  clear H
                  have p4 : 0 ≤ (x3_1 : Int) := of_decide_eq_true (by first | (with_reducible assumption) | assumption)
                  have q4 : x3_1 < (a0.size : Int) := of_decide_eq_true (by first | (with_reducible assumption) | assumption)
                  have hx4 := bt_at a0 x3_1
                  replace p4 := eq_true p4
                  replace q4 := eq_true q4
                  go_wp2_with (first | (go_at_call 121; (with_reducible refine (xml_letter.calls (bt a0 x3_1) false _ A5.out).mono ?_); rintro e w' ⟨rfl, ⟨nd, rfl⟩⟩; have p8 : 0 ≤ (x3_1 : Int) := of_decide_eq_true (by first | (with_reducible assumption) | assumption); have q8 : x3_1 < (a0.size : Int) := of_decide_eq_true (by first | (with_reducible assumption) | assumption); have hx8 := bt_at a0 x3_1; replace p8 := eq_true p8; replace q8 := eq_true q8; have p10 : 0 ≤ (x3_1 : Int) := of_decide_eq_true (by first | (with_reducible assumption) | assumption); have q10 : x3_1 < (a0.size : Int) := of_decide_eq_true (by first | (with_reducible assumption) | assumption); have hx10 := bt_at a0 x3_1; replace p10 := eq_true p10; replace q10 := eq_true q10))
                  go_roundg k1
                  case measure => have := HK1.out; omega
                  case rel => exact ⟨(wrap64 (x3_1 + 1)), (by first | rfl | (simp; done) | (simp [*]; done)), H', ⟨by have := HK1.out; omega⟩, by repeat (first | exact Drawn0.refl _ | apply Drawn0.step)⟩
                · rw [if_neg c11] at H
                  have c11b0 : decide ((bt a0 x3_1) ≤ 57) = false := decide_eq_false c11
                  clear c11
                  by_cases c13 : (bt a0 x3_1) = 45
                  · rw [if_pos c13] at H
                    have c13b0 : ((bt a0 x3_1) == 45) = true := beq_iff_eq.mpr c13
                    have c13b1 : ((bt a0 x3_1) != 45) = false := bne_eq_false_iff_eq.mpr c13
                    clear c13
                    have H' := Aside0.mk H
                    clear H
                    have p4 : 0 ≤ (x3_1 : Int) := of_decide_eq_true (by first | (with_reducible assumption) | assumption)
                    have q4 : x3_1 < (a0.size : Int) := of_decide_eq_true (by first | (with_reducible assumption) | assumption)
                    have hx4 := bt_at a0 x3_1
                    replace p4 := eq_true p4
                    replace q4 := eq_true q4
                    go_wp2_with (first | (go_at_call 121; (with_reducible refine (xml_letter.calls (bt a0 x3_1) false _ A5.out).mono ?_); rintro e w' ⟨rfl, ⟨nd, rfl⟩⟩; have p8 : 0 ≤ (x3_1 : Int) := of_decide_eq_true (by first | (with_reducible assumption) | assumption); have q8 : x3_1 < (a0.size : Int) := of_decide_eq_true (by first | (with_reducible assumption) | assumption); have hx8 := bt_at a0 x3_1; replace p8 := eq_true p8; replace q8 := eq_true q8; have p10 : 0 ≤ (x3_1 : Int) := of_decide_eq_true (by first | (with_reducible assumption) | assumption); have q10 : x3_1 < (a0.size : Int) := of_decide_eq_true (by first | (with_reducible assumption) | assumption); have hx10 := bt_at a0 x3_1; replace p10 := eq_true p10; replace q10 := eq_true q10; have p12 : 0 ≤ (x3_1 : Int) := of_decide_eq_true (by first | (with_reducible assumption) | assumption); have q12 : x3_1 < (a0.size : Int) := of_decide_eq_true (by first | (with_reducible assumption) | assumption); have hx12 := bt_at a0 x3_1; replace p12 := eq_true p12; replace q12 := eq_true q12))
                    go_roundg k1
                    case measure => have := HK1.out; omega
                    case rel => exact ⟨(wrap64 (x3_1 + 1)), (by first | rfl | (simp; done) | (simp [*]; done)), H', ⟨by have := HK1.out; omega⟩, by repeat (first | exact Drawn0.refl _ | apply Drawn0.step)⟩
                  · rw [if_neg c13] at H
                    have c13b0 : ((bt a0 x3_1) == 45) = false := beq_eq_false_iff_ne.mpr c13
                    have c13b1 : ((bt a0 x3_1) != 45) = true := bne_iff_ne.mpr c13
                    by_cases c15 : (bt a0 x3_1) = 46
                    · rw [if_pos c15] at H
                      have c15b0 : ((bt a0 x3_1) == 46) = true := beq_iff_eq.mpr c15
                      have c15b1 : ((bt a0 x3_1) != 46) = false := bne_eq_false_iff_eq.mpr c15
                      clear c15
                      have H' := Aside0.mk H
                      clear H
                      have p4 : 0 ≤ (x3_1 : Int) := of_decide_eq_true (by first | (with_reducible assumption) | assumption)
                      have q4 : x3_1 < (a0.size : Int) := of_decide_eq_true (by first | (with_reducible assumption) | assumption)
                      have hx4 := bt_at a0 x3_1
                      replace p4 := eq_true p4
                      replace q4 := eq_true q4
                      go_wp2_with (first | (go_at_call 121; (with_reducible refine (xml_letter.calls (bt a0 x3_1) false _ A5.out).mono ?_); rintro e w' ⟨rfl, ⟨nd, rfl⟩⟩; have p8 : 0 ≤ (x3_1 : Int) := of_decide_eq_true (by first | (with_reducible assumption) | assumption); have q8 : x3_1 < (a0.size : Int) := of_decide_eq_true (by first | (with_reducible assumption) | assumption); have hx8 := bt_at a0 x3_1; replace p8 := eq_true p8; replace q8 := eq_true q8; have p10 : 0 ≤ (x3_1 : Int) := of_decide_eq_true (by first | (with_reducible assumption) | assumption); have q10 : x3_1 < (a0.size : Int) := of_decide_eq_true (by first | (with_reducible assumption) | assumption); have hx10 := bt_at a0 x3_1; replace p10 := eq_true p10; replace q10 := eq_true q10; have p12 : 0 ≤ (x3_1 : Int) := of_decide_eq_true (by first | (with_reducible assumption) | assumption); have q12 : x3_1 < (a0.size : Int) := of_decide_eq_true (by first | (with_reducible assumption) | assumption); have hx12 := bt_at a0 x3_1; replace p12 := eq_true p12; replace q12 := eq_true q12; have p14 : 0 ≤ (x3_1 : Int) := of_decide_eq_true (by first | (with_reducible assumption) | assumption); have q14 : x3_1 < (a0.size : Int) := of_decide_eq_true (by first | (with_reducible assumption) | assumption); have hx14 := bt_at a0 x3_1; replace p14 := eq_true p14; replace q14 := eq_true q14))
                      go_roundg k1
                      case measure => have := HK1.out; omega
                      case rel => exact ⟨(wrap64 (x3_1 + 1)), (by first | rfl | (simp; done) | (simp [*]; done)), H', ⟨by have := HK1.out; omega⟩, by repeat (first | exact Drawn0.refl _ | apply Drawn0.step)⟩
                    · rw [if_neg c15] at H
                      have c15b0 : ((bt a0 x3_1) == 46) = false := beq_eq_false_iff_ne.mpr c15
                      have c15b1 : ((bt a0 x3_1) != 46) = true := bne_iff_ne.mpr c15
                      by_cases c16 : x3_1 > 64
                      · rw [if_pos c16] at H
                        have c16b0 : decide (64 < x3_1) = true := decide_eq_true c16
                        clear c16
                        obtain rfl := Option.some.inj H
                        have p4 : 0 ≤ (x3_1 : Int) := of_decide_eq_true (by first | (with_reducible assumption) | assumption)
                        have q4 : x3_1 < (a0.size : Int) := of_decide_eq_true (by first | (with_reducible assumption) | assumption)
                        have hx4 := bt_at a0 x3_1
                        replace p4 := eq_true p4
                        replace q4 := eq_true q4
                        go_wp2_with (first | (go_at_call 121; (with_reducible refine (xml_letter.calls (bt a0 x3_1) false _ A5.out).mono ?_); rintro e w' ⟨rfl, ⟨nd, rfl⟩⟩; have p8 : 0 ≤ (x3_1 : Int) := of_decide_eq_true (by first | (with_reducible assumption) | assumption); have q8 : x3_1 < (a0.size : Int) := of_decide_eq_true (by first | (with_reducible assumption) | assumption); have hx8 := bt_at a0 x3_1; replace p8 := eq_true p8; replace q8 := eq_true q8; have p10 : 0 ≤ (x3_1 : Int) := of_decide_eq_true (by first | (with_reducible assumption) | assumption); have q10 : x3_1 < (a0.size : Int) := of_decide_eq_true (by first | (with_reducible assumption) | assumption); have hx10 := bt_at a0 x3_1; replace p10 := eq_true p10; replace q10 := eq_true q10; have p12 : 0 ≤ (x3_1 : Int) := of_decide_eq_true (by first | (with_reducible assumption) | assumption); have q12 : x3_1 < (a0.size : Int) := of_decide_eq_true (by first | (with_reducible assumption) | assumption); have hx12 := bt_at a0 x3_1; replace p12 := eq_true p12; replace q12 := eq_true q12; have p14 : 0 ≤ (x3_1 : Int) := of_decide_eq_true (by first | (with_reducible assumption) | assumption); have q14 : x3_1 < (a0.size : Int) := of_decide_eq_true (by first | (with_reducible assumption) | assumption); have hx14 := bt_at a0 x3_1; replace p14 := eq_true p14; replace q14 := eq_true q14))
                        go_ret
                        exact ⟨by first | rfl | (simp; done) | (simp [*]; done), by repeat (first | exact Drawn0.refl _ | apply Drawn0.step)⟩
                      · rw [if_neg c16] at H
                        have c16b0 : decide (64 < x3_1) = false := decide_eq_false c16
                        clear c16
                        obtain rfl := Option.some.inj H
                        have p4 : 0 ≤ (x3_1 : Int) := of_decide_eq_true (by first | (with_reducible assumption) | assumption)
                        have q4 : x3_1 < (a0.size : Int) := of_decide_eq_true (by first | (with_reducible assumption) | assumption)
                        have hx4 := bt_at a0 x3_1
                        replace p4 := eq_true p4
                        replace q4 := eq_true q4
                        go_wp2_with (first | (go_at_call 121; (with_reducible refine (xml_letter.calls (bt a0 x3_1) false _ A5.out).mono ?_); rintro e w' ⟨rfl, ⟨nd, rfl⟩⟩; have p8 : 0 ≤ (x3_1 : Int) := of_decide_eq_true (by first | (with_reducible assumption) | assumption); have q8 : x3_1 < (a0.size : Int) := of_decide_eq_true (by first | (with_reducible assumption) | assumption); have hx8 := bt_at a0 x3_1; replace p8 := eq_true p8; replace q8 := eq_true q8; have p10 : 0 ≤ (x3_1 : Int) := of_decide_eq_true (by first | (with_reducible assumption) | assumption); have q10 : x3_1 < (a0.size : Int) := of_decide_eq_true (by first | (with_reducible assumption) | assumption); have hx10 := bt_at a0 x3_1; replace p10 := eq_true p10; replace q10 := eq_true q10; have p12 : 0 ≤ (x3_1 : Int) := of_decide_eq_true (by first | (with_reducible assumption) | assumption); have q12 : x3_1 < (a0.size : Int) := of_decide_eq_true (by first | (with_reducible assumption) | assumption); have hx12 := bt_at a0 x3_1; replace p12 := eq_true p12; replace q12 := eq_true q12; have p14 : 0 ≤ (x3_1 : Int) := of_decide_eq_true (by first | (with_reducible assumption) | assumption); have q14 : x3_1 < (a0.size : Int) := of_decide_eq_true (by first | (with_reducible assumption) | assumption); have hx14 := bt_at a0 x3_1; replace p14 := eq_true p14; replace q14 := eq_true q14))
                        go_ret
                        exact ⟨by first | rfl | (simp; done) | (simp [*]; done), by repeat (first | exact Drawn0.refl _ | apply Drawn0.step)⟩
              · rw [if_neg c9] at H
                have c9b0 : decide (48 ≤ (bt a0 x3_1)) = false := decide_eq_false c9
                clear c9
                by_cases c18 : (bt a0 x3_1) = 45
                · rw [if_pos c18] at H
                  have c18b0 : ((bt a0 x3_1) == 45) = true := beq_iff_eq.mpr c18
                  have c18b1 : ((bt a0 x3_1) != 45) = false := bne_eq_false_iff_eq.mpr c18
                  clear c18
                  have H' := Aside0.mk H
                  clear H
                  have p4 : 0 ≤ (x3_1 : Int) := of_decide_eq_true (by first | (with_reducible assumption) | assumption)
                  have q4 : x3_1 < (a0.size : Int) := of_decide_eq_true (by first | (with_reducible assumption) | assumption)
                  have hx4 := bt_at a0 x3_1
                  replace p4 := eq_true p4
                  replace q4 := eq_true q4
                  go_wp2_with (first | (go_at_call 121; (with_reducible refine (xml_letter.calls (bt a0 x3_1) false _ A5.out).mono ?_); rintro e w' ⟨rfl, ⟨nd, rfl⟩⟩; have p8 : 0 ≤ (x3_1 : Int) := of_decide_eq_true (by first | (with_reducible assumption) | assumption); have q8 : x3_1 < (a0.size : Int) := of_decide_eq_true (by first | (with_reducible assumption) | assumption); have hx8 := bt_at a0 x3_1; replace p8 := eq_true p8; replace q8 := eq_true q8; have p17 : 0 ≤ (x3_1 : Int) := of_decide_eq_true (by first | (with_reducible assumption) | assumption); have q17 : x3_1 < (a0.size : Int) := of_decide_eq_true (by first | (with_reducible assumption) | assumption); have hx17 := bt_at a0 x3_1; replace p17 := eq_true p17; replace q17 := eq_true q17))
                  go_roundg k1
                  case measure => have := HK1.out; omega
                  case rel => exact ⟨(wrap64 (x3_1 + 1)), (by first | rfl | (simp; done) | (simp [*]; done)), H', ⟨by have := HK1.out; omega⟩, by repeat (first | exact Drawn0.refl _ | apply Drawn0.step)⟩
                · rw [if_neg c18] at H
                  have c18b0 : ((bt a0 x3_1) == 45) = false := beq_eq_false_iff_ne.mpr c18
                  have c18b1 : ((bt a0 x3_1) != 45) = true := bne_iff_ne.mpr c18
                  by_cases c20 : (bt a0 x3_1) = 46
                  · rw [if_pos c20] at H
                    have c20b0 : ((bt a0 x3_1) == 46) = true := beq_iff_eq.mpr c20
                    have c20b1 : ((bt a0 x3_1) != 46) = false := bne_eq_false_iff_eq.mpr c20
                    clear c20
                    have H' := Aside0.mk H
                    clear H
                    have p4 : 0 ≤ (x3_1 : Int) := of_decide_eq_true (by first | (with_reducible assumption) | assumption)
                    have q4 : x3_1 < (a0.size : Int) := of_decide_eq_true (by first | (with_reducible assumption) | assumption)
                    have hx4 := bt_at a0 x3_1
                    replace p4 := eq_true p4
                    replace q4 := eq_true q4
                    go_wp2_with (first | (go_at_call 121; (with_reducible refine (xml_letter.calls (bt a0 x3_1) false _ A5.out).mono ?_); rintro e w' ⟨rfl, ⟨nd, rfl⟩⟩; have p8 : 0 ≤ (x3_1 : Int) := of_decide_eq_true (by first | (with_reducible assumption) | assumption); have q8 : x3_1 < (a0.size : Int) := of_decide_eq_true (by first | (with_reducible assumption) | assumption); have hx8 := bt_at a0 x3_1; replace p8 := eq_true p8; replace q8 := eq_true q8; have p17 : 0 ≤ (x3_1 : Int) := of_decide_eq_true (by first | (with_reducible assumption) | assumption); have q17 : x3_1 < (a0.size : Int) := of_decide_eq_true (by first | (with_reducible assumption) | assumption); have hx17 := bt_at a0 x3_1; replace p17 := eq_true p17; replace q17 := eq_true q17; have p19 : 0 ≤ (x3_1 : Int) := of_decide_eq_true (by first | (with_reducible assumption) | assumption); have q19 : x3_1 < (a0.size : Int) := of_decide_eq_true (by first | (with_reducible assumption) | assumption); have hx19 := bt_at a0 x3_1; replace p19 := eq_true p19; replace q19 := eq_true q19))
                    go_roundg k1
                    case measure => have := HK1.out; omega
                    case rel => exact ⟨(wrap64 (x3_1 + 1)), (by first | rfl | (simp; done) | (simp [*]; done)), H', ⟨by have := HK1.out; omega⟩, by repeat (first | exact Drawn0.refl _ | apply Drawn0.step)⟩
                  · rw [if_neg c20] at H
                    have c20b0 : ((bt a0 x3_1) == 46) = false := beq_eq_false_iff_ne.mpr c20
                    have c20b1 : ((bt a0 x3_1) != 46) = true := bne_iff_ne.mpr c20
                    by_cases c21 : x3_1 > 64
                    · rw [if_pos c21] at H
                      have c21b0 : decide (64 < x3_1) = true := decide_eq_true c21
                      clear c21
                      obtain rfl := Option.some.inj H
                      have p4 : 0 ≤ (x3_1 : Int) := of_decide_eq_true (by first | (with_reducible assumption) | assumption)
                      have q4 : x3_1 < (a0.size : Int) := of_decide_eq_true (by first | (with_reducible assumption) | assumption)
                      have hx4 := bt_at a0 x3_1
                      replace p4 := eq_true p4
                      replace q4 := eq_true q4
                      go_wp2_with (first | (go_at_call 121; (with_reducible refine (xml_letter.calls (bt a0 x3_1) false _ A5.out).mono ?_); rintro e w' ⟨rfl, ⟨nd, rfl⟩⟩; have p8 : 0 ≤ (x3_1 : Int) := of_decide_eq_true (by first | (with_reducible assumption) | assumption); have q8 : x3_1 < (a0.size : Int) := of_decide_eq_true (by first | (with_reducible assumption) | assumption); have hx8 := bt_at a0 x3_1; replace p8 := eq_true p8; replace q8 := eq_true q8; have p17 : 0 ≤ (x3_1 : Int) := of_decide_eq_true (by first | (with_reducible assumption) | assumption); have q17 : x3_1 < (a0.size : Int) := of_decide_eq_true (by first | (with_reducible assumption) | assumption); have hx17 := bt_at a0 x3_1; replace p17 := eq_true p17; replace q17 := eq_true q17; have p19 : 0 ≤ (x3_1 : Int) := of_decide_eq_true (by first | (with_reducible assumption) | assumption); have q19 : x3_1 < (a0.size : Int) := of_decide_eq_true (by first | (with_reducible assumption) | assumption); have hx19 := bt_at a0 x3_1; replace p19 := eq_true p19; replace q19 := eq_true q19))
                      go_ret
                      exact ⟨by first | rfl | (simp; done) | (simp [*]; done), by repeat (first | exact Drawn0.refl _ | apply Drawn0.step)⟩
                    · rw [if_neg c21] at H
                      have c21b0 : decide (64 < x3_1) = false := decide_eq_false c21
                      clear c21
                      obtain rfl := Option.some.inj H
                      have p4 : 0 ≤ (x3_1 : Int) := of_decide_eq_true (by first | (with_reducible assumption) | assumption)
                      have q4 : x3_1 < (a0.size : Int) := of_decide_eq_true (by first | (with_reducible assumption) | assumption)
                      have hx4 := bt_at a0 x3_1
                      replace p4 := eq_true p4
                      replace q4 := eq_true q4
                      go_wp2_with (first | (go_at_call 121; (with_reducible refine (xml_letter.calls (bt a0 x3_1) false _ A5.out).mono ?_); rintro e w' ⟨rfl, ⟨nd, rfl⟩⟩; have p8 : 0 ≤ (x3_1 : Int) := of_decide_eq_true (by first | (with_reducible assumption) | assumption); have q8 : x3_1 < (a0.size : Int) := of_decide_eq_true (by first | (with_reducible assumption) | assumption); have hx8 := bt_at a0 x3_1; replace p8 := eq_true p8; replace q8 := eq_true q8; have p17 : 0 ≤ (x3_1 : Int) := of_decide_eq_true (by first | (with_reducible assumption) | assumption); have q17 : x3_1 < (a0.size : Int) := of_decide_eq_true (by first | (with_reducible assumption) | assumption); have hx17 := bt_at a0 x3_1; replace p17 := eq_true p17; replace q17 := eq_true q17; have p19 : 0 ≤ (x3_1 : Int) := of_decide_eq_true (by first | (with_reducible assumption) | assumption); have q19 : x3_1 < (a0.size : Int) := of_decide_eq_true (by first | (with_reducible assumption) | assumption); have hx19 := bt_at a0 x3_1; replace p19 := eq_true p19; replace q19 := eq_true q19))
                      go_ret
                      exact ⟨by first | rfl | (simp; done) | (simp [*]; done), by repeat (first | exact Drawn0.refl _ | apply Drawn0.step)⟩
            · rw [if_neg c7] at H
              have c7b0 : decide (0 < x3_1) = false := decide_eq_false c7
              clear c7
              by_cases c22 : x3_1 > 64
              · rw [if_pos c22] at H
                have c22b0 : decide (64 < x3_1) = true := decide_eq_true c22
                clear c22
                obtain rfl := Option.some.inj H
                have p4 : 0 ≤ (x3_1 : Int) := of_decide_eq_true (by first | (with_reducible assumption) | assumption)
                have q4 : x3_1 < (a0.size : Int) := of_decide_eq_true (by first | (with_reducible assumption) | assumption)
                have hx4 := bt_at a0 x3_1
                replace p4 := eq_true p4
                replace q4 := eq_true q4
                go_wp2_with (first | (go_at_call 121; (with_reducible refine (xml_letter.calls (bt a0 x3_1) false _ A5.out).mono ?_); rintro e w' ⟨rfl, ⟨nd, rfl⟩⟩))
                go_ret
                exact ⟨by first | rfl | (simp; done) | (simp [*]; done), by repeat (first | exact Drawn0.refl _ | apply Drawn0.step)⟩
              · rw [if_neg c22] at H
                have c22b0 : decide (64 < x3_1) = false := decide_eq_false c22
                clear c22
                obtain rfl := Option.some.inj H
                have p4 : 0 ≤ (x3_1 : Int) := of_decide_eq_true (by first | (with_reducible assumption) | assumption)
                have q4 : x3_1 < (a0.size : Int) := of_decide_eq_true (by first | (with_reducible assumption) | assumption)
                have hx4 := bt_at a0 x3_1
                replace p4 := eq_true p4
                replace q4 := eq_true q4
                go_wp2_with (first | (go_at_call 121; (with_reducible refine (xml_letter.calls (bt a0 x3_1) false _ A5.out).mono ?_); rintro e w' ⟨rfl, ⟨nd, rfl⟩⟩))
                go_ret
                exact ⟨by first | rfl | (simp; done) | (simp [*]; done), by repeat (first | exact Drawn0.refl _ | apply Drawn0.step)⟩
        · rw [if_neg c3] at H
          exact absurd H (by simp)
      · rw [if_neg c2] at H
        have c2b0 : decide (x3_1 < (a0.size : Int)) = false := decide_eq_false c2
        clear c2
        by_cases c23 : x3_1 > 64
        · rw [if_pos c23] at H
          have c23b0 : decide (64 < x3_1) = true := decide_eq_true c23
          clear c23
          obtain rfl := Option.some.inj H
          go_wp2
          go_ret
          exact ⟨by first | rfl | (simp; done) | (simp [*]; done), by repeat (first | exact Drawn0.refl _ | apply Drawn0.step)⟩
        · rw [if_neg c23] at H
          have c23b0 : decide (64 < x3_1) = false := decide_eq_false c23
          clear c23
          obtain rfl := Option.some.inj H
          go_wp2
          go_ret
          exact ⟨by first | rfl | (simp; done) | (simp [*]; done), by repeat (first | exact Drawn0.refl _ | apply Drawn0.step)⟩


end Go.Proofs.YtpaopeiegaijiaaGreatDoor.XLead
namespace Go.Proofs.YtpaopeiegaijiaaGreatDoor
open Go.RowKit Go.Lib Go.Proofs.YtpaopeiegaijiaaGreatDoor.XLead Go.Proofs.YtpaopeiegaijiaaGreatDoorW.PrintWords
set_option linter.unusedVariables false
set_option linter.unusedSimpArgs false
theorem wrapE (x : Int) (n : Nat) (hx : x = (n : Int)) (h : n ≤ 9223372036854775807) : wrap64 x = (n : Int) := by
  subst hx
  unfold wrap64
  omega
theorem byte_all {p : UInt8 → Bool} (h : ∀ x : Fin 256, p (UInt8.ofNat x.val) = true) (c : UInt8) : p c = true := by
  have := h ⟨c.toNat, c.toNat_lt⟩
  simpa using this
theorem sz_l (l : List UInt8) : (⟨l.toArray⟩ : ByteArray).size = l.length := by simp [ByteArray.size]
theorem bt_l (l : List UInt8) (i : Nat) (h : i < l.length) : bt ⟨l.toArray⟩ (i : Int) = (l[i].toNat : Int) := by
  unfold bt
  rw [dif_pos (by simp [ByteArray.size]; exact h)]
  rfl
/-- A byte that may begin a name; one that may stand in it. -/
def letB (c : UInt8) : Bool := (decide (97 ≤ c.toNat) && decide (c.toNat ≤ 122)) || (decide (65 ≤ c.toNat) && decide (c.toNat ≤ 90)) || c == 95
def nameB (c : UInt8) : Bool := letB c || (decide (48 ≤ c.toNat) && decide (c.toNat ≤ 57)) || c == 45 || c == 46
def nameN : List UInt8 → Nat
  | [] => 0
  | c :: l => if letB c = true then 1 + (l.takeWhile nameB).length else 0
def capN (n : Nat) : Nat := if 64 < n then 0 else n
/-- How many bytes of a name stand at the front; 0: none does. -/
def leadL (s : List UInt8) : Nat := capN (nameN s)
theorem cap_if (i : Nat) : (if (i : Int) > 64 then some (0 : Int) else some (i : Int)) = some ((capN i : Nat) : Int) := by
  unfold capN
  by_cases h : 64 < i
  · rw [if_pos (by omega), if_pos h]; rfl
  · rw [if_neg (by omega), if_neg h]
theorem letter_f (c : UInt8) : xml_letter.f (c.toNat : Int) = some (letB c) := by
  have := byte_all (p := fun c => xml_letter.f (c.toNat : Int) == some (letB c)) (by decide +kernel) c
  exact beq_iff_eq.1 this
theorem lead_step (c : UInt8) (i : Nat) (h0 : 0 < i) (X T R : Option Int) (hy : nameB c = true → X = R) (hn : nameB c = false → T = R) :
    (if letB c = true then X else if (i : Int) > 0 then (if (c.toNat : Int) ≥ 48 then (if (c.toNat : Int) ≤ 57 then X else (if (c.toNat : Int) = 45 then X else (if (c.toNat : Int) = 46 then X else T))) else (if (c.toNat : Int) = 45 then X else (if (c.toNat : Int) = 46 then X else T))) else T) = R := by
  have e : ∀ d : UInt8, ((c.toNat : Int) = (d.toNat : Int)) ↔ c = d := fun d => ⟨fun h => UInt8.toNat_inj.1 (by omega), fun h => by rw [h]⟩
  have e45 : ((c.toNat : Int) = 45) ↔ c = 45 := e 45
  have e46 : ((c.toNat : Int) = 46) ↔ c = 46 := e 46
  have tail : (48 ≤ c.toNat ∧ c.toNat ≤ 57 → False) → letB c = false → (if (c.toNat : Int) = 45 then X else (if (c.toNat : Int) = 46 then X else T)) = R := by
    intro hd hl
    by_cases h4 : c = 45
    · rw [if_pos (e45.2 h4)]; exact hy (by unfold nameB; rw [h4]; rfl)
    · rw [if_neg (fun h => h4 (e45.1 h))]
      by_cases h5 : c = 46
      · rw [if_pos (e46.2 h5)]; exact hy (by unfold nameB; rw [h5]; rfl)
      · rw [if_neg (fun h => h5 (e46.1 h))]
        refine hn ?_
        unfold nameB
        rw [hl, beq_eq_false_iff_ne.2 h4, beq_eq_false_iff_ne.2 h5]
        simp only [Bool.false_or, Bool.or_false]
        rw [Bool.eq_false_iff]
        intro h
        rw [Bool.and_eq_true, decide_eq_true_eq, decide_eq_true_eq] at h
        exact hd h
  by_cases h1 : letB c = true
  · rw [if_pos h1]; exact hy (by unfold nameB; rw [h1]; rfl)
  · rw [if_neg h1, if_pos (by omega)]
    by_cases h2 : 48 ≤ c.toNat
    · rw [if_pos (by omega)]
      by_cases h3 : c.toNat ≤ 57
      · rw [if_pos (by omega)]; exact hy (by unfold nameB; rw [decide_eq_true h2, decide_eq_true h3]; simp)
      · rw [if_neg (by omega)]; exact tail (fun h => h3 h.2) (Bool.eq_false_iff.2 h1)
    · rw [if_neg (by omega)]; exact tail (fun h => h2 h.1) (Bool.eq_false_iff.2 h1)
theorem lead_l0 (l : List UInt8) (hl : l.length ≤ 9223372036854775806) : ∀ (j k i : Nat), i + j = l.length → j + 1 ≤ k → 0 < i →
    xml_lead.l0 k ⟨l.toArray⟩ (i : Int) = some ((capN (i + ((l.drop i).takeWhile nameB).length) : Nat) : Int) := by
  have hz := sz_l l
  intro j
  induction j with
  | zero =>
    intro k i hi hk h0
    obtain ⟨k, rfl⟩ : ∃ k', k = k' + 1 := ⟨k - 1, by omega⟩
    rw [xml_lead.l0, if_neg (by omega), List.drop_of_length_le (by omega), cap_if]
    rfl
  | succ j ih =>
    intro k i hi hk h0
    obtain ⟨k, rfl⟩ : ∃ k', k = k' + 1 := ⟨k - 1, by omega⟩
    have hlt : i < l.length := by omega
    have hd := List.drop_eq_getElem_cons hlt
    have hn := ih k (i + 1) (by omega) (by omega) (by omega)
    have hb := bt_l l i hlt
    rw [xml_lead.l0, if_pos (by omega), if_pos (by omega), hb, letter_f, Option.bind_some, wrapE ((i : Int) + 1) (i + 1) (by omega) (by omega), hn, hd, cap_if]
    generalize l[i] = c
    refine lead_step c i h0 _ _ _ (fun h => ?_) (fun h => ?_)
    · rw [List.takeWhile_cons_of_pos h, List.length_cons, show i + ((List.takeWhile nameB (List.drop (i + 1) l)).length + 1) = i + 1 + (List.takeWhile nameB (List.drop (i + 1) l)).length by omega]
    · rw [List.takeWhile_cons_of_neg (by rw [h]; simp)]
      rfl
theorem lead_f (l : List UInt8) (hl : l.length ≤ 9223372036854775806) (k : Nat) (hk : l.length + 2 ≤ k) : xml_lead.f k ⟨l.toArray⟩ = some ((leadL l : Nat) : Int) := by
  obtain ⟨k, rfl⟩ : ∃ k', k = k' + 1 := ⟨k - 1, by omega⟩
  have hz := sz_l l
  unfold xml_lead.f leadL
  cases l with
  | nil => rw [xml_lead.l0, if_neg (by rw [hz]; simp)]; rfl
  | cons c l =>
    have hb : bt ⟨(c :: l).toArray⟩ 0 = (c.toNat : Int) := bt_l (c :: l) 0 (by simp)
    have h1 := lead_l0 (c :: l) hl l.length k 1 (by simp; omega) (by simp at hk; omega) (by omega)
    rw [List.drop_one, List.tail_cons] at h1
    simp only [List.length_cons] at hz hl hk
    rw [xml_lead.l0, if_pos (by omega), if_pos (by omega), hb, letter_f, Option.bind_some, wrapE ((0 : Int) + 1) 1 (by omega) (by omega), nameN]
    by_cases h : letB c = true
    · rw [if_pos h, if_pos h]; exact h1
    · rw [if_neg h, if_neg h, if_neg (by omega), if_neg (by omega)]; rfl
theorem lead_any (l : List UInt8) (hl : l.length ≤ 9223372036854775806) (w : World) :
    Calls Tryz.prog 91 #[.string ⟨l.toArray⟩] w fun e w' => e = .returned (.int .i64 ((leadL l : Nat) : Int)) ∧ Below w.heap.size w w' :=
  (xml_lead.calls (l.length + 2) ⟨l.toArray⟩ _ w (lead_f l hl _ (Nat.le_refl _))).mono fun e w' ⟨he, hd⟩ => ⟨he, hd.below⟩
theorem lead_le (l : List UInt8) : leadL l ≤ l.length := by
  unfold leadL capN
  split
  · omega
  · unfold nameN
    split
    · simp
    · split
      · rename_i c l _ _
        have := (List.takeWhile_sublist (p := nameB) (l := l)).length_le
        simp only [List.length_cons]
        omega
      · omega
end Go.Proofs.YtpaopeiegaijiaaGreatDoor
