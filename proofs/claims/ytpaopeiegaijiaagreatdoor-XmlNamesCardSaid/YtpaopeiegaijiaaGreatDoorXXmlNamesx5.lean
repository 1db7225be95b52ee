-- written by wip/xprint.py: the kit's print with functions walked by hand
import Derived.Test.YtpaopeiegaijiaaGreatDoorXXmlNamesx0
import Derived.Test.YtpaopeiegaijiaaGreatDoorXXmlNamesx1
import Derived.Test.YtpaopeiegaijiaaGreatDoorXXmlNamesx4
namespace Go.Proofs.YtpaopeiegaijiaaGreatDoor.XXmlNames
open Go.RowKit Go.Proofs.YtpaopeiegaijiaaGreatDoorW.PrintWords Go.Proofs.YtpaopeiegaijiaaGreatDoorW.PrintLast Go.Proofs.YtpaopeiegaijiaaGreatDoorW.PrintMore
attribute [local go_sem] max2_int min2_int max_two min_two max_three min_three max_four min_four   -- for this text's walks alone
set_option linter.unusedVariables false
set_option linter.unusedSimpArgs false

attribute [local go_sem high] eqA60
/-! ### calepinlaw07_XmlNames: function 6 -/
def calepinlaw07_XmlNames.j0 : Nat → ByteArray → ByteArray → Bool → Bool → Option (Bool)
  | 0, _, _, _, _ => none
  | k + 1, x0, x1, x2, x38 => if x38 = true then (some true) else (if 1 + x0.size ≤ 9223372036854775807 then (if ((⟨#[60]⟩ : ByteArray) ++ x0).size + 1 ≤ 9223372036854775807 then (if (((⟨#[60]⟩ : ByteArray) ++ x0) ++ (⟨#[58]⟩ : ByteArray)).size + x1.size ≤ 9223372036854775807 then (if ((((⟨#[60]⟩ : ByteArray) ++ x0) ++ (⟨#[58]⟩ : ByteArray)) ++ x1).size + 7 ≤ 9223372036854775807 then (if (((((⟨#[60]⟩ : ByteArray) ++ x0) ++ (⟨#[58]⟩ : ByteArray)) ++ x1) ++ (⟨#[32, 120, 109, 108, 110, 115, 58]⟩ : ByteArray)).size + x0.size ≤ 9223372036854775807 then (if ((((((⟨#[60]⟩ : ByteArray) ++ x0) ++ (⟨#[58]⟩ : ByteArray)) ++ x1) ++ (⟨#[32, 120, 109, 108, 110, 115, 58]⟩ : ByteArray)) ++ x0).size + 9 ≤ 9223372036854775807 then (if x2 = true then (if 9 + x0.size ≤ 9223372036854775807 then (if ((⟨#[60, 111, 32, 120, 109, 108, 110, 115, 58]⟩ : ByteArray) ++ x0).size + 23 ≤ 9223372036854775807 then (if (((⟨#[60, 111, 32, 120, 109, 108, 110, 115, 58]⟩ : ByteArray) ++ x0) ++ (⟨#[61, 39, 68, 65, 86, 58, 39, 32, 120, 109, 108, 110, 115, 61, 39, 117, 114, 110, 58, 120, 39, 62, 60]⟩ : ByteArray)).size + x0.size ≤ 9223372036854775807 then (if ((((⟨#[60, 111, 32, 120, 109, 108, 110, 115, 58]⟩ : ByteArray) ++ x0) ++ (⟨#[61, 39, 68, 65, 86, 58, 39, 32, 120, 109, 108, 110, 115, 61, 39, 117, 114, 110, 58, 120, 39, 62, 60]⟩ : ByteArray)) ++ x0).size + 1 ≤ 9223372036854775807 then (if (((((⟨#[60, 111, 32, 120, 109, 108, 110, 115, 58]⟩ : ByteArray) ++ x0) ++ (⟨#[61, 39, 68, 65, 86, 58, 39, 32, 120, 109, 108, 110, 115, 61, 39, 117, 114, 110, 58, 120, 39, 62, 60]⟩ : ByteArray)) ++ x0) ++ (⟨#[58]⟩ : ByteArray)).size + x1.size ≤ 9223372036854775807 then (if ((((((⟨#[60, 111, 32, 120, 109, 108, 110, 115, 58]⟩ : ByteArray) ++ x0) ++ (⟨#[61, 39, 68, 65, 86, 58, 39, 32, 120, 109, 108, 110, 115, 61, 39, 117, 114, 110, 58, 120, 39, 62, 60]⟩ : ByteArray)) ++ x0) ++ (⟨#[58]⟩ : ByteArray)) ++ x1).size + 6 ≤ 9223372036854775807 then ((xml_Parse.f (((((((⟨#[60, 111, 32, 120, 109, 108, 110, 115, 58]⟩ : ByteArray) ++ x0) ++ (⟨#[61, 39, 68, 65, 86, 58, 39, 32, 120, 109, 108, 110, 115, 61, 39, 117, 114, 110, 58, 120, 39, 62, 60]⟩ : ByteArray)) ++ x0) ++ (⟨#[58]⟩ : ByteArray)) ++ x1) ++ (⟨#[47, 62, 60, 47, 111, 62]⟩ : ByteArray))).bind fun bt134 => (if ((((⟨#[60]⟩ : ByteArray) ++ x0) ++ (⟨#[58]⟩ : ByteArray)) ++ x1).size + 2 ≤ 9223372036854775807 then ((xml_Parse.f (((((⟨#[60]⟩ : ByteArray) ++ x0) ++ (⟨#[58]⟩ : ByteArray)) ++ x1) ++ (⟨#[47, 62]⟩ : ByteArray))).bind fun bt138 => (if bt134.2 = 0 then (if (bt134.1.length : Int) = (2 + (2 * 1)) then (if 1 < (bt134.1.length : Int) then (if (((rd_T60 bt134.1 1).f0) == 1 && (((rd_T60 bt134.1 1).f1) == 1 && ((((rd_T60 bt134.1 1).f2).toList) == x1.toList && ((((rd_T60 bt134.1 1).f3).toList) == ([] : List UInt8))))) = true then (if 1 = 0 then (some (bt138.2 == 70)) else (if 0 < (bt134.1.length : Int) then (if ((rd_T60 bt134.1 0).f1) = 3 then (some (bt138.2 == 70)) else (some false)) else (none))) else (some false)) else (none)) else (some false)) else (some false))) else (none))) else (none)) else (none)) else (none)) else (none)) else (none)) else (none)) else ((xml_Parse.f (((((((⟨#[60]⟩ : ByteArray) ++ x0) ++ (⟨#[58]⟩ : ByteArray)) ++ x1) ++ (⟨#[32, 120, 109, 108, 110, 115, 58]⟩ : ByteArray)) ++ x0) ++ (⟨#[61, 39, 68, 65, 86, 58, 39, 47, 62]⟩ : ByteArray))).bind fun bt144 => (if ((((⟨#[60]⟩ : ByteArray) ++ x0) ++ (⟨#[58]⟩ : ByteArray)) ++ x1).size + 2 ≤ 9223372036854775807 then ((xml_Parse.f (((((⟨#[60]⟩ : ByteArray) ++ x0) ++ (⟨#[58]⟩ : ByteArray)) ++ x1) ++ (⟨#[47, 62]⟩ : ByteArray))).bind fun bt148 => (if bt144.2 = 0 then (if (bt144.1.length : Int) = (2 + (2 * 0)) then (if 0 < (bt144.1.length : Int) then (if (((rd_T60 bt144.1 0).f0) == 1 && (((rd_T60 bt144.1 0).f1) == 1 && ((((rd_T60 bt144.1 0).f2).toList) == x1.toList && ((((rd_T60 bt144.1 0).f3).toList) == ([] : List UInt8))))) = true then (if 0 = 0 then (some (bt148.2 == 70)) else (if ((rd_T60 bt144.1 0).f1) = 3 then (some (bt148.2 == 70)) else (some false))) else (some false)) else (none)) else (some false)) else (some false))) else (none)))) else (none)) else (none)) else (none)) else (none)) else (none)) else (none))
def calepinlaw07_XmlNames.f (k : Nat) (a0 : ByteArray) (a1 : ByteArray) (a2 : Bool) : Option (Bool) := (calepinlaw07_first.f k).bind fun t131 => (if t131 = true then ((calepinref07_Name.f k a0 0).bind fun t132 => ((calepinref07_Name.f k a1 0).bind fun t133 => (if t132 = (a0.size : Int) then (if t133 = (a1.size : Int) then (if t133 = 0 then (calepinlaw07_XmlNames.j0 k a0 a1 a2 true) else (calepinlaw07_XmlNames.j0 k a0 a1 a2 (t132 == 0))) else (calepinlaw07_XmlNames.j0 k a0 a1 a2 true)) else (calepinlaw07_XmlNames.j0 k a0 a1 a2 true)))) else (some false))
theorem calepinlaw07_XmlNames.mono_l : ∀ k, (∀ y0 y1 y2 y3, LeO (calepinlaw07_XmlNames.j0 k y0 y1 y2 y3) (calepinlaw07_XmlNames.j0 (k + 1) y0 y1 y2 y3))
  | 0 => fun _ _ _ _ r h => by simp [calepinlaw07_XmlNames.j0] at h
  | k + 1 => by
    have ih0 := calepinlaw07_XmlNames.mono_l k
    · intro y0 y1 y2 y3
      unfold calepinlaw07_XmlNames.j0
      repeat' first
      | (with_reducible exact ih0 _ _ _ _)
      | (with_reducible exact calepinlaw07_first.mono _)
      | (with_reducible exact calepinref07_Name.mono _ _ _)
      | (with_reducible exact LeO.refl _)
      | (with_reducible exact LeO.none _)
      | (with_reducible refine LeO.ite ?_ ?_)
      | (with_reducible refine LeO.bind ?_ (fun _ => ?_))
      | exact ih0 _ _ _ _
      | exact calepinlaw07_first.mono _
      | exact calepinref07_Name.mono _ _ _
      | exact LeO.none _
      | refine LeO.ite ?_ ?_
      | refine LeO.bind ?_ (fun _ => ?_)
theorem calepinlaw07_XmlNames.mono : ∀ a0 a1 a2 k, LeO (calepinlaw07_XmlNames.f k a0 a1 a2) (calepinlaw07_XmlNames.f (k + 1) a0 a1 a2) := by
  intro a0 a1 a2 k
  have ih0 := calepinlaw07_XmlNames.mono_l k
  unfold calepinlaw07_XmlNames.f
  repeat' first
      | (with_reducible exact ih0 _ _ _ _)
      | (with_reducible exact calepinlaw07_first.mono _)
      | (with_reducible exact calepinref07_Name.mono _ _ _)
      | (with_reducible exact LeO.refl _)
      | (with_reducible exact LeO.none _)
      | (with_reducible refine LeO.ite ?_ ?_)
      | (with_reducible refine LeO.bind ?_ (fun _ => ?_))
      | exact ih0 _ _ _ _
      | exact calepinlaw07_first.mono _
      | exact calepinref07_Name.mono _ _ _
      | exact LeO.none _
      | refine LeO.ite ?_ ?_
      | refine LeO.bind ?_ (fun _ => ?_)
set_option maxHeartbeats 8000000 in
set_option maxRecDepth 100000 in
theorem calepinlaw07_XmlNames.calls (k : Nat) (a0 : ByteArray) (a1 : ByteArray) (a2 : Bool) (r : Bool) (w : World) (hT : LaidM w) (h : calepinlaw07_XmlNames.f k a0 a1 a2 = some r) :
    Calls Tryz.prog 6 #[.string a0, .string a1, .bool a2] w fun e w' => e = .returned (.bool r) ∧ Below w.heap.size w w' := by
  have hu60 := Tryz.underlying60
  have HB := Aside0.mk (Below.refl w.heap.size w)
  have HT := Aside0.mk hT
  clear hT
  have H : ((calepinlaw07_first.f k).bind fun t131 => (if t131 = true then ((calepinref07_Name.f k a0 0).bind fun t132 => ((calepinref07_Name.f k a1 0).bind fun t133 => (if t132 = (a0.size : Int) then (if t133 = (a1.size : Int) then (if t133 = 0 then (calepinlaw07_XmlNames.j0 k a0 a1 a2 true) else (calepinlaw07_XmlNames.j0 k a0 a1 a2 (t132 == 0))) else (calepinlaw07_XmlNames.j0 k a0 a1 a2 true)) else (calepinlaw07_XmlNames.j0 k a0 a1 a2 true)))) else (some false))) = some r := h
  clear h
  replace H := Option.bind_eq_some_iff.mp H
  obtain ⟨t131, A40, H⟩ := H
  replace H : (if t131 = true then ((calepinref07_Name.f k a0 0).bind fun t132 => ((calepinref07_Name.f k a1 0).bind fun t133 => (if t132 = (a0.size : Int) then (if t133 = (a1.size : Int) then (if t133 = 0 then (calepinlaw07_XmlNames.j0 k a0 a1 a2 true) else (calepinlaw07_XmlNames.j0 k a0 a1 a2 (t132 == 0))) else (calepinlaw07_XmlNames.j0 k a0 a1 a2 true)) else (calepinlaw07_XmlNames.j0 k a0 a1 a2 true)))) else (some false)) = some r := H
  have A4 := Aside0.mk A40
  clear A40
  by_cases c5 : t131 = true
  · subst c5
    have H1 : ((calepinref07_Name.f k a0 0).bind fun t132 => ((calepinref07_Name.f k a1 0).bind fun t133 => (if t132 = (a0.size : Int) then (if t133 = (a1.size : Int) then (if t133 = 0 then (calepinlaw07_XmlNames.j0 k a0 a1 a2 true) else (calepinlaw07_XmlNames.j0 k a0 a1 a2 (t132 == 0))) else (calepinlaw07_XmlNames.j0 k a0 a1 a2 true)) else (calepinlaw07_XmlNames.j0 k a0 a1 a2 true)))) = some r := by rw [if_pos rfl] at H; exact H
    clear H
    have H := H1
    clear H1
    replace H := Option.bind_eq_some_iff.mp H
    obtain ⟨t132, A60, H⟩ := H
    replace H : ((calepinref07_Name.f k a1 0).bind fun t133 => (if t132 = (a0.size : Int) then (if t133 = (a1.size : Int) then (if t133 = 0 then (calepinlaw07_XmlNames.j0 k a0 a1 a2 true) else (calepinlaw07_XmlNames.j0 k a0 a1 a2 (t132 == 0))) else (calepinlaw07_XmlNames.j0 k a0 a1 a2 true)) else (calepinlaw07_XmlNames.j0 k a0 a1 a2 true))) = some r := H
    have A6 := Aside0.mk A60
    clear A60
    replace H := Option.bind_eq_some_iff.mp H
    obtain ⟨t133, A70, H⟩ := H
    replace H : (if t132 = (a0.size : Int) then (if t133 = (a1.size : Int) then (if t133 = 0 then (calepinlaw07_XmlNames.j0 k a0 a1 a2 true) else (calepinlaw07_XmlNames.j0 k a0 a1 a2 (t132 == 0))) else (calepinlaw07_XmlNames.j0 k a0 a1 a2 true)) else (calepinlaw07_XmlNames.j0 k a0 a1 a2 true)) = some r := H
    have A7 := Aside0.mk A70
    clear A70
    have HC8 := Aside0.mk H
    clear H
    go_enter Tryz.func6, Tryz.ntmps6
    go_upto_region 5 with (first | ((with_reducible refine gate_callee (f := 19) rfl ?_); refine goesL_ (some 15) rfl rfl Tryz.func19 (by kernel_rfl) rfl #[] rfl (by (try simp only [List.map_toArray, List.map_cons, List.map_nil]); first | done | rfl | (simp only [List.length_drop, List.length_take]; rfl)) ?_; (with_reducible refine (calepinlaw07_first.calls k  true _ ?side1 A4.out).mono ?_); (case side1 => exact LaidM.below HT.out (by repeat (first | (with_reducible first | exact HB.out | apply below_alloc | apply pw_below_drewN | apply below_drew1) | exact HB.out))); rintro e w9 ⟨rfl, hb⟩; refine ⟨_, rfl, ?_⟩; have n0_ := Aside0.mk (below_step (by repeat (first | (with_reducible first | exact HB.out | apply below_alloc | apply pw_below_drewN | apply below_drew1) | exact HB.out)) hb); clear HB; have HB := n0_; clear n0_; (try clear hb); (try clear hb2); (try clear hk); (try clear hi)) | ((with_reducible refine gate_callee (f := 26) rfl ?_); refine goesL_ (some 18) rfl rfl Tryz.func26 (by kernel_rfl) rfl #[.string a0, .int .i64 0] rfl (by (try simp only [List.map_toArray, List.map_cons, List.map_nil]); first | done | rfl | (simp only [List.length_drop, List.length_take]; rfl)) ?_; (with_reducible refine (calepinref07_Name.calls k a0 0 t132 _ A6.out).mono ?_); rintro e w' ⟨rfl, ⟨nd, rfl⟩⟩; refine ⟨_, rfl, ?_⟩) | ((with_reducible refine gate_callee (f := 26) rfl ?_); refine goesL_ (some 20) rfl rfl Tryz.func26 (by kernel_rfl) rfl #[.string a1, .int .i64 0] rfl (by (try simp only [List.map_toArray, List.map_cons, List.map_nil]); first | done | rfl | (simp only [List.length_drop, List.length_take]; rfl)) ?_; (with_reducible refine (calepinref07_Name.calls k a1 0 t133 _ A7.out).mono ?_); rintro e w' ⟨rfl, ⟨nd, rfl⟩⟩; refine ⟨_, rfl, ?_⟩))
    (try simp only [Act.put, List.setIfInBounds_toArray, List.set_cons_zero, List.set_cons_succ])
    go_cut [38] (fun v38 wc => ∃ (kq : Nat) (x38_7 : Bool), v38 = .bool x38_7 ∧ Aside0 (calepinlaw07_XmlNames.j0 kq a0 a1 a2 x38_7 = some r) ∧ Aside0 (kq ≤ k) ∧ Aside0 (Below w.heap.size w wc))
    case first =>
      have H := HC8.out
      clear HC8
      by_cases c10 : t132 = (a0.size : Int)
      · rw [if_pos c10] at H
        have c10b0 : (t132 == (a0.size : Int)) = true := beq_iff_eq.mpr c10
        have c10b1 : (t132 != (a0.size : Int)) = false := bne_eq_false_iff_eq.mpr c10
        clear c10
        (first | rw [c10b0] | rw [c10b1] | (simp only [i64_w, i32_w]; rw [c10b0]) | skip)
        by_cases c11 : t133 = (a1.size : Int)
        · rw [if_pos c11] at H
          have c11b0 : (t133 == (a1.size : Int)) = true := beq_iff_eq.mpr c11
          have c11b1 : (t133 != (a1.size : Int)) = false := bne_eq_false_iff_eq.mpr c11
          clear c11
          by_cases c12 : t133 = 0
          · rw [if_pos c12] at H
            have c12b0 : (t133 == 0) = true := beq_iff_eq.mpr c12
            have c12b1 : (t133 != 0) = false := bne_eq_false_iff_eq.mpr c12
            clear c12
            have H' := Aside0.mk H
            clear H
            go_wp2
            go_meet
            case rel => exact ⟨_, (true), (by first | rfl | (simp; done) | (simp [*]; done)), H', ⟨by first | omega | exact Nat.le_refl _⟩, ⟨by repeat (first | (with_reducible first | exact HB.out | apply below_alloc | apply pw_below_drewN | apply below_drew1) | exact HB.out)⟩⟩
          · rw [if_neg c12] at H
            have c12b0 : (t133 == 0) = false := beq_eq_false_iff_ne.mpr c12
            have c12b1 : (t133 != 0) = true := bne_iff_ne.mpr c12
            have H' := Aside0.mk H
            clear H
            go_wp2
            go_meet
            case rel => exact ⟨_, ((t132 == 0)), (by first | rfl | (simp; done) | (simp [*]; done)), H', ⟨by first | omega | exact Nat.le_refl _⟩, ⟨by repeat (first | (with_reducible first | exact HB.out | apply below_alloc | apply pw_below_drewN | apply below_drew1) | exact HB.out)⟩⟩
        · rw [if_neg c11] at H
          have c11b0 : (t133 == (a1.size : Int)) = false := beq_eq_false_iff_ne.mpr c11
          have c11b1 : (t133 != (a1.size : Int)) = true := bne_iff_ne.mpr c11
          have H' := Aside0.mk H
          clear H
          go_wp2
          go_meet
          case rel => exact ⟨_, (true), (by first | rfl | (simp; done) | (simp [*]; done)), H', ⟨by first | omega | exact Nat.le_refl _⟩, ⟨by repeat (first | (with_reducible first | exact HB.out | apply below_alloc | apply pw_below_drewN | apply below_drew1) | exact HB.out)⟩⟩
      · rw [if_neg c10] at H
        have c10b0 : (t132 == (a0.size : Int)) = false := beq_eq_false_iff_ne.mpr c10
        have c10b1 : (t132 != (a0.size : Int)) = true := bne_iff_ne.mpr c10
        (first | rw [c10b0] | rw [c10b1] | (simp only [i64_w, i32_w]; rw [c10b0]) | skip)
        have H' := Aside0.mk H
        clear H
        go_wp2
        go_meet
        case rel => exact ⟨_, (true), (by first | rfl | (simp; done) | (simp [*]; done)), H', ⟨by first | omega | exact Nat.le_refl _⟩, ⟨by repeat (first | (with_reducible first | exact HB.out | apply below_alloc | apply pw_below_drewN | apply below_drew1) | exact HB.out)⟩⟩
    case rest =>
      clear HC8
      try clear c1
      try clear c2
      try clear p2
      try clear c5
      try clear c6
      try clear c10
      try clear c10b0
      try clear c10b1
      try clear c11
      try clear c11b0
      try clear c11b1
      try clear c12
      try clear c12b0
      try clear c12b1
      obtain ⟨kq, x38_7, rfl, HA, HJ7, HB⟩ := hcut
      cases kq with
      | zero => exact absurd HA.out (by simp [calepinlaw07_XmlNames.j0])
      | succ kj7 =>
        have H := HA.out
        clear HA
        simp only [calepinlaw07_XmlNames.j0] at H
        by_cases c13 : x38_7 = true
        · subst c13
          have H1 : (some true) = some r := by rw [if_pos rfl] at H; exact H
          clear H
          have H := H1
          clear H1
          obtain rfl := Option.some.inj H
          go_wp2
          go_ret
          exact ⟨by first | rfl | (simp [errW_none, errW_some] <;> rfl) | (simp [*, errW_none, errW_some] <;> rfl), by repeat (first | (with_reducible first | exact HB.out | apply below_alloc | apply pw_below_drewN | apply below_drew1) | exact HB.out)⟩
        · replace c13 := Bool.eq_false_iff.mpr c13
          subst c13
          have H1 : (if 1 + a0.size ≤ 9223372036854775807 then (if ((⟨#[60]⟩ : ByteArray) ++ a0).size + 1 ≤ 9223372036854775807 then (if (((⟨#[60]⟩ : ByteArray) ++ a0) ++ (⟨#[58]⟩ : ByteArray)).size + a1.size ≤ 9223372036854775807 then (if ((((⟨#[60]⟩ : ByteArray) ++ a0) ++ (⟨#[58]⟩ : ByteArray)) ++ a1).size + 7 ≤ 9223372036854775807 then (if (((((⟨#[60]⟩ : ByteArray) ++ a0) ++ (⟨#[58]⟩ : ByteArray)) ++ a1) ++ (⟨#[32, 120, 109, 108, 110, 115, 58]⟩ : ByteArray)).size + a0.size ≤ 9223372036854775807 then (if ((((((⟨#[60]⟩ : ByteArray) ++ a0) ++ (⟨#[58]⟩ : ByteArray)) ++ a1) ++ (⟨#[32, 120, 109, 108, 110, 115, 58]⟩ : ByteArray)) ++ a0).size + 9 ≤ 9223372036854775807 then (if a2 = true then (if 9 + a0.size ≤ 9223372036854775807 then (if ((⟨#[60, 111, 32, 120, 109, 108, 110, 115, 58]⟩ : ByteArray) ++ a0).size + 23 ≤ 9223372036854775807 then (if (((⟨#[60, 111, 32, 120, 109, 108, 110, 115, 58]⟩ : ByteArray) ++ a0) ++ (⟨#[61, 39, 68, 65, 86, 58, 39, 32, 120, 109, 108, 110, 115, 61, 39, 117, 114, 110, 58, 120, 39, 62, 60]⟩ : ByteArray)).size + a0.size ≤ 9223372036854775807 then (if ((((⟨#[60, 111, 32, 120, 109, 108, 110, 115, 58]⟩ : ByteArray) ++ a0) ++ (⟨#[61, 39, 68, 65, 86, 58, 39, 32, 120, 109, 108, 110, 115, 61, 39, 117, 114, 110, 58, 120, 39, 62, 60]⟩ : ByteArray)) ++ a0).size + 1 ≤ 9223372036854775807 then (if (((((⟨#[60, 111, 32, 120, 109, 108, 110, 115, 58]⟩ : ByteArray) ++ a0) ++ (⟨#[61, 39, 68, 65, 86, 58, 39, 32, 120, 109, 108, 110, 115, 61, 39, 117, 114, 110, 58, 120, 39, 62, 60]⟩ : ByteArray)) ++ a0) ++ (⟨#[58]⟩ : ByteArray)).size + a1.size ≤ 9223372036854775807 then (if ((((((⟨#[60, 111, 32, 120, 109, 108, 110, 115, 58]⟩ : ByteArray) ++ a0) ++ (⟨#[61, 39, 68, 65, 86, 58, 39, 32, 120, 109, 108, 110, 115, 61, 39, 117, 114, 110, 58, 120, 39, 62, 60]⟩ : ByteArray)) ++ a0) ++ (⟨#[58]⟩ : ByteArray)) ++ a1).size + 6 ≤ 9223372036854775807 then ((xml_Parse.f (((((((⟨#[60, 111, 32, 120, 109, 108, 110, 115, 58]⟩ : ByteArray) ++ a0) ++ (⟨#[61, 39, 68, 65, 86, 58, 39, 32, 120, 109, 108, 110, 115, 61, 39, 117, 114, 110, 58, 120, 39, 62, 60]⟩ : ByteArray)) ++ a0) ++ (⟨#[58]⟩ : ByteArray)) ++ a1) ++ (⟨#[47, 62, 60, 47, 111, 62]⟩ : ByteArray))).bind fun bt134 => (if ((((⟨#[60]⟩ : ByteArray) ++ a0) ++ (⟨#[58]⟩ : ByteArray)) ++ a1).size + 2 ≤ 9223372036854775807 then ((xml_Parse.f (((((⟨#[60]⟩ : ByteArray) ++ a0) ++ (⟨#[58]⟩ : ByteArray)) ++ a1) ++ (⟨#[47, 62]⟩ : ByteArray))).bind fun bt138 => (if bt134.2 = 0 then (if (bt134.1.length : Int) = (2 + (2 * 1)) then (if 1 < (bt134.1.length : Int) then (if (((rd_T60 bt134.1 1).f0) == 1 && (((rd_T60 bt134.1 1).f1) == 1 && ((((rd_T60 bt134.1 1).f2).toList) == a1.toList && ((((rd_T60 bt134.1 1).f3).toList) == ([] : List UInt8))))) = true then (if 1 = 0 then (some (bt138.2 == 70)) else (if 0 < (bt134.1.length : Int) then (if ((rd_T60 bt134.1 0).f1) = 3 then (some (bt138.2 == 70)) else (some false)) else (none))) else (some false)) else (none)) else (some false)) else (some false))) else (none))) else (none)) else (none)) else (none)) else (none)) else (none)) else (none)) else ((xml_Parse.f (((((((⟨#[60]⟩ : ByteArray) ++ a0) ++ (⟨#[58]⟩ : ByteArray)) ++ a1) ++ (⟨#[32, 120, 109, 108, 110, 115, 58]⟩ : ByteArray)) ++ a0) ++ (⟨#[61, 39, 68, 65, 86, 58, 39, 47, 62]⟩ : ByteArray))).bind fun bt144 => (if ((((⟨#[60]⟩ : ByteArray) ++ a0) ++ (⟨#[58]⟩ : ByteArray)) ++ a1).size + 2 ≤ 9223372036854775807 then ((xml_Parse.f (((((⟨#[60]⟩ : ByteArray) ++ a0) ++ (⟨#[58]⟩ : ByteArray)) ++ a1) ++ (⟨#[47, 62]⟩ : ByteArray))).bind fun bt148 => (if bt144.2 = 0 then (if (bt144.1.length : Int) = (2 + (2 * 0)) then (if 0 < (bt144.1.length : Int) then (if (((rd_T60 bt144.1 0).f0) == 1 && (((rd_T60 bt144.1 0).f1) == 1 && ((((rd_T60 bt144.1 0).f2).toList) == a1.toList && ((((rd_T60 bt144.1 0).f3).toList) == ([] : List UInt8))))) = true then (if 0 = 0 then (some (bt148.2 == 70)) else (if ((rd_T60 bt144.1 0).f1) = 3 then (some (bt148.2 == 70)) else (some false))) else (some false)) else (none)) else (some false)) else (some false))) else (none)))) else (none)) else (none)) else (none)) else (none)) else (none)) else (none)) = some r := by rw [if_neg (show ¬ (false = true) by decide)] at H; exact H
          clear H
          have H := H1
          clear H1
          by_cases c14 : 1 + a0.size ≤ 9223372036854775807
          · rw [if_pos c14] at H
            have c14b0 := eq_true c14
            have c14b1 : decide (1 + a0.size ≤ 9223372036854775807) = true := decide_eq_true c14
            try have c14b2 : (9223372036854775807 < 1 + a0.size) = False := eq_false (Nat.not_lt.2 c14)
            by_cases c15 : ((⟨#[60]⟩ : ByteArray) ++ a0).size + 1 ≤ 9223372036854775807
            · rw [if_pos c15] at H
              have c15e := c15
              (try simp only [ByteArray.size_append, gt_iff_lt, ge_iff_le, show (⟨#[60]⟩ : ByteArray).size = 1 from rfl] at c15e)
              (try simp only [Int.natCast_add, Int.cast_ofNat_Int] at c15e)
              (try (have c15e2 := decide_eq_true c15e))
              (try replace c15e := eq_true c15e)
              have c15b0 := eq_true c15
              have c15b1 : decide (((⟨#[60]⟩ : ByteArray) ++ a0).size + 1 ≤ 9223372036854775807) = true := decide_eq_true c15
              try have c15b2 : (9223372036854775807 < ((⟨#[60]⟩ : ByteArray) ++ a0).size + 1) = False := eq_false (Nat.not_lt.2 c15)
              have c15b8 : (9223372036854775807 < 1 + a0.size + 1) = False := by have h_ := c15; simp only [ByteArray.size_append] at h_; exact eq_false (Nat.not_lt.2 h_)
              by_cases c16 : (((⟨#[60]⟩ : ByteArray) ++ a0) ++ (⟨#[58]⟩ : ByteArray)).size + a1.size ≤ 9223372036854775807
              · rw [if_pos c16] at H
                have c16e := c16
                (try simp only [ByteArray.size_append, gt_iff_lt, ge_iff_le, show (⟨#[58]⟩ : ByteArray).size = 1 from rfl, show (⟨#[60]⟩ : ByteArray).size = 1 from rfl] at c16e)
                (try simp only [Int.natCast_add, Int.cast_ofNat_Int] at c16e)
                (try (have c16e2 := decide_eq_true c16e))
                (try replace c16e := eq_true c16e)
                have c16b0 := eq_true c16
                have c16b1 : decide ((((⟨#[60]⟩ : ByteArray) ++ a0) ++ (⟨#[58]⟩ : ByteArray)).size + a1.size ≤ 9223372036854775807) = true := decide_eq_true c16
                try have c16b2 : (9223372036854775807 < (((⟨#[60]⟩ : ByteArray) ++ a0) ++ (⟨#[58]⟩ : ByteArray)).size + a1.size) = False := eq_false (Nat.not_lt.2 c16)
                have c16b8 : (9223372036854775807 < 1 + a0.size + 1 + a1.size) = False := by have h_ := c16; simp only [ByteArray.size_append] at h_; exact eq_false (Nat.not_lt.2 h_)
                by_cases c17 : ((((⟨#[60]⟩ : ByteArray) ++ a0) ++ (⟨#[58]⟩ : ByteArray)) ++ a1).size + 7 ≤ 9223372036854775807
                · rw [if_pos c17] at H
                  have c17e := c17
                  (try simp only [ByteArray.size_append, gt_iff_lt, ge_iff_le, show (⟨#[58]⟩ : ByteArray).size = 1 from rfl, show (⟨#[60]⟩ : ByteArray).size = 1 from rfl] at c17e)
                  (try simp only [Int.natCast_add, Int.cast_ofNat_Int] at c17e)
                  (try (have c17e2 := decide_eq_true c17e))
                  (try replace c17e := eq_true c17e)
                  have c17b0 := eq_true c17
                  have c17b1 : decide (((((⟨#[60]⟩ : ByteArray) ++ a0) ++ (⟨#[58]⟩ : ByteArray)) ++ a1).size + 7 ≤ 9223372036854775807) = true := decide_eq_true c17
                  try have c17b2 : (9223372036854775807 < ((((⟨#[60]⟩ : ByteArray) ++ a0) ++ (⟨#[58]⟩ : ByteArray)) ++ a1).size + 7) = False := eq_false (Nat.not_lt.2 c17)
                  have c17b8 : (9223372036854775807 < 1 + a0.size + 1 + a1.size + 7) = False := by have h_ := c17; simp only [ByteArray.size_append] at h_; exact eq_false (Nat.not_lt.2 h_)
                  by_cases c18 : (((((⟨#[60]⟩ : ByteArray) ++ a0) ++ (⟨#[58]⟩ : ByteArray)) ++ a1) ++ (⟨#[32, 120, 109, 108, 110, 115, 58]⟩ : ByteArray)).size + a0.size ≤ 9223372036854775807
                  · rw [if_pos c18] at H
                    have c18e := c18
                    (try simp only [ByteArray.size_append, gt_iff_lt, ge_iff_le, show (⟨#[32, 120, 109, 108, 110, 115, 58]⟩ : ByteArray).size = 7 from rfl, show (⟨#[58]⟩ : ByteArray).size = 1 from rfl, show (⟨#[60]⟩ : ByteArray).size = 1 from rfl] at c18e)
                    (try simp only [Int.natCast_add, Int.cast_ofNat_Int] at c18e)
                    (try (have c18e2 := decide_eq_true c18e))
                    (try replace c18e := eq_true c18e)
                    have c18b0 := eq_true c18
                    have c18b1 : decide ((((((⟨#[60]⟩ : ByteArray) ++ a0) ++ (⟨#[58]⟩ : ByteArray)) ++ a1) ++ (⟨#[32, 120, 109, 108, 110, 115, 58]⟩ : ByteArray)).size + a0.size ≤ 9223372036854775807) = true := decide_eq_true c18
                    try have c18b2 : (9223372036854775807 < (((((⟨#[60]⟩ : ByteArray) ++ a0) ++ (⟨#[58]⟩ : ByteArray)) ++ a1) ++ (⟨#[32, 120, 109, 108, 110, 115, 58]⟩ : ByteArray)).size + a0.size) = False := eq_false (Nat.not_lt.2 c18)
                    have c18b8 : (9223372036854775807 < 1 + a0.size + 1 + a1.size + 7 + a0.size) = False := by have h_ := c18; simp only [ByteArray.size_append] at h_; exact eq_false (Nat.not_lt.2 h_)
                    by_cases c19 : ((((((⟨#[60]⟩ : ByteArray) ++ a0) ++ (⟨#[58]⟩ : ByteArray)) ++ a1) ++ (⟨#[32, 120, 109, 108, 110, 115, 58]⟩ : ByteArray)) ++ a0).size + 9 ≤ 9223372036854775807
                    · rw [if_pos c19] at H
                      have c19e := c19
                      (try simp only [ByteArray.size_append, gt_iff_lt, ge_iff_le, show (⟨#[32, 120, 109, 108, 110, 115, 58]⟩ : ByteArray).size = 7 from rfl, show (⟨#[58]⟩ : ByteArray).size = 1 from rfl, show (⟨#[60]⟩ : ByteArray).size = 1 from rfl] at c19e)
                      (try simp only [Int.natCast_add, Int.cast_ofNat_Int] at c19e)
                      (try (have c19e2 := decide_eq_true c19e))
                      (try replace c19e := eq_true c19e)
                      have c19b0 := eq_true c19
                      have c19b1 : decide (((((((⟨#[60]⟩ : ByteArray) ++ a0) ++ (⟨#[58]⟩ : ByteArray)) ++ a1) ++ (⟨#[32, 120, 109, 108, 110, 115, 58]⟩ : ByteArray)) ++ a0).size + 9 ≤ 9223372036854775807) = true := decide_eq_true c19
                      try have c19b2 : (9223372036854775807 < ((((((⟨#[60]⟩ : ByteArray) ++ a0) ++ (⟨#[58]⟩ : ByteArray)) ++ a1) ++ (⟨#[32, 120, 109, 108, 110, 115, 58]⟩ : ByteArray)) ++ a0).size + 9) = False := eq_false (Nat.not_lt.2 c19)
                      have c19b8 : (9223372036854775807 < 1 + a0.size + 1 + a1.size + 7 + a0.size + 9) = False := by have h_ := c19; simp only [ByteArray.size_append] at h_; exact eq_false (Nat.not_lt.2 h_)
                      by_cases c20 : a2 = true
                      · subst c20
                        have H1 : (if 9 + a0.size ≤ 9223372036854775807 then (if ((⟨#[60, 111, 32, 120, 109, 108, 110, 115, 58]⟩ : ByteArray) ++ a0).size + 23 ≤ 9223372036854775807 then (if (((⟨#[60, 111, 32, 120, 109, 108, 110, 115, 58]⟩ : ByteArray) ++ a0) ++ (⟨#[61, 39, 68, 65, 86, 58, 39, 32, 120, 109, 108, 110, 115, 61, 39, 117, 114, 110, 58, 120, 39, 62, 60]⟩ : ByteArray)).size + a0.size ≤ 9223372036854775807 then (if ((((⟨#[60, 111, 32, 120, 109, 108, 110, 115, 58]⟩ : ByteArray) ++ a0) ++ (⟨#[61, 39, 68, 65, 86, 58, 39, 32, 120, 109, 108, 110, 115, 61, 39, 117, 114, 110, 58, 120, 39, 62, 60]⟩ : ByteArray)) ++ a0).size + 1 ≤ 9223372036854775807 then (if (((((⟨#[60, 111, 32, 120, 109, 108, 110, 115, 58]⟩ : ByteArray) ++ a0) ++ (⟨#[61, 39, 68, 65, 86, 58, 39, 32, 120, 109, 108, 110, 115, 61, 39, 117, 114, 110, 58, 120, 39, 62, 60]⟩ : ByteArray)) ++ a0) ++ (⟨#[58]⟩ : ByteArray)).size + a1.size ≤ 9223372036854775807 then (if ((((((⟨#[60, 111, 32, 120, 109, 108, 110, 115, 58]⟩ : ByteArray) ++ a0) ++ (⟨#[61, 39, 68, 65, 86, 58, 39, 32, 120, 109, 108, 110, 115, 61, 39, 117, 114, 110, 58, 120, 39, 62, 60]⟩ : ByteArray)) ++ a0) ++ (⟨#[58]⟩ : ByteArray)) ++ a1).size + 6 ≤ 9223372036854775807 then ((xml_Parse.f (((((((⟨#[60, 111, 32, 120, 109, 108, 110, 115, 58]⟩ : ByteArray) ++ a0) ++ (⟨#[61, 39, 68, 65, 86, 58, 39, 32, 120, 109, 108, 110, 115, 61, 39, 117, 114, 110, 58, 120, 39, 62, 60]⟩ : ByteArray)) ++ a0) ++ (⟨#[58]⟩ : ByteArray)) ++ a1) ++ (⟨#[47, 62, 60, 47, 111, 62]⟩ : ByteArray))).bind fun bt134 => (if ((((⟨#[60]⟩ : ByteArray) ++ a0) ++ (⟨#[58]⟩ : ByteArray)) ++ a1).size + 2 ≤ 9223372036854775807 then ((xml_Parse.f (((((⟨#[60]⟩ : ByteArray) ++ a0) ++ (⟨#[58]⟩ : ByteArray)) ++ a1) ++ (⟨#[47, 62]⟩ : ByteArray))).bind fun bt138 => (if bt134.2 = 0 then (if (bt134.1.length : Int) = (2 + (2 * 1)) then (if 1 < (bt134.1.length : Int) then (if (((rd_T60 bt134.1 1).f0) == 1 && (((rd_T60 bt134.1 1).f1) == 1 && ((((rd_T60 bt134.1 1).f2).toList) == a1.toList && ((((rd_T60 bt134.1 1).f3).toList) == ([] : List UInt8))))) = true then (if 1 = 0 then (some (bt138.2 == 70)) else (if 0 < (bt134.1.length : Int) then (if ((rd_T60 bt134.1 0).f1) = 3 then (some (bt138.2 == 70)) else (some false)) else (none))) else (some false)) else (none)) else (some false)) else (some false))) else (none))) else (none)) else (none)) else (none)) else (none)) else (none)) else (none)) = some r := by rw [if_pos rfl] at H; exact H
                        clear H
                        have H := H1
                        clear H1
                        by_cases c21 : 9 + a0.size ≤ 9223372036854775807
                        · rw [if_pos c21] at H
                          have c21b0 := eq_true c21
                          have c21b1 : decide (9 + a0.size ≤ 9223372036854775807) = true := decide_eq_true c21
                          try have c21b2 : (9223372036854775807 < 9 + a0.size) = False := eq_false (Nat.not_lt.2 c21)
                          by_cases c22 : ((⟨#[60, 111, 32, 120, 109, 108, 110, 115, 58]⟩ : ByteArray) ++ a0).size + 23 ≤ 9223372036854775807
                          · rw [if_pos c22] at H
                            have c22e := c22
                            (try simp only [ByteArray.size_append, gt_iff_lt, ge_iff_le, show (⟨#[60, 111, 32, 120, 109, 108, 110, 115, 58]⟩ : ByteArray).size = 9 from rfl] at c22e)
                            (try simp only [Int.natCast_add, Int.cast_ofNat_Int] at c22e)
                            (try (have c22e2 := decide_eq_true c22e))
                            (try replace c22e := eq_true c22e)
                            have c22b0 := eq_true c22
                            have c22b1 : decide (((⟨#[60, 111, 32, 120, 109, 108, 110, 115, 58]⟩ : ByteArray) ++ a0).size + 23 ≤ 9223372036854775807) = true := decide_eq_true c22
                            try have c22b2 : (9223372036854775807 < ((⟨#[60, 111, 32, 120, 109, 108, 110, 115, 58]⟩ : ByteArray) ++ a0).size + 23) = False := eq_false (Nat.not_lt.2 c22)
                            have c22b8 : (9223372036854775807 < 9 + a0.size + 23) = False := by have h_ := c22; simp only [ByteArray.size_append] at h_; exact eq_false (Nat.not_lt.2 h_)
                            by_cases c23 : (((⟨#[60, 111, 32, 120, 109, 108, 110, 115, 58]⟩ : ByteArray) ++ a0) ++ (⟨#[61, 39, 68, 65, 86, 58, 39, 32, 120, 109, 108, 110, 115, 61, 39, 117, 114, 110, 58, 120, 39, 62, 60]⟩ : ByteArray)).size + a0.size ≤ 9223372036854775807
                            · rw [if_pos c23] at H
                              have c23e := c23
                              (try simp only [ByteArray.size_append, gt_iff_lt, ge_iff_le, show (⟨#[60, 111, 32, 120, 109, 108, 110, 115, 58]⟩ : ByteArray).size = 9 from rfl, show (⟨#[61, 39, 68, 65, 86, 58, 39, 32, 120, 109, 108, 110, 115, 61, 39, 117, 114, 110, 58, 120, 39, 62, 60]⟩ : ByteArray).size = 23 from rfl] at c23e)
                              (try simp only [Int.natCast_add, Int.cast_ofNat_Int] at c23e)
                              (try (have c23e2 := decide_eq_true c23e))
                              (try replace c23e := eq_true c23e)
                              have c23b0 := eq_true c23
                              have c23b1 : decide ((((⟨#[60, 111, 32, 120, 109, 108, 110, 115, 58]⟩ : ByteArray) ++ a0) ++ (⟨#[61, 39, 68, 65, 86, 58, 39, 32, 120, 109, 108, 110, 115, 61, 39, 117, 114, 110, 58, 120, 39, 62, 60]⟩ : ByteArray)).size + a0.size ≤ 9223372036854775807) = true := decide_eq_true c23
                              try have c23b2 : (9223372036854775807 < (((⟨#[60, 111, 32, 120, 109, 108, 110, 115, 58]⟩ : ByteArray) ++ a0) ++ (⟨#[61, 39, 68, 65, 86, 58, 39, 32, 120, 109, 108, 110, 115, 61, 39, 117, 114, 110, 58, 120, 39, 62, 60]⟩ : ByteArray)).size + a0.size) = False := eq_false (Nat.not_lt.2 c23)
                              have c23b8 : (9223372036854775807 < 9 + a0.size + 23 + a0.size) = False := by have h_ := c23; simp only [ByteArray.size_append] at h_; exact eq_false (Nat.not_lt.2 h_)
                              by_cases c24 : ((((⟨#[60, 111, 32, 120, 109, 108, 110, 115, 58]⟩ : ByteArray) ++ a0) ++ (⟨#[61, 39, 68, 65, 86, 58, 39, 32, 120, 109, 108, 110, 115, 61, 39, 117, 114, 110, 58, 120, 39, 62, 60]⟩ : ByteArray)) ++ a0).size + 1 ≤ 9223372036854775807
                              · rw [if_pos c24] at H
                                have c24e := c24
                                (try simp only [ByteArray.size_append, gt_iff_lt, ge_iff_le, show (⟨#[60, 111, 32, 120, 109, 108, 110, 115, 58]⟩ : ByteArray).size = 9 from rfl, show (⟨#[61, 39, 68, 65, 86, 58, 39, 32, 120, 109, 108, 110, 115, 61, 39, 117, 114, 110, 58, 120, 39, 62, 60]⟩ : ByteArray).size = 23 from rfl] at c24e)
                                (try simp only [Int.natCast_add, Int.cast_ofNat_Int] at c24e)
                                (try (have c24e2 := decide_eq_true c24e))
                                (try replace c24e := eq_true c24e)
                                have c24b0 := eq_true c24
                                have c24b1 : decide (((((⟨#[60, 111, 32, 120, 109, 108, 110, 115, 58]⟩ : ByteArray) ++ a0) ++ (⟨#[61, 39, 68, 65, 86, 58, 39, 32, 120, 109, 108, 110, 115, 61, 39, 117, 114, 110, 58, 120, 39, 62, 60]⟩ : ByteArray)) ++ a0).size + 1 ≤ 9223372036854775807) = true := decide_eq_true c24
                                try have c24b2 : (9223372036854775807 < ((((⟨#[60, 111, 32, 120, 109, 108, 110, 115, 58]⟩ : ByteArray) ++ a0) ++ (⟨#[61, 39, 68, 65, 86, 58, 39, 32, 120, 109, 108, 110, 115, 61, 39, 117, 114, 110, 58, 120, 39, 62, 60]⟩ : ByteArray)) ++ a0).size + 1) = False := eq_false (Nat.not_lt.2 c24)
                                have c24b8 : (9223372036854775807 < 9 + a0.size + 23 + a0.size + 1) = False := by have h_ := c24; simp only [ByteArray.size_append] at h_; exact eq_false (Nat.not_lt.2 h_)
                                by_cases c25 : (((((⟨#[60, 111, 32, 120, 109, 108, 110, 115, 58]⟩ : ByteArray) ++ a0) ++ (⟨#[61, 39, 68, 65, 86, 58, 39, 32, 120, 109, 108, 110, 115, 61, 39, 117, 114, 110, 58, 120, 39, 62, 60]⟩ : ByteArray)) ++ a0) ++ (⟨#[58]⟩ : ByteArray)).size + a1.size ≤ 9223372036854775807
                                · rw [if_pos c25] at H
                                  have c25e := c25
                                  (try simp only [ByteArray.size_append, gt_iff_lt, ge_iff_le, show (⟨#[58]⟩ : ByteArray).size = 1 from rfl, show (⟨#[60, 111, 32, 120, 109, 108, 110, 115, 58]⟩ : ByteArray).size = 9 from rfl, show (⟨#[61, 39, 68, 65, 86, 58, 39, 32, 120, 109, 108, 110, 115, 61, 39, 117, 114, 110, 58, 120, 39, 62, 60]⟩ : ByteArray).size = 23 from rfl] at c25e)
                                  (try simp only [Int.natCast_add, Int.cast_ofNat_Int] at c25e)
                                  (try (have c25e2 := decide_eq_true c25e))
                                  (try replace c25e := eq_true c25e)
                                  have c25b0 := eq_true c25
                                  have c25b1 : decide ((((((⟨#[60, 111, 32, 120, 109, 108, 110, 115, 58]⟩ : ByteArray) ++ a0) ++ (⟨#[61, 39, 68, 65, 86, 58, 39, 32, 120, 109, 108, 110, 115, 61, 39, 117, 114, 110, 58, 120, 39, 62, 60]⟩ : ByteArray)) ++ a0) ++ (⟨#[58]⟩ : ByteArray)).size + a1.size ≤ 9223372036854775807) = true := decide_eq_true c25
                                  try have c25b2 : (9223372036854775807 < (((((⟨#[60, 111, 32, 120, 109, 108, 110, 115, 58]⟩ : ByteArray) ++ a0) ++ (⟨#[61, 39, 68, 65, 86, 58, 39, 32, 120, 109, 108, 110, 115, 61, 39, 117, 114, 110, 58, 120, 39, 62, 60]⟩ : ByteArray)) ++ a0) ++ (⟨#[58]⟩ : ByteArray)).size + a1.size) = False := eq_false (Nat.not_lt.2 c25)
                                  have c25b8 : (9223372036854775807 < 9 + a0.size + 23 + a0.size + 1 + a1.size) = False := by have h_ := c25; simp only [ByteArray.size_append] at h_; exact eq_false (Nat.not_lt.2 h_)
                                  by_cases c26 : ((((((⟨#[60, 111, 32, 120, 109, 108, 110, 115, 58]⟩ : ByteArray) ++ a0) ++ (⟨#[61, 39, 68, 65, 86, 58, 39, 32, 120, 109, 108, 110, 115, 61, 39, 117, 114, 110, 58, 120, 39, 62, 60]⟩ : ByteArray)) ++ a0) ++ (⟨#[58]⟩ : ByteArray)) ++ a1).size + 6 ≤ 9223372036854775807
                                  · rw [if_pos c26] at H
                                    have c26e := c26
                                    (try simp only [ByteArray.size_append, gt_iff_lt, ge_iff_le, show (⟨#[58]⟩ : ByteArray).size = 1 from rfl, show (⟨#[60, 111, 32, 120, 109, 108, 110, 115, 58]⟩ : ByteArray).size = 9 from rfl, show (⟨#[61, 39, 68, 65, 86, 58, 39, 32, 120, 109, 108, 110, 115, 61, 39, 117, 114, 110, 58, 120, 39, 62, 60]⟩ : ByteArray).size = 23 from rfl] at c26e)
                                    (try simp only [Int.natCast_add, Int.cast_ofNat_Int] at c26e)
                                    (try (have c26e2 := decide_eq_true c26e))
                                    (try replace c26e := eq_true c26e)
                                    have c26b0 := eq_true c26
                                    have c26b1 : decide (((((((⟨#[60, 111, 32, 120, 109, 108, 110, 115, 58]⟩ : ByteArray) ++ a0) ++ (⟨#[61, 39, 68, 65, 86, 58, 39, 32, 120, 109, 108, 110, 115, 61, 39, 117, 114, 110, 58, 120, 39, 62, 60]⟩ : ByteArray)) ++ a0) ++ (⟨#[58]⟩ : ByteArray)) ++ a1).size + 6 ≤ 9223372036854775807) = true := decide_eq_true c26
                                    try have c26b2 : (9223372036854775807 < ((((((⟨#[60, 111, 32, 120, 109, 108, 110, 115, 58]⟩ : ByteArray) ++ a0) ++ (⟨#[61, 39, 68, 65, 86, 58, 39, 32, 120, 109, 108, 110, 115, 61, 39, 117, 114, 110, 58, 120, 39, 62, 60]⟩ : ByteArray)) ++ a0) ++ (⟨#[58]⟩ : ByteArray)) ++ a1).size + 6) = False := eq_false (Nat.not_lt.2 c26)
                                    have c26b8 : (9223372036854775807 < 9 + a0.size + 23 + a0.size + 1 + a1.size + 6) = False := by have h_ := c26; simp only [ByteArray.size_append] at h_; exact eq_false (Nat.not_lt.2 h_)
                                    replace H := Option.bind_eq_some_iff.mp H
                                    obtain ⟨⟨t134, t135⟩, A270, H⟩ := H
                                    replace H : (if ((((⟨#[60]⟩ : ByteArray) ++ a0) ++ (⟨#[58]⟩ : ByteArray)) ++ a1).size + 2 ≤ 9223372036854775807 then ((xml_Parse.f (((((⟨#[60]⟩ : ByteArray) ++ a0) ++ (⟨#[58]⟩ : ByteArray)) ++ a1) ++ (⟨#[47, 62]⟩ : ByteArray))).bind fun bt138 => (if t135 = 0 then (if (t134.length : Int) = (2 + (2 * 1)) then (if 1 < (t134.length : Int) then (if (((rd_T60 t134 1).f0) == 1 && (((rd_T60 t134 1).f1) == 1 && ((((rd_T60 t134 1).f2).toList) == a1.toList && ((((rd_T60 t134 1).f3).toList) == ([] : List UInt8))))) = true then (if 1 = 0 then (some (bt138.2 == 70)) else (if 0 < (t134.length : Int) then (if ((rd_T60 t134 0).f1) = 3 then (some (bt138.2 == 70)) else (some false)) else (none))) else (some false)) else (none)) else (some false)) else (some false))) else (none)) = some r := H
                                    have A27 := Aside0.mk A270
                                    clear A270
                                    by_cases c28 : ((((⟨#[60]⟩ : ByteArray) ++ a0) ++ (⟨#[58]⟩ : ByteArray)) ++ a1).size + 2 ≤ 9223372036854775807
                                    · rw [if_pos c28] at H
                                      have c28e := c28
                                      (try simp only [ByteArray.size_append, gt_iff_lt, ge_iff_le, show (⟨#[58]⟩ : ByteArray).size = 1 from rfl, show (⟨#[60]⟩ : ByteArray).size = 1 from rfl] at c28e)
                                      (try simp only [Int.natCast_add, Int.cast_ofNat_Int] at c28e)
                                      (try (have c28e2 := decide_eq_true c28e))
                                      (try replace c28e := eq_true c28e)
                                      have c28b0 := eq_true c28
                                      have c28b1 : decide (((((⟨#[60]⟩ : ByteArray) ++ a0) ++ (⟨#[58]⟩ : ByteArray)) ++ a1).size + 2 ≤ 9223372036854775807) = true := decide_eq_true c28
                                      try have c28b2 : (9223372036854775807 < ((((⟨#[60]⟩ : ByteArray) ++ a0) ++ (⟨#[58]⟩ : ByteArray)) ++ a1).size + 2) = False := eq_false (Nat.not_lt.2 c28)
                                      have c28b8 : (9223372036854775807 < 1 + a0.size + 1 + a1.size + 2) = False := by have h_ := c28; simp only [ByteArray.size_append] at h_; exact eq_false (Nat.not_lt.2 h_)
                                      replace H := Option.bind_eq_some_iff.mp H
                                      obtain ⟨⟨t138, t139⟩, A290, H⟩ := H
                                      replace H : (if t135 = 0 then (if (t134.length : Int) = (2 + (2 * 1)) then (if 1 < (t134.length : Int) then (if (((rd_T60 t134 1).f0) == 1 && (((rd_T60 t134 1).f1) == 1 && ((((rd_T60 t134 1).f2).toList) == a1.toList && ((((rd_T60 t134 1).f3).toList) == ([] : List UInt8))))) = true then (if 1 = 0 then (some (t139 == 70)) else (if 0 < (t134.length : Int) then (if ((rd_T60 t134 0).f1) = 3 then (some (t139 == 70)) else (some false)) else (none))) else (some false)) else (none)) else (some false)) else (some false)) = some r := H
                                      have A29 := Aside0.mk A290
                                      clear A290
                                      by_cases c30 : t135 = 0
                                      · rw [if_pos c30] at H
                                        have c30b0 : (t135 == 0) = true := beq_iff_eq.mpr c30
                                        have c30b1 : (t135 != 0) = false := bne_eq_false_iff_eq.mpr c30
                                        clear c30
                                        by_cases c31 : (t134.length : Int) = (2 + (2 * 1))
                                        · rw [if_pos c31] at H
                                          have c31b0 : ((t134.length : Int) == (2 + (2 * 1))) = true := beq_iff_eq.mpr c31
                                          have c31b7 : ((t134.length : Int) == 4) = true := c31b0
                                          have c31b8 : ((t134.length : Int) = 4) = True := eq_true c31
                                          have c31b7 : ((t134.length : Int) == 4) = true := c31b0
                                          have c31b8 : ((t134.length : Int) = 4) = True := eq_true c31
                                          have c31b1 : ((t134.length : Int) != (2 + (2 * 1))) = false := bne_eq_false_iff_eq.mpr c31
                                          clear c31
                                          by_cases c32 : 1 < (t134.length : Int)
                                          · rw [if_pos c32] at H
                                            have c32b0 : decide (1 < (t134.length : Int)) = true := decide_eq_true c32
                                            have c32b1 : decide (1 < t134.length) = true := decide_eq_true (by omega)
                                            clear c32
                                            by_cases c33 : (((rd_T60 t134 1).f0) == 1 && (((rd_T60 t134 1).f1) == 1 && ((((rd_T60 t134 1).f2).toList) == a1.toList && ((((rd_T60 t134 1).f3).toList) == ([] : List UInt8))))) = true
                                            · rw [if_pos c33] at H
                                              have c33b0 : (((rd_T60 t134 1).f0) == 1 && (((rd_T60 t134 1).f1) == 1 && ((((rd_T60 t134 1).f2).toList) == a1.toList && ((((rd_T60 t134 1).f3).toList) == ([] : List UInt8))))) = true := c33
                                              have c33b9 : (((rd_T60 t134 1).f0) = 1 ∧ (((rd_T60 t134 1).f1) = 1 ∧ ((((rd_T60 t134 1).f2).toList) = a1.toList ∧ ((((rd_T60 t134 1).f3).toList) = ([] : List UInt8))))) := by simpa using c33
                                              (try (have c33b1 : decide (((rd_T60 t134 1).f0) = 1 && (((rd_T60 t134 1).f1) == 1 && ((((rd_T60 t134 1).f2).toList) == a1.toList && ((((rd_T60 t134 1).f3).toList) == ([] : List UInt8))))) = true := by simpa using c33))
                                              (try (have c33b2 : (((rd_T60 t134 1).f0) == 1 && (((rd_T60 t134 1).f1) == 1 && ((((rd_T60 t134 1).f2).toList) == a1.toList && ((((rd_T60 t134 1).f3).toList) == ([] : List UInt8))))) = true := by simpa using c33))
                                              clear c33
                                              by_cases c34 : 1 = 0
                                              · exact absurd c34 (by decide)
                                              · rw [if_neg c34] at H
                                                have c34b0 : (1 == 0) = false := beq_eq_false_iff_ne.mpr c34
                                                have c34b1 : (1 != 0) = true := bne_iff_ne.mpr c34
                                                by_cases c38 : 0 < (t134.length : Int)
                                                · rw [if_pos c38] at H
                                                  have c38b0 : decide (0 < (t134.length : Int)) = true := decide_eq_true c38
                                                  have c38b1 : decide (0 < t134.length) = true := decide_eq_true (by omega)
                                                  clear c38
                                                  by_cases c39 : ((rd_T60 t134 0).f1) = 3
                                                  · rw [if_pos c39] at H
                                                    have c39b0 : (((rd_T60 t134 0).f1) == 3) = true := beq_iff_eq.mpr c39
                                                    have c39b1 : (((rd_T60 t134 0).f1) != 3) = false := bne_eq_false_iff_eq.mpr c39
                                                    clear c39
                                                    obtain rfl := Option.some.inj H
                                                    go_wp2_with (first | ((with_reducible refine gate_callee (f := 25) rfl ?_); refine goesL_ (some 60) rfl rfl Tryz.func25 (by kernel_rfl) rfl #[.string (((((((⟨#[60, 111, 32, 120, 109, 108, 110, 115, 58]⟩ : ByteArray) ++ a0) ++ (⟨#[61, 39, 68, 65, 86, 58, 39, 32, 120, 109, 108, 110, 115, 61, 39, 117, 114, 110, 58, 120, 39, 62, 60]⟩ : ByteArray)) ++ a0) ++ (⟨#[58]⟩ : ByteArray)) ++ a1) ++ (⟨#[47, 62, 60, 47, 111, 62]⟩ : ByteArray))] rfl (by (try simp only [List.map_toArray, List.map_cons, List.map_nil]); first | done | rfl | (simp only [List.length_drop, List.length_take]; rfl)) ?_; (with_reducible refine (xml_Parse.calls (((((((⟨#[60, 111, 32, 120, 109, 108, 110, 115, 58]⟩ : ByteArray) ++ a0) ++ (⟨#[61, 39, 68, 65, 86, 58, 39, 32, 120, 109, 108, 110, 115, 61, 39, 117, 114, 110, 58, 120, 39, 62, 60]⟩ : ByteArray)) ++ a0) ++ (⟨#[58]⟩ : ByteArray)) ++ a1) ++ (⟨#[47, 62, 60, 47, 111, 62]⟩ : ByteArray)) t134 t135 _ ?side1 A27.out).mono ?_); (case side1 => exact LaidM.below HT.out (by repeat (first | (with_reducible first | exact HB.out | apply below_alloc | apply pw_below_drewN | apply below_drew1) | exact HB.out))); rintro e w40 ⟨v136, rfl, ho0, hb⟩; refine ⟨_, rfl, ?_⟩; have n0_ := Aside0.mk (Kd.R_lower ho0 (below_size (by repeat (first | (with_reducible first | exact HB.out | apply below_alloc | apply pw_below_drewN | apply below_drew1) | exact HB.out)))); have n1_ := Aside0.mk (below_step (by repeat (first | (with_reducible first | exact HB.out | apply below_alloc | apply pw_below_drewN | apply below_drew1) | exact HB.out)) hb); clear HB; have HO137 := n0_; have HB := n1_; clear n0_ n1_; (try clear hb); (try clear hb2); (try clear hk); (try clear hi); (try clear ho0)) | ((with_reducible refine gate_callee (f := 25) rfl ?_); refine goesL_ (some 70) rfl rfl Tryz.func25 (by kernel_rfl) rfl #[.string (((((⟨#[60]⟩ : ByteArray) ++ a0) ++ (⟨#[58]⟩ : ByteArray)) ++ a1) ++ (⟨#[47, 62]⟩ : ByteArray))] rfl (by (try simp only [List.map_toArray, List.map_cons, List.map_nil]); first | done | rfl | (simp only [List.length_drop, List.length_take]; rfl)) ?_; (with_reducible refine (xml_Parse.calls (((((⟨#[60]⟩ : ByteArray) ++ a0) ++ (⟨#[58]⟩ : ByteArray)) ++ a1) ++ (⟨#[47, 62]⟩ : ByteArray)) t138 t139 _ ?side1 A29.out).mono ?_); (case side1 => exact LaidM.below HT.out (by repeat (first | (with_reducible first | exact HB.out | apply below_alloc | apply pw_below_drewN | apply below_drew1) | exact HB.out))); rintro e w41 ⟨v140, rfl, ho0, hb⟩; refine ⟨_, rfl, ?_⟩; have n0_ := Aside0.mk (Kd.R_elder' (by (with_reducible repeat (first | apply Kd.R_alloc | apply Kd.R_drewN | apply Kd.R_drew)); exact HO137.out) (Kd.R_base ho0) hb); have n1_ := Aside0.mk (Kd.R_lower (Kd.R_new' ho0 (Kd.R_lt (by (with_reducible repeat (first | apply Kd.R_alloc | apply Kd.R_drewN | apply Kd.R_drew)); exact HO137.out))) (below_size (by repeat (first | (with_reducible first | exact HB.out | apply below_alloc | apply pw_below_drewN | apply below_drew1) | exact HB.out)))); have n2_ := Aside0.mk (below_step (by repeat (first | (with_reducible first | exact HB.out | apply below_alloc | apply pw_below_drewN | apply below_drew1) | exact HB.out)) hb); clear HO137; clear HB; have HO137 := n0_; have HO141 := n1_; have HB := n2_; clear n0_ n1_ n2_; (try clear hb); (try clear hb2); (try clear hk); (try clear hi); (try clear ho0); obtain ⟨Ao42, co42, eo42⟩ := Kd.R_slice HO137.out; subst eo42; have p142 : 0 ≤ (1 : Int) := (by omega); have q142 : 1 < (t134.length : Int) := of_decide_eq_true (by first | (with_reducible assumption) | assumption); obtain ⟨ad142, e142, hx142_0, hx142_1, hx142_2, hx142_3⟩ := at_T60 (Kd.R_reads' HO137.out).2.2 1 p142 q142; cases e142; (try simp only [show (1 : Int).toNat = 1 from rfl, Nat.reduceMul, Nat.reduceEqDiff, Go.Addr.add, ↓reduceIte] at hx142_0); (try simp only [show (1 : Int).toNat = 1 from rfl, Nat.reduceMul, Nat.reduceEqDiff, Go.Addr.add, ↓reduceIte] at hx142_1); (try simp only [show (1 : Int).toNat = 1 from rfl, Nat.reduceMul, Nat.reduceEqDiff, Go.Addr.add, ↓reduceIte] at hx142_2); (try simp only [show (1 : Int).toNat = 1 from rfl, Nat.reduceMul, Nat.reduceEqDiff, Go.Addr.add, ↓reduceIte] at hx142_3); have qi142 : (1 < t134.length) = True := eq_true (by omega); (try rw [show ((1 : Int)).toNat = 1 from rfl] at hx142_0); (try rw [show 1 * 4 = 4 from rfl] at hx142_0); (try rw [show ((1 : Int)).toNat = 1 from rfl] at hx142_1); (try rw [show 1 * 4 = 4 from rfl] at hx142_1); (try rw [show ((1 : Int)).toNat = 1 from rfl] at hx142_2); (try rw [show 1 * 4 = 4 from rfl] at hx142_2); (try rw [show ((1 : Int)).toNat = 1 from rfl] at hx142_3); (try rw [show 1 * 4 = 4 from rfl] at hx142_3); replace p142 := eq_true p142; replace q142 := eq_true q142; have p143 : 0 ≤ (0 : Int) := (by omega); have q143 : 0 < (t134.length : Int) := of_decide_eq_true (by first | (with_reducible assumption) | assumption); obtain ⟨ad143, e143, hx143_0, hx143_1, hx143_2, hx143_3⟩ := at_T60 (Kd.R_reads' HO137.out).2.2 0 p143 q143; obtain rfl : ad142 = ad143 := (by injection e143); have qi143 : (0 < t134.length) = True := eq_true (by omega); (try rw [show ((0 : Int)).toNat = 0 from rfl] at hx143_0); (try rw [show 0 * 4 = 0 from rfl] at hx143_0); (try rw [Addr.add_zero'] at hx143_0); (try rw [show ((0 : Int)).toNat = 0 from rfl] at hx143_1); (try rw [show 0 * 4 = 0 from rfl] at hx143_1); (try rw [Addr.add_zero'] at hx143_1); (try rw [show ((0 : Int)).toNat = 0 from rfl] at hx143_2); (try rw [show 0 * 4 = 0 from rfl] at hx143_2); (try rw [Addr.add_zero'] at hx143_2); (try rw [show ((0 : Int)).toNat = 0 from rfl] at hx143_3); (try rw [show 0 * 4 = 0 from rfl] at hx143_3); (try rw [Addr.add_zero'] at hx143_3); replace p143 := eq_true p143; replace q143 := eq_true q143))
                                                    go_ret
                                                    exact ⟨by first | rfl | (simp [errW_none, errW_some] <;> rfl) | (simp [*, errW_none, errW_some] <;> rfl), by repeat (first | (with_reducible first | exact HB.out | apply below_alloc | apply pw_below_drewN | apply below_drew1) | exact HB.out)⟩
                                                  · rw [if_neg c39] at H
                                                    have c39b0 : (((rd_T60 t134 0).f1) == 3) = false := beq_eq_false_iff_ne.mpr c39
                                                    have c39b1 : (((rd_T60 t134 0).f1) != 3) = true := bne_iff_ne.mpr c39
                                                    obtain rfl := Option.some.inj H
                                                    go_wp2_with (first | ((with_reducible refine gate_callee (f := 25) rfl ?_); refine goesL_ (some 60) rfl rfl Tryz.func25 (by kernel_rfl) rfl #[.string (((((((⟨#[60, 111, 32, 120, 109, 108, 110, 115, 58]⟩ : ByteArray) ++ a0) ++ (⟨#[61, 39, 68, 65, 86, 58, 39, 32, 120, 109, 108, 110, 115, 61, 39, 117, 114, 110, 58, 120, 39, 62, 60]⟩ : ByteArray)) ++ a0) ++ (⟨#[58]⟩ : ByteArray)) ++ a1) ++ (⟨#[47, 62, 60, 47, 111, 62]⟩ : ByteArray))] rfl (by (try simp only [List.map_toArray, List.map_cons, List.map_nil]); first | done | rfl | (simp only [List.length_drop, List.length_take]; rfl)) ?_; (with_reducible refine (xml_Parse.calls (((((((⟨#[60, 111, 32, 120, 109, 108, 110, 115, 58]⟩ : ByteArray) ++ a0) ++ (⟨#[61, 39, 68, 65, 86, 58, 39, 32, 120, 109, 108, 110, 115, 61, 39, 117, 114, 110, 58, 120, 39, 62, 60]⟩ : ByteArray)) ++ a0) ++ (⟨#[58]⟩ : ByteArray)) ++ a1) ++ (⟨#[47, 62, 60, 47, 111, 62]⟩ : ByteArray)) t134 t135 _ ?side1 A27.out).mono ?_); (case side1 => exact LaidM.below HT.out (by repeat (first | (with_reducible first | exact HB.out | apply below_alloc | apply pw_below_drewN | apply below_drew1) | exact HB.out))); rintro e w43 ⟨v136, rfl, ho0, hb⟩; refine ⟨_, rfl, ?_⟩; have n0_ := Aside0.mk (Kd.R_lower ho0 (below_size (by repeat (first | (with_reducible first | exact HB.out | apply below_alloc | apply pw_below_drewN | apply below_drew1) | exact HB.out)))); have n1_ := Aside0.mk (below_step (by repeat (first | (with_reducible first | exact HB.out | apply below_alloc | apply pw_below_drewN | apply below_drew1) | exact HB.out)) hb); clear HB; have HO137 := n0_; have HB := n1_; clear n0_ n1_; (try clear hb); (try clear hb2); (try clear hk); (try clear hi); (try clear ho0)) | ((with_reducible refine gate_callee (f := 25) rfl ?_); refine goesL_ (some 70) rfl rfl Tryz.func25 (by kernel_rfl) rfl #[.string (((((⟨#[60]⟩ : ByteArray) ++ a0) ++ (⟨#[58]⟩ : ByteArray)) ++ a1) ++ (⟨#[47, 62]⟩ : ByteArray))] rfl (by (try simp only [List.map_toArray, List.map_cons, List.map_nil]); first | done | rfl | (simp only [List.length_drop, List.length_take]; rfl)) ?_; (with_reducible refine (xml_Parse.calls (((((⟨#[60]⟩ : ByteArray) ++ a0) ++ (⟨#[58]⟩ : ByteArray)) ++ a1) ++ (⟨#[47, 62]⟩ : ByteArray)) t138 t139 _ ?side1 A29.out).mono ?_); (case side1 => exact LaidM.below HT.out (by repeat (first | (with_reducible first | exact HB.out | apply below_alloc | apply pw_below_drewN | apply below_drew1) | exact HB.out))); rintro e w44 ⟨v140, rfl, ho0, hb⟩; refine ⟨_, rfl, ?_⟩; have n0_ := Aside0.mk (Kd.R_elder' (by (with_reducible repeat (first | apply Kd.R_alloc | apply Kd.R_drewN | apply Kd.R_drew)); exact HO137.out) (Kd.R_base ho0) hb); have n1_ := Aside0.mk (Kd.R_lower (Kd.R_new' ho0 (Kd.R_lt (by (with_reducible repeat (first | apply Kd.R_alloc | apply Kd.R_drewN | apply Kd.R_drew)); exact HO137.out))) (below_size (by repeat (first | (with_reducible first | exact HB.out | apply below_alloc | apply pw_below_drewN | apply below_drew1) | exact HB.out)))); have n2_ := Aside0.mk (below_step (by repeat (first | (with_reducible first | exact HB.out | apply below_alloc | apply pw_below_drewN | apply below_drew1) | exact HB.out)) hb); clear HO137; clear HB; have HO137 := n0_; have HO141 := n1_; have HB := n2_; clear n0_ n1_ n2_; (try clear hb); (try clear hb2); (try clear hk); (try clear hi); (try clear ho0); obtain ⟨Ao45, co45, eo45⟩ := Kd.R_slice HO137.out; subst eo45; have p142 : 0 ≤ (1 : Int) := (by omega); have q142 : 1 < (t134.length : Int) := of_decide_eq_true (by first | (with_reducible assumption) | assumption); obtain ⟨ad142, e142, hx142_0, hx142_1, hx142_2, hx142_3⟩ := at_T60 (Kd.R_reads' HO137.out).2.2 1 p142 q142; cases e142; (try simp only [show (1 : Int).toNat = 1 from rfl, Nat.reduceMul, Nat.reduceEqDiff, Go.Addr.add, ↓reduceIte] at hx142_0); (try simp only [show (1 : Int).toNat = 1 from rfl, Nat.reduceMul, Nat.reduceEqDiff, Go.Addr.add, ↓reduceIte] at hx142_1); (try simp only [show (1 : Int).toNat = 1 from rfl, Nat.reduceMul, Nat.reduceEqDiff, Go.Addr.add, ↓reduceIte] at hx142_2); (try simp only [show (1 : Int).toNat = 1 from rfl, Nat.reduceMul, Nat.reduceEqDiff, Go.Addr.add, ↓reduceIte] at hx142_3); have qi142 : (1 < t134.length) = True := eq_true (by omega); (try rw [show ((1 : Int)).toNat = 1 from rfl] at hx142_0); (try rw [show 1 * 4 = 4 from rfl] at hx142_0); (try rw [show ((1 : Int)).toNat = 1 from rfl] at hx142_1); (try rw [show 1 * 4 = 4 from rfl] at hx142_1); (try rw [show ((1 : Int)).toNat = 1 from rfl] at hx142_2); (try rw [show 1 * 4 = 4 from rfl] at hx142_2); (try rw [show ((1 : Int)).toNat = 1 from rfl] at hx142_3); (try rw [show 1 * 4 = 4 from rfl] at hx142_3); replace p142 := eq_true p142; replace q142 := eq_true q142; have p143 : 0 ≤ (0 : Int) := (by omega); have q143 : 0 < (t134.length : Int) := of_decide_eq_true (by first | (with_reducible assumption) | assumption); obtain ⟨ad143, e143, hx143_0, hx143_1, hx143_2, hx143_3⟩ := at_T60 (Kd.R_reads' HO137.out).2.2 0 p143 q143; obtain rfl : ad142 = ad143 := (by injection e143); have qi143 : (0 < t134.length) = True := eq_true (by omega); (try rw [show ((0 : Int)).toNat = 0 from rfl] at hx143_0); (try rw [show 0 * 4 = 0 from rfl] at hx143_0); (try rw [Addr.add_zero'] at hx143_0); (try rw [show ((0 : Int)).toNat = 0 from rfl] at hx143_1); (try rw [show 0 * 4 = 0 from rfl] at hx143_1); (try rw [Addr.add_zero'] at hx143_1); (try rw [show ((0 : Int)).toNat = 0 from rfl] at hx143_2); (try rw [show 0 * 4 = 0 from rfl] at hx143_2); (try rw [Addr.add_zero'] at hx143_2); (try rw [show ((0 : Int)).toNat = 0 from rfl] at hx143_3); (try rw [show 0 * 4 = 0 from rfl] at hx143_3); (try rw [Addr.add_zero'] at hx143_3); replace p143 := eq_true p143; replace q143 := eq_true q143))
                                                    go_ret
                                                    exact ⟨by first | rfl | (simp [errW_none, errW_some] <;> rfl) | (simp [*, errW_none, errW_some] <;> rfl), by repeat (first | (with_reducible first | exact HB.out | apply below_alloc | apply pw_below_drewN | apply below_drew1) | exact HB.out)⟩
                                                · rw [if_neg c38] at H
                                                  exact absurd H (by simp)
                                            · rw [if_neg c33] at H
                                              have c33b0 : (((rd_T60 t134 1).f0) == 1 && (((rd_T60 t134 1).f1) == 1 && ((((rd_T60 t134 1).f2).toList) == a1.toList && ((((rd_T60 t134 1).f3).toList) == ([] : List UInt8))))) = false := by simpa using c33
                                              have c33b9 : (((rd_T60 t134 1).f0) = 1 ∧ (((rd_T60 t134 1).f1) = 1 ∧ ((((rd_T60 t134 1).f2).toList) = a1.toList ∧ ((((rd_T60 t134 1).f3).toList) = ([] : List UInt8))))) = False := eq_false (by simpa using c33b0)
                                              (try (have c33b1 : decide (((rd_T60 t134 1).f0) = 1 && (((rd_T60 t134 1).f1) == 1 && ((((rd_T60 t134 1).f2).toList) == a1.toList && ((((rd_T60 t134 1).f3).toList) == ([] : List UInt8))))) = false := by simpa using c33))
                                              (try (have c33b2 : (((rd_T60 t134 1).f0) == 1 && (((rd_T60 t134 1).f1) == 1 && ((((rd_T60 t134 1).f2).toList) == a1.toList && ((((rd_T60 t134 1).f3).toList) == ([] : List UInt8))))) = false := by simpa using c33))
                                              (try (have c33b3 : ¬ (((rd_T60 t134 1).f0) = 1 && (((rd_T60 t134 1).f1) == 1 && ((((rd_T60 t134 1).f2).toList) == a1.toList && ((((rd_T60 t134 1).f3).toList) == ([] : List UInt8))))) := by simpa using c33))
                                              clear c33
                                              obtain rfl := Option.some.inj H
                                              go_wp2_with (first | ((with_reducible refine gate_callee (f := 25) rfl ?_); refine goesL_ (some 60) rfl rfl Tryz.func25 (by kernel_rfl) rfl #[.string (((((((⟨#[60, 111, 32, 120, 109, 108, 110, 115, 58]⟩ : ByteArray) ++ a0) ++ (⟨#[61, 39, 68, 65, 86, 58, 39, 32, 120, 109, 108, 110, 115, 61, 39, 117, 114, 110, 58, 120, 39, 62, 60]⟩ : ByteArray)) ++ a0) ++ (⟨#[58]⟩ : ByteArray)) ++ a1) ++ (⟨#[47, 62, 60, 47, 111, 62]⟩ : ByteArray))] rfl (by (try simp only [List.map_toArray, List.map_cons, List.map_nil]); first | done | rfl | (simp only [List.length_drop, List.length_take]; rfl)) ?_; (with_reducible refine (xml_Parse.calls (((((((⟨#[60, 111, 32, 120, 109, 108, 110, 115, 58]⟩ : ByteArray) ++ a0) ++ (⟨#[61, 39, 68, 65, 86, 58, 39, 32, 120, 109, 108, 110, 115, 61, 39, 117, 114, 110, 58, 120, 39, 62, 60]⟩ : ByteArray)) ++ a0) ++ (⟨#[58]⟩ : ByteArray)) ++ a1) ++ (⟨#[47, 62, 60, 47, 111, 62]⟩ : ByteArray)) t134 t135 _ ?side1 A27.out).mono ?_); (case side1 => exact LaidM.below HT.out (by repeat (first | (with_reducible first | exact HB.out | apply below_alloc | apply pw_below_drewN | apply below_drew1) | exact HB.out))); rintro e w46 ⟨v136, rfl, ho0, hb⟩; refine ⟨_, rfl, ?_⟩; have n0_ := Aside0.mk (Kd.R_lower ho0 (below_size (by repeat (first | (with_reducible first | exact HB.out | apply below_alloc | apply pw_below_drewN | apply below_drew1) | exact HB.out)))); have n1_ := Aside0.mk (below_step (by repeat (first | (with_reducible first | exact HB.out | apply below_alloc | apply pw_below_drewN | apply below_drew1) | exact HB.out)) hb); clear HB; have HO137 := n0_; have HB := n1_; clear n0_ n1_; (try clear hb); (try clear hb2); (try clear hk); (try clear hi); (try clear ho0)) | ((with_reducible refine gate_callee (f := 25) rfl ?_); refine goesL_ (some 70) rfl rfl Tryz.func25 (by kernel_rfl) rfl #[.string (((((⟨#[60]⟩ : ByteArray) ++ a0) ++ (⟨#[58]⟩ : ByteArray)) ++ a1) ++ (⟨#[47, 62]⟩ : ByteArray))] rfl (by (try simp only [List.map_toArray, List.map_cons, List.map_nil]); first | done | rfl | (simp only [List.length_drop, List.length_take]; rfl)) ?_; (with_reducible refine (xml_Parse.calls (((((⟨#[60]⟩ : ByteArray) ++ a0) ++ (⟨#[58]⟩ : ByteArray)) ++ a1) ++ (⟨#[47, 62]⟩ : ByteArray)) t138 t139 _ ?side1 A29.out).mono ?_); (case side1 => exact LaidM.below HT.out (by repeat (first | (with_reducible first | exact HB.out | apply below_alloc | apply pw_below_drewN | apply below_drew1) | exact HB.out))); rintro e w47 ⟨v140, rfl, ho0, hb⟩; refine ⟨_, rfl, ?_⟩; have n0_ := Aside0.mk (Kd.R_elder' (by (with_reducible repeat (first | apply Kd.R_alloc | apply Kd.R_drewN | apply Kd.R_drew)); exact HO137.out) (Kd.R_base ho0) hb); have n1_ := Aside0.mk (Kd.R_lower (Kd.R_new' ho0 (Kd.R_lt (by (with_reducible repeat (first | apply Kd.R_alloc | apply Kd.R_drewN | apply Kd.R_drew)); exact HO137.out))) (below_size (by repeat (first | (with_reducible first | exact HB.out | apply below_alloc | apply pw_below_drewN | apply below_drew1) | exact HB.out)))); have n2_ := Aside0.mk (below_step (by repeat (first | (with_reducible first | exact HB.out | apply below_alloc | apply pw_below_drewN | apply below_drew1) | exact HB.out)) hb); clear HO137; clear HB; have HO137 := n0_; have HO141 := n1_; have HB := n2_; clear n0_ n1_ n2_; (try clear hb); (try clear hb2); (try clear hk); (try clear hi); (try clear ho0); obtain ⟨Ao48, co48, eo48⟩ := Kd.R_slice HO137.out; subst eo48; have p142 : 0 ≤ (1 : Int) := (by omega); have q142 : 1 < (t134.length : Int) := of_decide_eq_true (by first | (with_reducible assumption) | assumption); obtain ⟨ad142, e142, hx142_0, hx142_1, hx142_2, hx142_3⟩ := at_T60 (Kd.R_reads' HO137.out).2.2 1 p142 q142; cases e142; (try simp only [show (1 : Int).toNat = 1 from rfl, Nat.reduceMul, Nat.reduceEqDiff, Go.Addr.add, ↓reduceIte] at hx142_0); (try simp only [show (1 : Int).toNat = 1 from rfl, Nat.reduceMul, Nat.reduceEqDiff, Go.Addr.add, ↓reduceIte] at hx142_1); (try simp only [show (1 : Int).toNat = 1 from rfl, Nat.reduceMul, Nat.reduceEqDiff, Go.Addr.add, ↓reduceIte] at hx142_2); (try simp only [show (1 : Int).toNat = 1 from rfl, Nat.reduceMul, Nat.reduceEqDiff, Go.Addr.add, ↓reduceIte] at hx142_3); have qi142 : (1 < t134.length) = True := eq_true (by omega); (try rw [show ((1 : Int)).toNat = 1 from rfl] at hx142_0); (try rw [show 1 * 4 = 4 from rfl] at hx142_0); (try rw [show ((1 : Int)).toNat = 1 from rfl] at hx142_1); (try rw [show 1 * 4 = 4 from rfl] at hx142_1); (try rw [show ((1 : Int)).toNat = 1 from rfl] at hx142_2); (try rw [show 1 * 4 = 4 from rfl] at hx142_2); (try rw [show ((1 : Int)).toNat = 1 from rfl] at hx142_3); (try rw [show 1 * 4 = 4 from rfl] at hx142_3); replace p142 := eq_true p142; replace q142 := eq_true q142))
                                              go_ret
                                              exact ⟨by first | rfl | (simp [errW_none, errW_some] <;> rfl) | (simp [*, errW_none, errW_some] <;> rfl), by repeat (first | (with_reducible first | exact HB.out | apply below_alloc | apply pw_below_drewN | apply below_drew1) | exact HB.out)⟩
                                          · rw [if_neg c32] at H
                                            exact absurd H (by simp)
                                        · rw [if_neg c31] at H
                                          have c31b0 : ((t134.length : Int) == (2 + (2 * 1))) = false := beq_eq_false_iff_ne.mpr c31
                                          have c31b7 : ((t134.length : Int) == 4) = false := c31b0
                                          have c31b8 : ((t134.length : Int) = 4) = False := eq_false c31
                                          have c31b7 : ((t134.length : Int) == 4) = false := c31b0
                                          have c31b8 : ((t134.length : Int) = 4) = False := eq_false c31
                                          have c31b1 : ((t134.length : Int) != (2 + (2 * 1))) = true := bne_iff_ne.mpr c31
                                          obtain rfl := Option.some.inj H
                                          go_wp2_with (first | ((with_reducible refine gate_callee (f := 25) rfl ?_); refine goesL_ (some 60) rfl rfl Tryz.func25 (by kernel_rfl) rfl #[.string (((((((⟨#[60, 111, 32, 120, 109, 108, 110, 115, 58]⟩ : ByteArray) ++ a0) ++ (⟨#[61, 39, 68, 65, 86, 58, 39, 32, 120, 109, 108, 110, 115, 61, 39, 117, 114, 110, 58, 120, 39, 62, 60]⟩ : ByteArray)) ++ a0) ++ (⟨#[58]⟩ : ByteArray)) ++ a1) ++ (⟨#[47, 62, 60, 47, 111, 62]⟩ : ByteArray))] rfl (by (try simp only [List.map_toArray, List.map_cons, List.map_nil]); first | done | rfl | (simp only [List.length_drop, List.length_take]; rfl)) ?_; (with_reducible refine (xml_Parse.calls (((((((⟨#[60, 111, 32, 120, 109, 108, 110, 115, 58]⟩ : ByteArray) ++ a0) ++ (⟨#[61, 39, 68, 65, 86, 58, 39, 32, 120, 109, 108, 110, 115, 61, 39, 117, 114, 110, 58, 120, 39, 62, 60]⟩ : ByteArray)) ++ a0) ++ (⟨#[58]⟩ : ByteArray)) ++ a1) ++ (⟨#[47, 62, 60, 47, 111, 62]⟩ : ByteArray)) t134 t135 _ ?side1 A27.out).mono ?_); (case side1 => exact LaidM.below HT.out (by repeat (first | (with_reducible first | exact HB.out | apply below_alloc | apply pw_below_drewN | apply below_drew1) | exact HB.out))); rintro e w49 ⟨v136, rfl, ho0, hb⟩; refine ⟨_, rfl, ?_⟩; have n0_ := Aside0.mk (Kd.R_lower ho0 (below_size (by repeat (first | (with_reducible first | exact HB.out | apply below_alloc | apply pw_below_drewN | apply below_drew1) | exact HB.out)))); have n1_ := Aside0.mk (below_step (by repeat (first | (with_reducible first | exact HB.out | apply below_alloc | apply pw_below_drewN | apply below_drew1) | exact HB.out)) hb); clear HB; have HO137 := n0_; have HB := n1_; clear n0_ n1_; (try clear hb); (try clear hb2); (try clear hk); (try clear hi); (try clear ho0)) | ((with_reducible refine gate_callee (f := 25) rfl ?_); refine goesL_ (some 70) rfl rfl Tryz.func25 (by kernel_rfl) rfl #[.string (((((⟨#[60]⟩ : ByteArray) ++ a0) ++ (⟨#[58]⟩ : ByteArray)) ++ a1) ++ (⟨#[47, 62]⟩ : ByteArray))] rfl (by (try simp only [List.map_toArray, List.map_cons, List.map_nil]); first | done | rfl | (simp only [List.length_drop, List.length_take]; rfl)) ?_; (with_reducible refine (xml_Parse.calls (((((⟨#[60]⟩ : ByteArray) ++ a0) ++ (⟨#[58]⟩ : ByteArray)) ++ a1) ++ (⟨#[47, 62]⟩ : ByteArray)) t138 t139 _ ?side1 A29.out).mono ?_); (case side1 => exact LaidM.below HT.out (by repeat (first | (with_reducible first | exact HB.out | apply below_alloc | apply pw_below_drewN | apply below_drew1) | exact HB.out))); rintro e w50 ⟨v140, rfl, ho0, hb⟩; refine ⟨_, rfl, ?_⟩; have n0_ := Aside0.mk (Kd.R_elder' (by (with_reducible repeat (first | apply Kd.R_alloc | apply Kd.R_drewN | apply Kd.R_drew)); exact HO137.out) (Kd.R_base ho0) hb); have n1_ := Aside0.mk (Kd.R_lower (Kd.R_new' ho0 (Kd.R_lt (by (with_reducible repeat (first | apply Kd.R_alloc | apply Kd.R_drewN | apply Kd.R_drew)); exact HO137.out))) (below_size (by repeat (first | (with_reducible first | exact HB.out | apply below_alloc | apply pw_below_drewN | apply below_drew1) | exact HB.out)))); have n2_ := Aside0.mk (below_step (by repeat (first | (with_reducible first | exact HB.out | apply below_alloc | apply pw_below_drewN | apply below_drew1) | exact HB.out)) hb); clear HO137; clear HB; have HO137 := n0_; have HO141 := n1_; have HB := n2_; clear n0_ n1_ n2_; (try clear hb); (try clear hb2); (try clear hk); (try clear hi); (try clear ho0); obtain ⟨Ao51, co51, eo51⟩ := Kd.R_slice HO137.out; subst eo51))
                                          go_ret
                                          exact ⟨by first | rfl | (simp [errW_none, errW_some] <;> rfl) | (simp [*, errW_none, errW_some] <;> rfl), by repeat (first | (with_reducible first | exact HB.out | apply below_alloc | apply pw_below_drewN | apply below_drew1) | exact HB.out)⟩
                                      · rw [if_neg c30] at H
                                        have c30b0 : (t135 == 0) = false := beq_eq_false_iff_ne.mpr c30
                                        have c30b1 : (t135 != 0) = true := bne_iff_ne.mpr c30
                                        obtain rfl := Option.some.inj H
                                        go_wp2_with (first | ((with_reducible refine gate_callee (f := 25) rfl ?_); refine goesL_ (some 60) rfl rfl Tryz.func25 (by kernel_rfl) rfl #[.string (((((((⟨#[60, 111, 32, 120, 109, 108, 110, 115, 58]⟩ : ByteArray) ++ a0) ++ (⟨#[61, 39, 68, 65, 86, 58, 39, 32, 120, 109, 108, 110, 115, 61, 39, 117, 114, 110, 58, 120, 39, 62, 60]⟩ : ByteArray)) ++ a0) ++ (⟨#[58]⟩ : ByteArray)) ++ a1) ++ (⟨#[47, 62, 60, 47, 111, 62]⟩ : ByteArray))] rfl (by (try simp only [List.map_toArray, List.map_cons, List.map_nil]); first | done | rfl | (simp only [List.length_drop, List.length_take]; rfl)) ?_; (with_reducible refine (xml_Parse.calls (((((((⟨#[60, 111, 32, 120, 109, 108, 110, 115, 58]⟩ : ByteArray) ++ a0) ++ (⟨#[61, 39, 68, 65, 86, 58, 39, 32, 120, 109, 108, 110, 115, 61, 39, 117, 114, 110, 58, 120, 39, 62, 60]⟩ : ByteArray)) ++ a0) ++ (⟨#[58]⟩ : ByteArray)) ++ a1) ++ (⟨#[47, 62, 60, 47, 111, 62]⟩ : ByteArray)) t134 t135 _ ?side1 A27.out).mono ?_); (case side1 => exact LaidM.below HT.out (by repeat (first | (with_reducible first | exact HB.out | apply below_alloc | apply pw_below_drewN | apply below_drew1) | exact HB.out))); rintro e w52 ⟨v136, rfl, ho0, hb⟩; refine ⟨_, rfl, ?_⟩; have n0_ := Aside0.mk (Kd.R_lower ho0 (below_size (by repeat (first | (with_reducible first | exact HB.out | apply below_alloc | apply pw_below_drewN | apply below_drew1) | exact HB.out)))); have n1_ := Aside0.mk (below_step (by repeat (first | (with_reducible first | exact HB.out | apply below_alloc | apply pw_below_drewN | apply below_drew1) | exact HB.out)) hb); clear HB; have HO137 := n0_; have HB := n1_; clear n0_ n1_; (try clear hb); (try clear hb2); (try clear hk); (try clear hi); (try clear ho0)) | ((with_reducible refine gate_callee (f := 25) rfl ?_); refine goesL_ (some 70) rfl rfl Tryz.func25 (by kernel_rfl) rfl #[.string (((((⟨#[60]⟩ : ByteArray) ++ a0) ++ (⟨#[58]⟩ : ByteArray)) ++ a1) ++ (⟨#[47, 62]⟩ : ByteArray))] rfl (by (try simp only [List.map_toArray, List.map_cons, List.map_nil]); first | done | rfl | (simp only [List.length_drop, List.length_take]; rfl)) ?_; (with_reducible refine (xml_Parse.calls (((((⟨#[60]⟩ : ByteArray) ++ a0) ++ (⟨#[58]⟩ : ByteArray)) ++ a1) ++ (⟨#[47, 62]⟩ : ByteArray)) t138 t139 _ ?side1 A29.out).mono ?_); (case side1 => exact LaidM.below HT.out (by repeat (first | (with_reducible first | exact HB.out | apply below_alloc | apply pw_below_drewN | apply below_drew1) | exact HB.out))); rintro e w53 ⟨v140, rfl, ho0, hb⟩; refine ⟨_, rfl, ?_⟩; have n0_ := Aside0.mk (Kd.R_elder' (by (with_reducible repeat (first | apply Kd.R_alloc | apply Kd.R_drewN | apply Kd.R_drew)); exact HO137.out) (Kd.R_base ho0) hb); have n1_ := Aside0.mk (Kd.R_lower (Kd.R_new' ho0 (Kd.R_lt (by (with_reducible repeat (first | apply Kd.R_alloc | apply Kd.R_drewN | apply Kd.R_drew)); exact HO137.out))) (below_size (by repeat (first | (with_reducible first | exact HB.out | apply below_alloc | apply pw_below_drewN | apply below_drew1) | exact HB.out)))); have n2_ := Aside0.mk (below_step (by repeat (first | (with_reducible first | exact HB.out | apply below_alloc | apply pw_below_drewN | apply below_drew1) | exact HB.out)) hb); clear HO137; clear HB; have HO137 := n0_; have HO141 := n1_; have HB := n2_; clear n0_ n1_ n2_; (try clear hb); (try clear hb2); (try clear hk); (try clear hi); (try clear ho0)))
                                        go_ret
                                        exact ⟨by first | rfl | (simp [errW_none, errW_some] <;> rfl) | (simp [*, errW_none, errW_some] <;> rfl), by repeat (first | (with_reducible first | exact HB.out | apply below_alloc | apply pw_below_drewN | apply below_drew1) | exact HB.out)⟩
                                    · rw [if_neg c28] at H
                                      have c28e := c28
                                      (try simp only [ByteArray.size_append, gt_iff_lt, ge_iff_le, show (⟨#[58]⟩ : ByteArray).size = 1 from rfl, show (⟨#[60]⟩ : ByteArray).size = 1 from rfl] at c28e)
                                      (try simp only [Int.natCast_add, Int.cast_ofNat_Int] at c28e)
                                      (try (have c28e2 := decide_eq_false c28e))
                                      (try replace c28e := eq_false c28e)
                                      exact absurd H (by simp)
                                  · rw [if_neg c26] at H
                                    have c26e := c26
                                    (try simp only [ByteArray.size_append, gt_iff_lt, ge_iff_le, show (⟨#[58]⟩ : ByteArray).size = 1 from rfl, show (⟨#[60, 111, 32, 120, 109, 108, 110, 115, 58]⟩ : ByteArray).size = 9 from rfl, show (⟨#[61, 39, 68, 65, 86, 58, 39, 32, 120, 109, 108, 110, 115, 61, 39, 117, 114, 110, 58, 120, 39, 62, 60]⟩ : ByteArray).size = 23 from rfl] at c26e)
                                    (try simp only [Int.natCast_add, Int.cast_ofNat_Int] at c26e)
                                    (try (have c26e2 := decide_eq_false c26e))
                                    (try replace c26e := eq_false c26e)
                                    exact absurd H (by simp)
                                · rw [if_neg c25] at H
                                  have c25e := c25
                                  (try simp only [ByteArray.size_append, gt_iff_lt, ge_iff_le, show (⟨#[58]⟩ : ByteArray).size = 1 from rfl, show (⟨#[60, 111, 32, 120, 109, 108, 110, 115, 58]⟩ : ByteArray).size = 9 from rfl, show (⟨#[61, 39, 68, 65, 86, 58, 39, 32, 120, 109, 108, 110, 115, 61, 39, 117, 114, 110, 58, 120, 39, 62, 60]⟩ : ByteArray).size = 23 from rfl] at c25e)
                                  (try simp only [Int.natCast_add, Int.cast_ofNat_Int] at c25e)
                                  (try (have c25e2 := decide_eq_false c25e))
                                  (try replace c25e := eq_false c25e)
                                  exact absurd H (by simp)
                              · rw [if_neg c24] at H
                                have c24e := c24
                                (try simp only [ByteArray.size_append, gt_iff_lt, ge_iff_le, show (⟨#[60, 111, 32, 120, 109, 108, 110, 115, 58]⟩ : ByteArray).size = 9 from rfl, show (⟨#[61, 39, 68, 65, 86, 58, 39, 32, 120, 109, 108, 110, 115, 61, 39, 117, 114, 110, 58, 120, 39, 62, 60]⟩ : ByteArray).size = 23 from rfl] at c24e)
                                (try simp only [Int.natCast_add, Int.cast_ofNat_Int] at c24e)
                                (try (have c24e2 := decide_eq_false c24e))
                                (try replace c24e := eq_false c24e)
                                exact absurd H (by simp)
                            · rw [if_neg c23] at H
                              have c23e := c23
                              (try simp only [ByteArray.size_append, gt_iff_lt, ge_iff_le, show (⟨#[60, 111, 32, 120, 109, 108, 110, 115, 58]⟩ : ByteArray).size = 9 from rfl, show (⟨#[61, 39, 68, 65, 86, 58, 39, 32, 120, 109, 108, 110, 115, 61, 39, 117, 114, 110, 58, 120, 39, 62, 60]⟩ : ByteArray).size = 23 from rfl] at c23e)
                              (try simp only [Int.natCast_add, Int.cast_ofNat_Int] at c23e)
                              (try (have c23e2 := decide_eq_false c23e))
                              (try replace c23e := eq_false c23e)
                              exact absurd H (by simp)
                          · rw [if_neg c22] at H
                            have c22e := c22
                            (try simp only [ByteArray.size_append, gt_iff_lt, ge_iff_le, show (⟨#[60, 111, 32, 120, 109, 108, 110, 115, 58]⟩ : ByteArray).size = 9 from rfl] at c22e)
                            (try simp only [Int.natCast_add, Int.cast_ofNat_Int] at c22e)
                            (try (have c22e2 := decide_eq_false c22e))
                            (try replace c22e := eq_false c22e)
                            exact absurd H (by simp)
                        · rw [if_neg c21] at H
                          exact absurd H (by simp)
                      · replace c20 := Bool.eq_false_iff.mpr c20
                        subst c20
                        have H1 : ((xml_Parse.f (((((((⟨#[60]⟩ : ByteArray) ++ a0) ++ (⟨#[58]⟩ : ByteArray)) ++ a1) ++ (⟨#[32, 120, 109, 108, 110, 115, 58]⟩ : ByteArray)) ++ a0) ++ (⟨#[61, 39, 68, 65, 86, 58, 39, 47, 62]⟩ : ByteArray))).bind fun bt144 => (if ((((⟨#[60]⟩ : ByteArray) ++ a0) ++ (⟨#[58]⟩ : ByteArray)) ++ a1).size + 2 ≤ 9223372036854775807 then ((xml_Parse.f (((((⟨#[60]⟩ : ByteArray) ++ a0) ++ (⟨#[58]⟩ : ByteArray)) ++ a1) ++ (⟨#[47, 62]⟩ : ByteArray))).bind fun bt148 => (if bt144.2 = 0 then (if (bt144.1.length : Int) = (2 + (2 * 0)) then (if 0 < (bt144.1.length : Int) then (if (((rd_T60 bt144.1 0).f0) == 1 && (((rd_T60 bt144.1 0).f1) == 1 && ((((rd_T60 bt144.1 0).f2).toList) == a1.toList && ((((rd_T60 bt144.1 0).f3).toList) == ([] : List UInt8))))) = true then (if 0 = 0 then (some (bt148.2 == 70)) else (if ((rd_T60 bt144.1 0).f1) = 3 then (some (bt148.2 == 70)) else (some false))) else (some false)) else (none)) else (some false)) else (some false))) else (none))) = some r := by rw [if_neg (show ¬ (false = true) by decide)] at H; exact H
                        clear H
                        have H := H1
                        clear H1
                        replace H := Option.bind_eq_some_iff.mp H
                        obtain ⟨⟨t144, t145⟩, A540, H⟩ := H
                        replace H : (if ((((⟨#[60]⟩ : ByteArray) ++ a0) ++ (⟨#[58]⟩ : ByteArray)) ++ a1).size + 2 ≤ 9223372036854775807 then ((xml_Parse.f (((((⟨#[60]⟩ : ByteArray) ++ a0) ++ (⟨#[58]⟩ : ByteArray)) ++ a1) ++ (⟨#[47, 62]⟩ : ByteArray))).bind fun bt148 => (if t145 = 0 then (if (t144.length : Int) = (2 + (2 * 0)) then (if 0 < (t144.length : Int) then (if (((rd_T60 t144 0).f0) == 1 && (((rd_T60 t144 0).f1) == 1 && ((((rd_T60 t144 0).f2).toList) == a1.toList && ((((rd_T60 t144 0).f3).toList) == ([] : List UInt8))))) = true then (if 0 = 0 then (some (bt148.2 == 70)) else (if ((rd_T60 t144 0).f1) = 3 then (some (bt148.2 == 70)) else (some false))) else (some false)) else (none)) else (some false)) else (some false))) else (none)) = some r := H
                        have A54 := Aside0.mk A540
                        clear A540
                        by_cases c55 : ((((⟨#[60]⟩ : ByteArray) ++ a0) ++ (⟨#[58]⟩ : ByteArray)) ++ a1).size + 2 ≤ 9223372036854775807
                        · rw [if_pos c55] at H
                          have c55e := c55
                          (try simp only [ByteArray.size_append, gt_iff_lt, ge_iff_le, show (⟨#[58]⟩ : ByteArray).size = 1 from rfl, show (⟨#[60]⟩ : ByteArray).size = 1 from rfl] at c55e)
                          (try simp only [Int.natCast_add, Int.cast_ofNat_Int] at c55e)
                          (try (have c55e2 := decide_eq_true c55e))
                          (try replace c55e := eq_true c55e)
                          have c55b0 := eq_true c55
                          have c55b1 : decide (((((⟨#[60]⟩ : ByteArray) ++ a0) ++ (⟨#[58]⟩ : ByteArray)) ++ a1).size + 2 ≤ 9223372036854775807) = true := decide_eq_true c55
                          try have c55b2 : (9223372036854775807 < ((((⟨#[60]⟩ : ByteArray) ++ a0) ++ (⟨#[58]⟩ : ByteArray)) ++ a1).size + 2) = False := eq_false (Nat.not_lt.2 c55)
                          have c55b8 : (9223372036854775807 < 1 + a0.size + 1 + a1.size + 2) = False := by have h_ := c55; simp only [ByteArray.size_append] at h_; exact eq_false (Nat.not_lt.2 h_)
                          replace H := Option.bind_eq_some_iff.mp H
                          obtain ⟨⟨t148, t149⟩, A560, H⟩ := H
                          replace H : (if t145 = 0 then (if (t144.length : Int) = (2 + (2 * 0)) then (if 0 < (t144.length : Int) then (if (((rd_T60 t144 0).f0) == 1 && (((rd_T60 t144 0).f1) == 1 && ((((rd_T60 t144 0).f2).toList) == a1.toList && ((((rd_T60 t144 0).f3).toList) == ([] : List UInt8))))) = true then (if 0 = 0 then (some (t149 == 70)) else (if ((rd_T60 t144 0).f1) = 3 then (some (t149 == 70)) else (some false))) else (some false)) else (none)) else (some false)) else (some false)) = some r := H
                          have A56 := Aside0.mk A560
                          clear A560
                          by_cases c57 : t145 = 0
                          · rw [if_pos c57] at H
                            have c57b0 : (t145 == 0) = true := beq_iff_eq.mpr c57
                            have c57b1 : (t145 != 0) = false := bne_eq_false_iff_eq.mpr c57
                            clear c57
                            by_cases c58 : (t144.length : Int) = (2 + (2 * 0))
                            · rw [if_pos c58] at H
                              have c58b0 : ((t144.length : Int) == (2 + (2 * 0))) = true := beq_iff_eq.mpr c58
                              have c58b7 : ((t144.length : Int) == 2) = true := c58b0
                              have c58b8 : ((t144.length : Int) = 2) = True := eq_true c58
                              have c58b7 : ((t144.length : Int) == 2) = true := c58b0
                              have c58b8 : ((t144.length : Int) = 2) = True := eq_true c58
                              have c58b1 : ((t144.length : Int) != (2 + (2 * 0))) = false := bne_eq_false_iff_eq.mpr c58
                              clear c58
                              by_cases c59 : 0 < (t144.length : Int)
                              · rw [if_pos c59] at H
                                have c59b0 : decide (0 < (t144.length : Int)) = true := decide_eq_true c59
                                have c59b1 : decide (0 < t144.length) = true := decide_eq_true (by omega)
                                clear c59
                                by_cases c60 : (((rd_T60 t144 0).f0) == 1 && (((rd_T60 t144 0).f1) == 1 && ((((rd_T60 t144 0).f2).toList) == a1.toList && ((((rd_T60 t144 0).f3).toList) == ([] : List UInt8))))) = true
                                · rw [if_pos c60] at H
                                  have c60b0 : (((rd_T60 t144 0).f0) == 1 && (((rd_T60 t144 0).f1) == 1 && ((((rd_T60 t144 0).f2).toList) == a1.toList && ((((rd_T60 t144 0).f3).toList) == ([] : List UInt8))))) = true := c60
                                  have c60b9 : (((rd_T60 t144 0).f0) = 1 ∧ (((rd_T60 t144 0).f1) = 1 ∧ ((((rd_T60 t144 0).f2).toList) = a1.toList ∧ ((((rd_T60 t144 0).f3).toList) = ([] : List UInt8))))) := by simpa using c60
                                  (try (have c60b1 : decide (((rd_T60 t144 0).f0) = 1 && (((rd_T60 t144 0).f1) == 1 && ((((rd_T60 t144 0).f2).toList) == a1.toList && ((((rd_T60 t144 0).f3).toList) == ([] : List UInt8))))) = true := by simpa using c60))
                                  (try (have c60b2 : (((rd_T60 t144 0).f0) == 1 && (((rd_T60 t144 0).f1) == 1 && ((((rd_T60 t144 0).f2).toList) == a1.toList && ((((rd_T60 t144 0).f3).toList) == ([] : List UInt8))))) = true := by simpa using c60))
                                  clear c60
                                  by_cases c61 : 0 = 0
                                  · try rw [if_pos c61] at H
                                    have c61b0 : (0 == 0) = true := beq_iff_eq.mpr c61
                                    have c61b1 : (0 != 0) = false := bne_eq_false_iff_eq.mpr c61
                                    clear c61
                                    obtain rfl := Option.some.inj H
                                    go_wp2_with (first | ((with_reducible refine gate_callee (f := 25) rfl ?_); refine goesL_ (some 60) rfl rfl Tryz.func25 (by kernel_rfl) rfl #[.string (((((((⟨#[60]⟩ : ByteArray) ++ a0) ++ (⟨#[58]⟩ : ByteArray)) ++ a1) ++ (⟨#[32, 120, 109, 108, 110, 115, 58]⟩ : ByteArray)) ++ a0) ++ (⟨#[61, 39, 68, 65, 86, 58, 39, 47, 62]⟩ : ByteArray))] rfl (by (try simp only [List.map_toArray, List.map_cons, List.map_nil]); first | done | rfl | (simp only [List.length_drop, List.length_take]; rfl)) ?_; (with_reducible refine (xml_Parse.calls (((((((⟨#[60]⟩ : ByteArray) ++ a0) ++ (⟨#[58]⟩ : ByteArray)) ++ a1) ++ (⟨#[32, 120, 109, 108, 110, 115, 58]⟩ : ByteArray)) ++ a0) ++ (⟨#[61, 39, 68, 65, 86, 58, 39, 47, 62]⟩ : ByteArray)) t144 t145 _ ?side1 A54.out).mono ?_); (case side1 => exact LaidM.below HT.out (by repeat (first | (with_reducible first | exact HB.out | apply below_alloc | apply pw_below_drewN | apply below_drew1) | exact HB.out))); rintro e w62 ⟨v146, rfl, ho0, hb⟩; refine ⟨_, rfl, ?_⟩; have n0_ := Aside0.mk (Kd.R_lower ho0 (below_size (by repeat (first | (with_reducible first | exact HB.out | apply below_alloc | apply pw_below_drewN | apply below_drew1) | exact HB.out)))); have n1_ := Aside0.mk (below_step (by repeat (first | (with_reducible first | exact HB.out | apply below_alloc | apply pw_below_drewN | apply below_drew1) | exact HB.out)) hb); clear HB; have HO147 := n0_; have HB := n1_; clear n0_ n1_; (try clear hb); (try clear hb2); (try clear hk); (try clear hi); (try clear ho0)) | ((with_reducible refine gate_callee (f := 25) rfl ?_); refine goesL_ (some 70) rfl rfl Tryz.func25 (by kernel_rfl) rfl #[.string (((((⟨#[60]⟩ : ByteArray) ++ a0) ++ (⟨#[58]⟩ : ByteArray)) ++ a1) ++ (⟨#[47, 62]⟩ : ByteArray))] rfl (by (try simp only [List.map_toArray, List.map_cons, List.map_nil]); first | done | rfl | (simp only [List.length_drop, List.length_take]; rfl)) ?_; (with_reducible refine (xml_Parse.calls (((((⟨#[60]⟩ : ByteArray) ++ a0) ++ (⟨#[58]⟩ : ByteArray)) ++ a1) ++ (⟨#[47, 62]⟩ : ByteArray)) t148 t149 _ ?side1 A56.out).mono ?_); (case side1 => exact LaidM.below HT.out (by repeat (first | (with_reducible first | exact HB.out | apply below_alloc | apply pw_below_drewN | apply below_drew1) | exact HB.out))); rintro e w63 ⟨v150, rfl, ho0, hb⟩; refine ⟨_, rfl, ?_⟩; have n0_ := Aside0.mk (Kd.R_elder' (by (with_reducible repeat (first | apply Kd.R_alloc | apply Kd.R_drewN | apply Kd.R_drew)); exact HO147.out) (Kd.R_base ho0) hb); have n1_ := Aside0.mk (Kd.R_lower (Kd.R_new' ho0 (Kd.R_lt (by (with_reducible repeat (first | apply Kd.R_alloc | apply Kd.R_drewN | apply Kd.R_drew)); exact HO147.out))) (below_size (by repeat (first | (with_reducible first | exact HB.out | apply below_alloc | apply pw_below_drewN | apply below_drew1) | exact HB.out)))); have n2_ := Aside0.mk (below_step (by repeat (first | (with_reducible first | exact HB.out | apply below_alloc | apply pw_below_drewN | apply below_drew1) | exact HB.out)) hb); clear HO147; clear HB; have HO147 := n0_; have HO151 := n1_; have HB := n2_; clear n0_ n1_ n2_; (try clear hb); (try clear hb2); (try clear hk); (try clear hi); (try clear ho0); obtain ⟨Ao64, co64, eo64⟩ := Kd.R_slice HO147.out; subst eo64; have p152 : 0 ≤ (0 : Int) := (by omega); have q152 : 0 < (t144.length : Int) := of_decide_eq_true (by first | (with_reducible assumption) | assumption); obtain ⟨ad152, e152, hx152_0, hx152_1, hx152_2, hx152_3⟩ := at_T60 (Kd.R_reads' HO147.out).2.2 0 p152 q152; cases e152; have qi152 : (0 < t144.length) = True := eq_true (by omega); (try rw [show ((0 : Int)).toNat = 0 from rfl] at hx152_0); (try rw [show 0 * 4 = 0 from rfl] at hx152_0); (try rw [Addr.add_zero'] at hx152_0); (try rw [show ((0 : Int)).toNat = 0 from rfl] at hx152_1); (try rw [show 0 * 4 = 0 from rfl] at hx152_1); (try rw [Addr.add_zero'] at hx152_1); (try rw [show ((0 : Int)).toNat = 0 from rfl] at hx152_2); (try rw [show 0 * 4 = 0 from rfl] at hx152_2); (try rw [Addr.add_zero'] at hx152_2); (try rw [show ((0 : Int)).toNat = 0 from rfl] at hx152_3); (try rw [show 0 * 4 = 0 from rfl] at hx152_3); (try rw [Addr.add_zero'] at hx152_3); replace p152 := eq_true p152; replace q152 := eq_true q152))
                                    go_ret
                                    exact ⟨by first | rfl | (simp [errW_none, errW_some] <;> rfl) | (simp [*, errW_none, errW_some] <;> rfl), by repeat (first | (with_reducible first | exact HB.out | apply below_alloc | apply pw_below_drewN | apply below_drew1) | exact HB.out)⟩
                                  · exact absurd rfl c61
                                · rw [if_neg c60] at H
                                  have c60b0 : (((rd_T60 t144 0).f0) == 1 && (((rd_T60 t144 0).f1) == 1 && ((((rd_T60 t144 0).f2).toList) == a1.toList && ((((rd_T60 t144 0).f3).toList) == ([] : List UInt8))))) = false := by simpa using c60
                                  have c60b9 : (((rd_T60 t144 0).f0) = 1 ∧ (((rd_T60 t144 0).f1) = 1 ∧ ((((rd_T60 t144 0).f2).toList) = a1.toList ∧ ((((rd_T60 t144 0).f3).toList) = ([] : List UInt8))))) = False := eq_false (by simpa using c60b0)
                                  (try (have c60b1 : decide (((rd_T60 t144 0).f0) = 1 && (((rd_T60 t144 0).f1) == 1 && ((((rd_T60 t144 0).f2).toList) == a1.toList && ((((rd_T60 t144 0).f3).toList) == ([] : List UInt8))))) = false := by simpa using c60))
                                  (try (have c60b2 : (((rd_T60 t144 0).f0) == 1 && (((rd_T60 t144 0).f1) == 1 && ((((rd_T60 t144 0).f2).toList) == a1.toList && ((((rd_T60 t144 0).f3).toList) == ([] : List UInt8))))) = false := by simpa using c60))
                                  (try (have c60b3 : ¬ (((rd_T60 t144 0).f0) = 1 && (((rd_T60 t144 0).f1) == 1 && ((((rd_T60 t144 0).f2).toList) == a1.toList && ((((rd_T60 t144 0).f3).toList) == ([] : List UInt8))))) := by simpa using c60))
                                  clear c60
                                  obtain rfl := Option.some.inj H
                                  go_wp2_with (first | ((with_reducible refine gate_callee (f := 25) rfl ?_); refine goesL_ (some 60) rfl rfl Tryz.func25 (by kernel_rfl) rfl #[.string (((((((⟨#[60]⟩ : ByteArray) ++ a0) ++ (⟨#[58]⟩ : ByteArray)) ++ a1) ++ (⟨#[32, 120, 109, 108, 110, 115, 58]⟩ : ByteArray)) ++ a0) ++ (⟨#[61, 39, 68, 65, 86, 58, 39, 47, 62]⟩ : ByteArray))] rfl (by (try simp only [List.map_toArray, List.map_cons, List.map_nil]); first | done | rfl | (simp only [List.length_drop, List.length_take]; rfl)) ?_; (with_reducible refine (xml_Parse.calls (((((((⟨#[60]⟩ : ByteArray) ++ a0) ++ (⟨#[58]⟩ : ByteArray)) ++ a1) ++ (⟨#[32, 120, 109, 108, 110, 115, 58]⟩ : ByteArray)) ++ a0) ++ (⟨#[61, 39, 68, 65, 86, 58, 39, 47, 62]⟩ : ByteArray)) t144 t145 _ ?side1 A54.out).mono ?_); (case side1 => exact LaidM.below HT.out (by repeat (first | (with_reducible first | exact HB.out | apply below_alloc | apply pw_below_drewN | apply below_drew1) | exact HB.out))); rintro e w72 ⟨v146, rfl, ho0, hb⟩; refine ⟨_, rfl, ?_⟩; have n0_ := Aside0.mk (Kd.R_lower ho0 (below_size (by repeat (first | (with_reducible first | exact HB.out | apply below_alloc | apply pw_below_drewN | apply below_drew1) | exact HB.out)))); have n1_ := Aside0.mk (below_step (by repeat (first | (with_reducible first | exact HB.out | apply below_alloc | apply pw_below_drewN | apply below_drew1) | exact HB.out)) hb); clear HB; have HO147 := n0_; have HB := n1_; clear n0_ n1_; (try clear hb); (try clear hb2); (try clear hk); (try clear hi); (try clear ho0)) | ((with_reducible refine gate_callee (f := 25) rfl ?_); refine goesL_ (some 70) rfl rfl Tryz.func25 (by kernel_rfl) rfl #[.string (((((⟨#[60]⟩ : ByteArray) ++ a0) ++ (⟨#[58]⟩ : ByteArray)) ++ a1) ++ (⟨#[47, 62]⟩ : ByteArray))] rfl (by (try simp only [List.map_toArray, List.map_cons, List.map_nil]); first | done | rfl | (simp only [List.length_drop, List.length_take]; rfl)) ?_; (with_reducible refine (xml_Parse.calls (((((⟨#[60]⟩ : ByteArray) ++ a0) ++ (⟨#[58]⟩ : ByteArray)) ++ a1) ++ (⟨#[47, 62]⟩ : ByteArray)) t148 t149 _ ?side1 A56.out).mono ?_); (case side1 => exact LaidM.below HT.out (by repeat (first | (with_reducible first | exact HB.out | apply below_alloc | apply pw_below_drewN | apply below_drew1) | exact HB.out))); rintro e w73 ⟨v150, rfl, ho0, hb⟩; refine ⟨_, rfl, ?_⟩; have n0_ := Aside0.mk (Kd.R_elder' (by (with_reducible repeat (first | apply Kd.R_alloc | apply Kd.R_drewN | apply Kd.R_drew)); exact HO147.out) (Kd.R_base ho0) hb); have n1_ := Aside0.mk (Kd.R_lower (Kd.R_new' ho0 (Kd.R_lt (by (with_reducible repeat (first | apply Kd.R_alloc | apply Kd.R_drewN | apply Kd.R_drew)); exact HO147.out))) (below_size (by repeat (first | (with_reducible first | exact HB.out | apply below_alloc | apply pw_below_drewN | apply below_drew1) | exact HB.out)))); have n2_ := Aside0.mk (below_step (by repeat (first | (with_reducible first | exact HB.out | apply below_alloc | apply pw_below_drewN | apply below_drew1) | exact HB.out)) hb); clear HO147; clear HB; have HO147 := n0_; have HO151 := n1_; have HB := n2_; clear n0_ n1_ n2_; (try clear hb); (try clear hb2); (try clear hk); (try clear hi); (try clear ho0); obtain ⟨Ao74, co74, eo74⟩ := Kd.R_slice HO147.out; subst eo74; have p152 : 0 ≤ (0 : Int) := (by omega); have q152 : 0 < (t144.length : Int) := of_decide_eq_true (by first | (with_reducible assumption) | assumption); obtain ⟨ad152, e152, hx152_0, hx152_1, hx152_2, hx152_3⟩ := at_T60 (Kd.R_reads' HO147.out).2.2 0 p152 q152; cases e152; have qi152 : (0 < t144.length) = True := eq_true (by omega); (try rw [show ((0 : Int)).toNat = 0 from rfl] at hx152_0); (try rw [show 0 * 4 = 0 from rfl] at hx152_0); (try rw [Addr.add_zero'] at hx152_0); (try rw [show ((0 : Int)).toNat = 0 from rfl] at hx152_1); (try rw [show 0 * 4 = 0 from rfl] at hx152_1); (try rw [Addr.add_zero'] at hx152_1); (try rw [show ((0 : Int)).toNat = 0 from rfl] at hx152_2); (try rw [show 0 * 4 = 0 from rfl] at hx152_2); (try rw [Addr.add_zero'] at hx152_2); (try rw [show ((0 : Int)).toNat = 0 from rfl] at hx152_3); (try rw [show 0 * 4 = 0 from rfl] at hx152_3); (try rw [Addr.add_zero'] at hx152_3); replace p152 := eq_true p152; replace q152 := eq_true q152))
                                  go_ret
                                  exact ⟨by first | rfl | (simp [errW_none, errW_some] <;> rfl) | (simp [*, errW_none, errW_some] <;> rfl), by repeat (first | (with_reducible first | exact HB.out | apply below_alloc | apply pw_below_drewN | apply below_drew1) | exact HB.out)⟩
                              · rw [if_neg c59] at H
                                exact absurd H (by simp)
                            · rw [if_neg c58] at H
                              have c58b0 : ((t144.length : Int) == (2 + (2 * 0))) = false := beq_eq_false_iff_ne.mpr c58
                              have c58b7 : ((t144.length : Int) == 2) = false := c58b0
                              have c58b8 : ((t144.length : Int) = 2) = False := eq_false c58
                              have c58b7 : ((t144.length : Int) == 2) = false := c58b0
                              have c58b8 : ((t144.length : Int) = 2) = False := eq_false c58
                              have c58b1 : ((t144.length : Int) != (2 + (2 * 0))) = true := bne_iff_ne.mpr c58
                              obtain rfl := Option.some.inj H
                              go_wp2_with (first | ((with_reducible refine gate_callee (f := 25) rfl ?_); refine goesL_ (some 60) rfl rfl Tryz.func25 (by kernel_rfl) rfl #[.string (((((((⟨#[60]⟩ : ByteArray) ++ a0) ++ (⟨#[58]⟩ : ByteArray)) ++ a1) ++ (⟨#[32, 120, 109, 108, 110, 115, 58]⟩ : ByteArray)) ++ a0) ++ (⟨#[61, 39, 68, 65, 86, 58, 39, 47, 62]⟩ : ByteArray))] rfl (by (try simp only [List.map_toArray, List.map_cons, List.map_nil]); first | done | rfl | (simp only [List.length_drop, List.length_take]; rfl)) ?_; (with_reducible refine (xml_Parse.calls (((((((⟨#[60]⟩ : ByteArray) ++ a0) ++ (⟨#[58]⟩ : ByteArray)) ++ a1) ++ (⟨#[32, 120, 109, 108, 110, 115, 58]⟩ : ByteArray)) ++ a0) ++ (⟨#[61, 39, 68, 65, 86, 58, 39, 47, 62]⟩ : ByteArray)) t144 t145 _ ?side1 A54.out).mono ?_); (case side1 => exact LaidM.below HT.out (by repeat (first | (with_reducible first | exact HB.out | apply below_alloc | apply pw_below_drewN | apply below_drew1) | exact HB.out))); rintro e w75 ⟨v146, rfl, ho0, hb⟩; refine ⟨_, rfl, ?_⟩; have n0_ := Aside0.mk (Kd.R_lower ho0 (below_size (by repeat (first | (with_reducible first | exact HB.out | apply below_alloc | apply pw_below_drewN | apply below_drew1) | exact HB.out)))); have n1_ := Aside0.mk (below_step (by repeat (first | (with_reducible first | exact HB.out | apply below_alloc | apply pw_below_drewN | apply below_drew1) | exact HB.out)) hb); clear HB; have HO147 := n0_; have HB := n1_; clear n0_ n1_; (try clear hb); (try clear hb2); (try clear hk); (try clear hi); (try clear ho0)) | ((with_reducible refine gate_callee (f := 25) rfl ?_); refine goesL_ (some 70) rfl rfl Tryz.func25 (by kernel_rfl) rfl #[.string (((((⟨#[60]⟩ : ByteArray) ++ a0) ++ (⟨#[58]⟩ : ByteArray)) ++ a1) ++ (⟨#[47, 62]⟩ : ByteArray))] rfl (by (try simp only [List.map_toArray, List.map_cons, List.map_nil]); first | done | rfl | (simp only [List.length_drop, List.length_take]; rfl)) ?_; (with_reducible refine (xml_Parse.calls (((((⟨#[60]⟩ : ByteArray) ++ a0) ++ (⟨#[58]⟩ : ByteArray)) ++ a1) ++ (⟨#[47, 62]⟩ : ByteArray)) t148 t149 _ ?side1 A56.out).mono ?_); (case side1 => exact LaidM.below HT.out (by repeat (first | (with_reducible first | exact HB.out | apply below_alloc | apply pw_below_drewN | apply below_drew1) | exact HB.out))); rintro e w76 ⟨v150, rfl, ho0, hb⟩; refine ⟨_, rfl, ?_⟩; have n0_ := Aside0.mk (Kd.R_elder' (by (with_reducible repeat (first | apply Kd.R_alloc | apply Kd.R_drewN | apply Kd.R_drew)); exact HO147.out) (Kd.R_base ho0) hb); have n1_ := Aside0.mk (Kd.R_lower (Kd.R_new' ho0 (Kd.R_lt (by (with_reducible repeat (first | apply Kd.R_alloc | apply Kd.R_drewN | apply Kd.R_drew)); exact HO147.out))) (below_size (by repeat (first | (with_reducible first | exact HB.out | apply below_alloc | apply pw_below_drewN | apply below_drew1) | exact HB.out)))); have n2_ := Aside0.mk (below_step (by repeat (first | (with_reducible first | exact HB.out | apply below_alloc | apply pw_below_drewN | apply below_drew1) | exact HB.out)) hb); clear HO147; clear HB; have HO147 := n0_; have HO151 := n1_; have HB := n2_; clear n0_ n1_ n2_; (try clear hb); (try clear hb2); (try clear hk); (try clear hi); (try clear ho0); obtain ⟨Ao77, co77, eo77⟩ := Kd.R_slice HO147.out; subst eo77))
                              go_ret
                              exact ⟨by first | rfl | (simp [errW_none, errW_some] <;> rfl) | (simp [*, errW_none, errW_some] <;> rfl), by repeat (first | (with_reducible first | exact HB.out | apply below_alloc | apply pw_below_drewN | apply below_drew1) | exact HB.out)⟩
                          · rw [if_neg c57] at H
                            have c57b0 : (t145 == 0) = false := beq_eq_false_iff_ne.mpr c57
                            have c57b1 : (t145 != 0) = true := bne_iff_ne.mpr c57
                            obtain rfl := Option.some.inj H
                            go_wp2_with (first | ((with_reducible refine gate_callee (f := 25) rfl ?_); refine goesL_ (some 60) rfl rfl Tryz.func25 (by kernel_rfl) rfl #[.string (((((((⟨#[60]⟩ : ByteArray) ++ a0) ++ (⟨#[58]⟩ : ByteArray)) ++ a1) ++ (⟨#[32, 120, 109, 108, 110, 115, 58]⟩ : ByteArray)) ++ a0) ++ (⟨#[61, 39, 68, 65, 86, 58, 39, 47, 62]⟩ : ByteArray))] rfl (by (try simp only [List.map_toArray, List.map_cons, List.map_nil]); first | done | rfl | (simp only [List.length_drop, List.length_take]; rfl)) ?_; (with_reducible refine (xml_Parse.calls (((((((⟨#[60]⟩ : ByteArray) ++ a0) ++ (⟨#[58]⟩ : ByteArray)) ++ a1) ++ (⟨#[32, 120, 109, 108, 110, 115, 58]⟩ : ByteArray)) ++ a0) ++ (⟨#[61, 39, 68, 65, 86, 58, 39, 47, 62]⟩ : ByteArray)) t144 t145 _ ?side1 A54.out).mono ?_); (case side1 => exact LaidM.below HT.out (by repeat (first | (with_reducible first | exact HB.out | apply below_alloc | apply pw_below_drewN | apply below_drew1) | exact HB.out))); rintro e w78 ⟨v146, rfl, ho0, hb⟩; refine ⟨_, rfl, ?_⟩; have n0_ := Aside0.mk (Kd.R_lower ho0 (below_size (by repeat (first | (with_reducible first | exact HB.out | apply below_alloc | apply pw_below_drewN | apply below_drew1) | exact HB.out)))); have n1_ := Aside0.mk (below_step (by repeat (first | (with_reducible first | exact HB.out | apply below_alloc | apply pw_below_drewN | apply below_drew1) | exact HB.out)) hb); clear HB; have HO147 := n0_; have HB := n1_; clear n0_ n1_; (try clear hb); (try clear hb2); (try clear hk); (try clear hi); (try clear ho0)) | ((with_reducible refine gate_callee (f := 25) rfl ?_); refine goesL_ (some 70) rfl rfl Tryz.func25 (by kernel_rfl) rfl #[.string (((((⟨#[60]⟩ : ByteArray) ++ a0) ++ (⟨#[58]⟩ : ByteArray)) ++ a1) ++ (⟨#[47, 62]⟩ : ByteArray))] rfl (by (try simp only [List.map_toArray, List.map_cons, List.map_nil]); first | done | rfl | (simp only [List.length_drop, List.length_take]; rfl)) ?_; (with_reducible refine (xml_Parse.calls (((((⟨#[60]⟩ : ByteArray) ++ a0) ++ (⟨#[58]⟩ : ByteArray)) ++ a1) ++ (⟨#[47, 62]⟩ : ByteArray)) t148 t149 _ ?side1 A56.out).mono ?_); (case side1 => exact LaidM.below HT.out (by repeat (first | (with_reducible first | exact HB.out | apply below_alloc | apply pw_below_drewN | apply below_drew1) | exact HB.out))); rintro e w79 ⟨v150, rfl, ho0, hb⟩; refine ⟨_, rfl, ?_⟩; have n0_ := Aside0.mk (Kd.R_elder' (by (with_reducible repeat (first | apply Kd.R_alloc | apply Kd.R_drewN | apply Kd.R_drew)); exact HO147.out) (Kd.R_base ho0) hb); have n1_ := Aside0.mk (Kd.R_lower (Kd.R_new' ho0 (Kd.R_lt (by (with_reducible repeat (first | apply Kd.R_alloc | apply Kd.R_drewN | apply Kd.R_drew)); exact HO147.out))) (below_size (by repeat (first | (with_reducible first | exact HB.out | apply below_alloc | apply pw_below_drewN | apply below_drew1) | exact HB.out)))); have n2_ := Aside0.mk (below_step (by repeat (first | (with_reducible first | exact HB.out | apply below_alloc | apply pw_below_drewN | apply below_drew1) | exact HB.out)) hb); clear HO147; clear HB; have HO147 := n0_; have HO151 := n1_; have HB := n2_; clear n0_ n1_ n2_; (try clear hb); (try clear hb2); (try clear hk); (try clear hi); (try clear ho0)))
                            go_ret
                            exact ⟨by first | rfl | (simp [errW_none, errW_some] <;> rfl) | (simp [*, errW_none, errW_some] <;> rfl), by repeat (first | (with_reducible first | exact HB.out | apply below_alloc | apply pw_below_drewN | apply below_drew1) | exact HB.out)⟩
                        · rw [if_neg c55] at H
                          have c55e := c55
                          (try simp only [ByteArray.size_append, gt_iff_lt, ge_iff_le, show (⟨#[58]⟩ : ByteArray).size = 1 from rfl, show (⟨#[60]⟩ : ByteArray).size = 1 from rfl] at c55e)
                          (try simp only [Int.natCast_add, Int.cast_ofNat_Int] at c55e)
                          (try (have c55e2 := decide_eq_false c55e))
                          (try replace c55e := eq_false c55e)
                          exact absurd H (by simp)
                    · rw [if_neg c19] at H
                      have c19e := c19
                      (try simp only [ByteArray.size_append, gt_iff_lt, ge_iff_le, show (⟨#[32, 120, 109, 108, 110, 115, 58]⟩ : ByteArray).size = 7 from rfl, show (⟨#[58]⟩ : ByteArray).size = 1 from rfl, show (⟨#[60]⟩ : ByteArray).size = 1 from rfl] at c19e)
                      (try simp only [Int.natCast_add, Int.cast_ofNat_Int] at c19e)
                      (try (have c19e2 := decide_eq_false c19e))
                      (try replace c19e := eq_false c19e)
                      exact absurd H (by simp)
                  · rw [if_neg c18] at H
                    have c18e := c18
                    (try simp only [ByteArray.size_append, gt_iff_lt, ge_iff_le, show (⟨#[32, 120, 109, 108, 110, 115, 58]⟩ : ByteArray).size = 7 from rfl, show (⟨#[58]⟩ : ByteArray).size = 1 from rfl, show (⟨#[60]⟩ : ByteArray).size = 1 from rfl] at c18e)
                    (try simp only [Int.natCast_add, Int.cast_ofNat_Int] at c18e)
                    (try (have c18e2 := decide_eq_false c18e))
                    (try replace c18e := eq_false c18e)
                    exact absurd H (by simp)
                · rw [if_neg c17] at H
                  have c17e := c17
                  (try simp only [ByteArray.size_append, gt_iff_lt, ge_iff_le, show (⟨#[58]⟩ : ByteArray).size = 1 from rfl, show (⟨#[60]⟩ : ByteArray).size = 1 from rfl] at c17e)
                  (try simp only [Int.natCast_add, Int.cast_ofNat_Int] at c17e)
                  (try (have c17e2 := decide_eq_false c17e))
                  (try replace c17e := eq_false c17e)
                  exact absurd H (by simp)
              · rw [if_neg c16] at H
                have c16e := c16
                (try simp only [ByteArray.size_append, gt_iff_lt, ge_iff_le, show (⟨#[58]⟩ : ByteArray).size = 1 from rfl, show (⟨#[60]⟩ : ByteArray).size = 1 from rfl] at c16e)
                (try simp only [Int.natCast_add, Int.cast_ofNat_Int] at c16e)
                (try (have c16e2 := decide_eq_false c16e))
                (try replace c16e := eq_false c16e)
                exact absurd H (by simp)
            · rw [if_neg c15] at H
              have c15e := c15
              (try simp only [ByteArray.size_append, gt_iff_lt, ge_iff_le, show (⟨#[60]⟩ : ByteArray).size = 1 from rfl] at c15e)
              (try simp only [Int.natCast_add, Int.cast_ofNat_Int] at c15e)
              (try (have c15e2 := decide_eq_false c15e))
              (try replace c15e := eq_false c15e)
              exact absurd H (by simp)
          · rw [if_neg c14] at H
            exact absurd H (by simp)
  · replace c5 := Bool.eq_false_iff.mpr c5
    subst c5
    have H1 : (some false) = some r := by rw [if_neg (show ¬ (false = true) by decide)] at H; exact H
    clear H
    have H := H1
    clear H1
    obtain rfl := Option.some.inj H
    go_enter Tryz.func6, Tryz.ntmps6
    go_wp2_with (first | ((with_reducible refine gate_callee (f := 19) rfl ?_); refine goesL_ (some 15) rfl rfl Tryz.func19 (by kernel_rfl) rfl #[] rfl (by (try simp only [List.map_toArray, List.map_cons, List.map_nil]); first | done | rfl | (simp only [List.length_drop, List.length_take]; rfl)) ?_; (with_reducible refine (calepinlaw07_first.calls k  false _ ?side1 A4.out).mono ?_); (case side1 => exact LaidM.below HT.out (by repeat (first | (with_reducible first | exact HB.out | apply below_alloc | apply pw_below_drewN | apply below_drew1) | exact HB.out))); rintro e w80 ⟨rfl, hb⟩; refine ⟨_, rfl, ?_⟩; have n0_ := Aside0.mk (below_step (by repeat (first | (with_reducible first | exact HB.out | apply below_alloc | apply pw_below_drewN | apply below_drew1) | exact HB.out)) hb); clear HB; have HB := n0_; clear n0_; (try clear hb); (try clear hb2); (try clear hk); (try clear hi)))
    go_ret
    exact ⟨by first | rfl | (simp [errW_none, errW_some] <;> rfl) | (simp [*, errW_none, errW_some] <;> rfl), by repeat (first | (with_reducible first | exact HB.out | apply below_alloc | apply pw_below_drewN | apply below_drew1) | exact HB.out)⟩

/-- THE ONE PURE STATEMENT of calepinlaw07_XmlNames: yours. -/
def calepinlaw07_XmlNames.Pure : Prop := ∀ (a0 : ByteArray) (a1 : ByteArray) (a2 : Bool), a0.size ≤ 140737488351232 → a1.size ≤ 140737488351232 → ∃ k, calepinlaw07_XmlNames.f k a0 a1 a2 = some true
theorem calepinlaw07_XmlNames.walk (P : calepinlaw07_XmlNames.Pure) (a0 : ByteArray) (a1 : ByteArray) (a2 : Bool) (w : World) (w0 : a0.size ≤ 140737488351232) (w1 : a1.size ≤ 140737488351232) (hT : LaidM w) :
    Calls Tryz.prog 6 #[.string a0, .string a1, .bool a2] w fun e w' => e = .returned (.bool true) ∧ Below w.heap.size w w' := by
  obtain ⟨k, h⟩ := P a0 a1 a2 w0 w1
  refine (calepinlaw07_XmlNames.calls k a0 a1 a2 true w hT h).mono ?_
  rintro e w' ⟨rfl, hd⟩
  exact ⟨rfl, hd⟩

end Go.Proofs.YtpaopeiegaijiaaGreatDoor.XXmlNames
