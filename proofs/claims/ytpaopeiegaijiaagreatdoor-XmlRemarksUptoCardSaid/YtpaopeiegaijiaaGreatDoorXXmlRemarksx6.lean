-- written by wip/xprint.py: the kit's print with functions walked by hand
import Derived.Test.YtpaopeiegaijiaaGreatDoorXXmlRemarksx0
import Derived.Test.YtpaopeiegaijiaaGreatDoorXXmlRemarksx4
import Derived.Test.YtpaopeiegaijiaaGreatDoorXXmlRemarksx5
namespace Go.Proofs.YtpaopeiegaijiaaGreatDoor.XXmlRemarks
open Go.RowKit Go.Proofs.YtpaopeiegaijiaaGreatDoorW.PrintWords Go.Proofs.YtpaopeiegaijiaaGreatDoorW.PrintLast Go.Proofs.YtpaopeiegaijiaaGreatDoorW.PrintMore
attribute [local go_sem] max2_int min2_int max_two min_two max_three min_three max_four min_four   -- for this text's walks alone
set_option linter.unusedVariables false
set_option linter.unusedSimpArgs false

/-! ### calepinref07_Right: function 23 -/
mutual
def calepinref07_Right.l0 : Nat → List (S60) → List (S60) → List (S60) → Int → Int → Option (Bool)
  | 0, _, _, _, _, _ => none
  | k + 1, x0, x3, x7, x8, x9 => if x9 < x8 then (if 0 ≤ x9 then (if x9 < (x7.length : Int) then (if x9 > 0 then (calepinref07_Right.j1 k x0 x3 x9 x7 x8 x9 ((x3.length : Int) == 0) ((rd_T60 x7 x9).f0) ((rd_T60 x7 x9).f1) ((rd_T60 x7 x9).f2) ((rd_T60 x7 x9).f3)) else (calepinref07_Right.j1 k x0 x3 x9 x7 x8 x9 false ((rd_T60 x7 x9).f0) ((rd_T60 x7 x9).f1) ((rd_T60 x7 x9).f2) ((rd_T60 x7 x9).f3))) else (none)) else (none)) else (if (x0.length : Int) > 0 then (some ((x3.length : Int) == 0)) else (some false))
def calepinref07_Right.j1 : Nat → List (S60) → List (S60) → Int → List (S60) → Int → Int → Bool → Int → Int → ByteArray → ByteArray → Option (Bool)
  | 0, _, _, _, _, _, _, _, _, _, _, _ => none
  | k + 1, x0, x3, x4, x7, x8, x9, x20, x138000, x138001, x138002, x138003 => if x20 = true then (some false) else (if x138000 = 1 then (calepinref07_Right.j2 k x0 x3 x4 x7 x8 x9 x138000 (x138000 == 1) x138000 x138001 x138002 x138003) else (calepinref07_Right.j2 k x0 x3 x4 x7 x8 x9 x138000 (x138000 == 2) x138000 x138001 x138002 x138003))
def calepinref07_Right.j3 : Nat → List (S60) → List (S60) → List (S60) → Int → Int → Int → Int → ByteArray → ByteArray → Option (Bool)
  | 0, _, _, _, _, _, _, _, _, _ => none
  | k + 1, x0, x3, x7, x8, x9, x138000, x138001, x138002, x138003 => if x138000 = 1 then (if x3.length < 2932031007402 then (calepinref07_Right.j4 k x0 (x3 ++ [(⟨x138000, x138001, x138002, x138003⟩ : S60)]) x7 x8 x9 x138000 x138001 x138002 x138003) else (none)) else (calepinref07_Right.j4 k x0 x3 x7 x8 x9 x138000 x138001 x138002 x138003)
def calepinref07_Right.j4 : Nat → List (S60) → List (S60) → List (S60) → Int → Int → Int → Int → ByteArray → ByteArray → Option (Bool)
  | 0, _, _, _, _, _, _, _, _, _ => none
  | k + 1, x0, x3, x7, x8, x9, x138000, x138001, x138002, x138003 => if x138000 = 2 then (if (x3.length : Int) = 0 then (calepinref07_Right.j5 k x0 x3 (x3.length : Int) x7 x8 x9 true) else (if 0 ≤ (wrap64 ((x3.length : Int) - 1)) then (if (wrap64 ((x3.length : Int) - 1)) < (x3.length : Int) then (if ((rd_T60 x3 (wrap64 ((x3.length : Int) - 1))).f2).toList = x138002.toList then (calepinref07_Right.j5 k x0 x3 (x3.length : Int) x7 x8 x9 (((rd_T60 x3 (wrap64 ((x3.length : Int) - 1))).f1) != x138001)) else (calepinref07_Right.j5 k x0 x3 (x3.length : Int) x7 x8 x9 true)) else (none)) else (none))) else (if (x3.length : Int) > 16 then (some false) else (calepinref07_Right.l0 k x0 x3 x7 x8 (wrap64 (x9 + 1))))
def calepinref07_Right.j5 : Nat → List (S60) → List (S60) → Int → List (S60) → Int → Int → Bool → Option (Bool)
  | 0, _, _, _, _, _, _, _ => none
  | k + 1, x0, x3, x6, x7, x8, x9, x125 => if x125 = true then (some false) else (if 0 ≤ (wrap64 (x6 - 1)) then (if (wrap64 (x6 - 1)) ≤ (x3.length : Int) then ((some (x3.take ((wrap64 (x6 - 1)) : Int).toNat : List (S60))).bind fun y147 => (if (y147.length : Int) > 16 then (some false) else (calepinref07_Right.l0 k x0 y147 x7 x8 (wrap64 (x9 + 1))))) else (none)) else (none))
def calepinref07_Right.j2 : Nat → List (S60) → List (S60) → Int → List (S60) → Int → Int → Int → Bool → Int → Int → ByteArray → ByteArray → Option (Bool)
  | 0, _, _, _, _, _, _, _, _, _, _, _, _ => none
  | k + 1, x0, x3, x4, x7, x8, x9, x22, x23, x138000, x138001, x138002, x138003 => if x23 = true then (if (x138003.size : Int) > 0 then (some false) else (if x138001 < 0 then (some false) else (if x138001 > 2 then (some false) else ((calepinref07_Name.f k x138002 0).bind fun t138 => (if t138 = (x138002.size : Int) then (if (x138002.size : Int) = 0 then (some false) else (calepinref07_Right.j3 k x0 x3 x7 x8 x9 x138000 x138001 x138002 x138003)) else (some false)))))) else (if x22 = 3 then (if x4 = 0 then (some false) else (if 0 ≤ (wrap64 (x4 - 1)) then (if (wrap64 (x4 - 1)) < (x0.length : Int) then (if ((rd_T60 x0 (wrap64 (x4 - 1))).f0) = 3 then (some false) else (if (x138002.size : Int) > 0 then (some false) else (if x138001 = 0 then ((calepinref01_Valid.f k x138003).bind fun t140 => (if t140 = true then ((calepinref07_Blanks.f k x138003).bind fun t141 => (if t141 = true then (some false) else (calepinref07_Right.j3 k x0 x3 x7 x8 x9 x138000 x138001 x138002 x138003))) else (some false))) else (some false)))) else (none)) else (none))) else (some false))
end
def calepinref07_Right.f (k : Nat) (l0 : List (S60)) : Option (Bool) := calepinref07_Right.l0 k l0 ([] : List (S60)) l0 (l0.length : Int) 0
theorem calepinref07_Right.mono_l : ∀ k, (∀ y0 y1 y2 y3 y4, LeO (calepinref07_Right.l0 k y0 y1 y2 y3 y4) (calepinref07_Right.l0 (k + 1) y0 y1 y2 y3 y4)) ∧ (∀ y0 y1 y2 y3 y4 y5 y6 y7 y8 y9 y10, LeO (calepinref07_Right.j1 k y0 y1 y2 y3 y4 y5 y6 y7 y8 y9 y10) (calepinref07_Right.j1 (k + 1) y0 y1 y2 y3 y4 y5 y6 y7 y8 y9 y10)) ∧ (∀ y0 y1 y2 y3 y4 y5 y6 y7 y8, LeO (calepinref07_Right.j3 k y0 y1 y2 y3 y4 y5 y6 y7 y8) (calepinref07_Right.j3 (k + 1) y0 y1 y2 y3 y4 y5 y6 y7 y8)) ∧ (∀ y0 y1 y2 y3 y4 y5 y6 y7 y8, LeO (calepinref07_Right.j4 k y0 y1 y2 y3 y4 y5 y6 y7 y8) (calepinref07_Right.j4 (k + 1) y0 y1 y2 y3 y4 y5 y6 y7 y8)) ∧ (∀ y0 y1 y2 y3 y4 y5 y6, LeO (calepinref07_Right.j5 k y0 y1 y2 y3 y4 y5 y6) (calepinref07_Right.j5 (k + 1) y0 y1 y2 y3 y4 y5 y6)) ∧ (∀ y0 y1 y2 y3 y4 y5 y6 y7 y8 y9 y10 y11, LeO (calepinref07_Right.j2 k y0 y1 y2 y3 y4 y5 y6 y7 y8 y9 y10 y11) (calepinref07_Right.j2 (k + 1) y0 y1 y2 y3 y4 y5 y6 y7 y8 y9 y10 y11))
  | 0 => ⟨fun _ _ _ _ _ r h => by simp [calepinref07_Right.l0] at h, fun _ _ _ _ _ _ _ _ _ _ _ r h => by simp [calepinref07_Right.j1] at h, fun _ _ _ _ _ _ _ _ _ r h => by simp [calepinref07_Right.j3] at h, fun _ _ _ _ _ _ _ _ _ r h => by simp [calepinref07_Right.j4] at h, fun _ _ _ _ _ _ _ r h => by simp [calepinref07_Right.j5] at h, fun _ _ _ _ _ _ _ _ _ _ _ _ r h => by simp [calepinref07_Right.j2] at h⟩
  | k + 1 => by
    obtain ⟨ih0, ih1, ih2, ih3, ih4, ih5⟩ := calepinref07_Right.mono_l k
    refine ⟨?_, ?_, ?_, ?_, ?_, ?_⟩
    · intro y0 y1 y2 y3 y4
      unfold calepinref07_Right.l0
      repeat' first
      | (with_reducible exact ih0 _ _ _ _ _)
      | (with_reducible exact ih1 _ _ _ _ _ _ _ _ _ _ _)
      | (with_reducible exact ih2 _ _ _ _ _ _ _ _ _)
      | (with_reducible exact ih3 _ _ _ _ _ _ _ _ _)
      | (with_reducible exact ih4 _ _ _ _ _ _ _)
      | (with_reducible exact ih5 _ _ _ _ _ _ _ _ _ _ _ _)
      | (with_reducible exact calepinref01_Valid.mono _ _)
      | (with_reducible exact calepinref07_Blanks.mono _ _)
      | (with_reducible exact calepinref07_Name.mono _ _ _)
      | (with_reducible exact LeO.refl _)
      | (with_reducible exact LeO.none _)
      | (with_reducible refine LeO.ite ?_ ?_)
      | (with_reducible refine LeO.bind ?_ (fun _ => ?_))
      | exact ih0 _ _ _ _ _
      | exact ih1 _ _ _ _ _ _ _ _ _ _ _
      | exact ih2 _ _ _ _ _ _ _ _ _
      | exact ih3 _ _ _ _ _ _ _ _ _
      | exact ih4 _ _ _ _ _ _ _
      | exact ih5 _ _ _ _ _ _ _ _ _ _ _ _
      | exact calepinref01_Valid.mono _ _
      | exact calepinref07_Blanks.mono _ _
      | exact calepinref07_Name.mono _ _ _
      | exact LeO.none _
      | refine LeO.ite ?_ ?_
      | refine LeO.bind ?_ (fun _ => ?_)
    · intro y0 y1 y2 y3 y4 y5 y6 y7 y8 y9 y10
      unfold calepinref07_Right.j1
      repeat' first
      | (with_reducible exact ih0 _ _ _ _ _)
      | (with_reducible exact ih1 _ _ _ _ _ _ _ _ _ _ _)
      | (with_reducible exact ih2 _ _ _ _ _ _ _ _ _)
      | (with_reducible exact ih3 _ _ _ _ _ _ _ _ _)
      | (with_reducible exact ih4 _ _ _ _ _ _ _)
      | (with_reducible exact ih5 _ _ _ _ _ _ _ _ _ _ _ _)
      | (with_reducible exact calepinref01_Valid.mono _ _)
      | (with_reducible exact calepinref07_Blanks.mono _ _)
      | (with_reducible exact calepinref07_Name.mono _ _ _)
      | (with_reducible exact LeO.refl _)
      | (with_reducible exact LeO.none _)
      | (with_reducible refine LeO.ite ?_ ?_)
      | (with_reducible refine LeO.bind ?_ (fun _ => ?_))
      | exact ih0 _ _ _ _ _
      | exact ih1 _ _ _ _ _ _ _ _ _ _ _
      | exact ih2 _ _ _ _ _ _ _ _ _
      | exact ih3 _ _ _ _ _ _ _ _ _
      | exact ih4 _ _ _ _ _ _ _
      | exact ih5 _ _ _ _ _ _ _ _ _ _ _ _
      | exact calepinref01_Valid.mono _ _
      | exact calepinref07_Blanks.mono _ _
      | exact calepinref07_Name.mono _ _ _
      | exact LeO.none _
      | refine LeO.ite ?_ ?_
      | refine LeO.bind ?_ (fun _ => ?_)
    · intro y0 y1 y2 y3 y4 y5 y6 y7 y8
      unfold calepinref07_Right.j3
      repeat' first
      | (with_reducible exact ih0 _ _ _ _ _)
      | (with_reducible exact ih1 _ _ _ _ _ _ _ _ _ _ _)
      | (with_reducible exact ih2 _ _ _ _ _ _ _ _ _)
      | (with_reducible exact ih3 _ _ _ _ _ _ _ _ _)
      | (with_reducible exact ih4 _ _ _ _ _ _ _)
      | (with_reducible exact ih5 _ _ _ _ _ _ _ _ _ _ _ _)
      | (with_reducible exact calepinref01_Valid.mono _ _)
      | (with_reducible exact calepinref07_Blanks.mono _ _)
      | (with_reducible exact calepinref07_Name.mono _ _ _)
      | (with_reducible exact LeO.refl _)
      | (with_reducible exact LeO.none _)
      | (with_reducible refine LeO.ite ?_ ?_)
      | (with_reducible refine LeO.bind ?_ (fun _ => ?_))
      | exact ih0 _ _ _ _ _
      | exact ih1 _ _ _ _ _ _ _ _ _ _ _
      | exact ih2 _ _ _ _ _ _ _ _ _
      | exact ih3 _ _ _ _ _ _ _ _ _
      | exact ih4 _ _ _ _ _ _ _
      | exact ih5 _ _ _ _ _ _ _ _ _ _ _ _
      | exact calepinref01_Valid.mono _ _
      | exact calepinref07_Blanks.mono _ _
      | exact calepinref07_Name.mono _ _ _
      | exact LeO.none _
      | refine LeO.ite ?_ ?_
      | refine LeO.bind ?_ (fun _ => ?_)
    · intro y0 y1 y2 y3 y4 y5 y6 y7 y8
      unfold calepinref07_Right.j4
      repeat' first
      | (with_reducible exact ih0 _ _ _ _ _)
      | (with_reducible exact ih1 _ _ _ _ _ _ _ _ _ _ _)
      | (with_reducible exact ih2 _ _ _ _ _ _ _ _ _)
      | (with_reducible exact ih3 _ _ _ _ _ _ _ _ _)
      | (with_reducible exact ih4 _ _ _ _ _ _ _)
      | (with_reducible exact ih5 _ _ _ _ _ _ _ _ _ _ _ _)
      | (with_reducible exact calepinref01_Valid.mono _ _)
      | (with_reducible exact calepinref07_Blanks.mono _ _)
      | (with_reducible exact calepinref07_Name.mono _ _ _)
      | (with_reducible exact LeO.refl _)
      | (with_reducible exact LeO.none _)
      | (with_reducible refine LeO.ite ?_ ?_)
      | (with_reducible refine LeO.bind ?_ (fun _ => ?_))
      | exact ih0 _ _ _ _ _
      | exact ih1 _ _ _ _ _ _ _ _ _ _ _
      | exact ih2 _ _ _ _ _ _ _ _ _
      | exact ih3 _ _ _ _ _ _ _ _ _
      | exact ih4 _ _ _ _ _ _ _
      | exact ih5 _ _ _ _ _ _ _ _ _ _ _ _
      | exact calepinref01_Valid.mono _ _
      | exact calepinref07_Blanks.mono _ _
      | exact calepinref07_Name.mono _ _ _
      | exact LeO.none _
      | refine LeO.ite ?_ ?_
      | refine LeO.bind ?_ (fun _ => ?_)
    · intro y0 y1 y2 y3 y4 y5 y6
      unfold calepinref07_Right.j5
      repeat' first
      | (with_reducible exact ih0 _ _ _ _ _)
      | (with_reducible exact ih1 _ _ _ _ _ _ _ _ _ _ _)
      | (with_reducible exact ih2 _ _ _ _ _ _ _ _ _)
      | (with_reducible exact ih3 _ _ _ _ _ _ _ _ _)
      | (with_reducible exact ih4 _ _ _ _ _ _ _)
      | (with_reducible exact ih5 _ _ _ _ _ _ _ _ _ _ _ _)
      | (with_reducible exact calepinref01_Valid.mono _ _)
      | (with_reducible exact calepinref07_Blanks.mono _ _)
      | (with_reducible exact calepinref07_Name.mono _ _ _)
      | (with_reducible exact LeO.refl _)
      | (with_reducible exact LeO.none _)
      | (with_reducible refine LeO.ite ?_ ?_)
      | (with_reducible refine LeO.bind ?_ (fun _ => ?_))
      | exact ih0 _ _ _ _ _
      | exact ih1 _ _ _ _ _ _ _ _ _ _ _
      | exact ih2 _ _ _ _ _ _ _ _ _
      | exact ih3 _ _ _ _ _ _ _ _ _
      | exact ih4 _ _ _ _ _ _ _
      | exact ih5 _ _ _ _ _ _ _ _ _ _ _ _
      | exact calepinref01_Valid.mono _ _
      | exact calepinref07_Blanks.mono _ _
      | exact calepinref07_Name.mono _ _ _
      | exact LeO.none _
      | refine LeO.ite ?_ ?_
      | refine LeO.bind ?_ (fun _ => ?_)
    · intro y0 y1 y2 y3 y4 y5 y6 y7 y8 y9 y10 y11
      unfold calepinref07_Right.j2
      repeat' first
      | (with_reducible exact ih0 _ _ _ _ _)
      | (with_reducible exact ih1 _ _ _ _ _ _ _ _ _ _ _)
      | (with_reducible exact ih2 _ _ _ _ _ _ _ _ _)
      | (with_reducible exact ih3 _ _ _ _ _ _ _ _ _)
      | (with_reducible exact ih4 _ _ _ _ _ _ _)
      | (with_reducible exact ih5 _ _ _ _ _ _ _ _ _ _ _ _)
      | (with_reducible exact calepinref01_Valid.mono _ _)
      | (with_reducible exact calepinref07_Blanks.mono _ _)
      | (with_reducible exact calepinref07_Name.mono _ _ _)
      | (with_reducible exact LeO.refl _)
      | (with_reducible exact LeO.none _)
      | (with_reducible refine LeO.ite ?_ ?_)
      | (with_reducible refine LeO.bind ?_ (fun _ => ?_))
      | exact ih0 _ _ _ _ _
      | exact ih1 _ _ _ _ _ _ _ _ _ _ _
      | exact ih2 _ _ _ _ _ _ _ _ _
      | exact ih3 _ _ _ _ _ _ _ _ _
      | exact ih4 _ _ _ _ _ _ _
      | exact ih5 _ _ _ _ _ _ _ _ _ _ _ _
      | exact calepinref01_Valid.mono _ _
      | exact calepinref07_Blanks.mono _ _
      | exact calepinref07_Name.mono _ _ _
      | exact LeO.none _
      | refine LeO.ite ?_ ?_
      | refine LeO.bind ?_ (fun _ => ?_)
theorem calepinref07_Right.mono : ∀ a0 k, LeO (calepinref07_Right.f k a0) (calepinref07_Right.f (k + 1) a0) := by
  intro a0 k
  obtain ⟨ih0, ih1, ih2, ih3, ih4, ih5⟩ := calepinref07_Right.mono_l k
  unfold calepinref07_Right.f
  repeat' first
      | (with_reducible exact ih0 _ _ _ _ _)
      | (with_reducible exact ih1 _ _ _ _ _ _ _ _ _ _ _)
      | (with_reducible exact ih2 _ _ _ _ _ _ _ _ _)
      | (with_reducible exact ih3 _ _ _ _ _ _ _ _ _)
      | (with_reducible exact ih4 _ _ _ _ _ _ _)
      | (with_reducible exact ih5 _ _ _ _ _ _ _ _ _ _ _ _)
      | (with_reducible exact calepinref01_Valid.mono _ _)
      | (with_reducible exact calepinref07_Blanks.mono _ _)
      | (with_reducible exact calepinref07_Name.mono _ _ _)
      | (with_reducible exact LeO.refl _)
      | (with_reducible exact LeO.none _)
      | (with_reducible refine LeO.ite ?_ ?_)
      | (with_reducible refine LeO.bind ?_ (fun _ => ?_))
      | exact ih0 _ _ _ _ _
      | exact ih1 _ _ _ _ _ _ _ _ _ _ _
      | exact ih2 _ _ _ _ _ _ _ _ _
      | exact ih3 _ _ _ _ _ _ _ _ _
      | exact ih4 _ _ _ _ _ _ _
      | exact ih5 _ _ _ _ _ _ _ _ _ _ _ _
      | exact calepinref01_Valid.mono _ _
      | exact calepinref07_Blanks.mono _ _
      | exact calepinref07_Name.mono _ _ _
      | exact LeO.none _
      | refine LeO.ite ?_ ?_
      | refine LeO.bind ?_ (fun _ => ?_)
set_option maxHeartbeats 8000000 in
set_option maxRecDepth 100000 in
theorem calepinref07_Right.calls (k : Nat) (A0 : Option Addr) (c0 : Nat) (l0 : List (S60)) (r : Bool) (w : World) (hr0 : Kd.C k60 w A0 l0.length l0) (hc0 : l0.length ≤ c0) (hT : LaidM w) (h : calepinref07_Right.f k l0 = some r) :
    Calls Tryz.prog 23 #[.slice A0 l0.length c0] w fun e w' => e = .returned (.bool r) ∧ Below w.heap.size w w' := by
  have hu60 := Tryz.underlying60
  have HR0 := Aside0.mk hr0
  have HC0 := Aside0.mk hc0
  clear hr0 hc0
  have HB := Aside0.mk (Below.refl w.heap.size w)
  have HT := Aside0.mk hT
  clear hT
  have H : (calepinref07_Right.l0 k l0 ([] : List (S60)) l0 (l0.length : Int) 0) = some r := h
  clear h
  have H' := Aside0.mk H
  clear H
  go_enter Tryz.func23, Tryz.ntmps23
  go_wp2
  repeat (go_quiet (fail); try go_wp2)
  go_loopg [3, 9] k (fun kq v3 v9 w' => ∃ (x3_1 : List (S60)) (x9_1 : Int), v9 = .int .i64 x9_1 ∧ Aside0 (calepinref07_Right.l0 kq l0 x3_1 l0 (l0.length : Int) x9_1 = some r) ∧ Aside0 (kq ≤ k) ∧ Aside0 (Kd.R k60 60 w' w.heap.size (fun _ => True) v3 x3_1) ∧ Aside0 (Below w.heap.size w w'))
  case atStart => exact ⟨(([] : List (S60))), (0), (by first | rfl | (simp; done) | (simp [*]; done)), H', ⟨Nat.le_refl _⟩, ⟨by first | exact Kd.R_nil _ _ _ _ _ | exact Kd.N_nil _ _ _ _ _ | exact Kd.V_nil _ _ _ _ _ | exact Kd.Q_nil _ _ _ _ _ | exact Kd.S_nil _ _ _ _ _⟩, ⟨by repeat (first | (with_reducible first | exact HB.out | apply below_alloc | apply pw_below_drewN | apply below_drew1) | exact HB.out)⟩⟩
  case round =>
    clear H'
    obtain ⟨x3_1, x9_1, rfl, HA, HK1, HO_3, HB⟩ := hrel
    cases gk with
    | zero => exact absurd HA.out (by simp [calepinref07_Right.l0])
    | succ k1 =>
      have H := HA.out
      clear HA
      simp only [calepinref07_Right.l0] at H
      by_cases c2 : x9_1 < (l0.length : Int)
      · rw [if_pos c2] at H
        have c2b0 : decide (x9_1 < (l0.length : Int)) = true := decide_eq_true c2
        clear c2
        by_cases c3 : 0 ≤ x9_1
        · rw [if_pos c3] at H
          have c3b0 : decide (0 ≤ x9_1) = true := decide_eq_true c3
          clear c3
          by_cases c4 : x9_1 < (l0.length : Int)
          · rw [if_pos c4] at H
            have c4b0 : decide (x9_1 < (l0.length : Int)) = true := decide_eq_true c4
            clear c4
            have HC5 := Aside0.mk H
            clear H
            have p136 : 0 ≤ (x9_1 : Int) := of_decide_eq_true (by first | (with_reducible assumption) | assumption)
            have q136 : x9_1 < (l0.length : Int) := of_decide_eq_true (by first | (with_reducible assumption) | assumption)
            obtain ⟨ad136, e136, hx136_0, hx136_1, hx136_2, hx136_3⟩ := at_T60 HR0.out x9_1 p136 q136
            cases e136
            replace hx136_0 := (HB.out.cell (World.block_lt_of_cell? w _ hx136_0)).trans hx136_0
            replace hx136_1 := (HB.out.cell (World.block_lt_of_cell? w _ hx136_1)).trans hx136_1
            replace hx136_2 := (HB.out.cell (World.block_lt_of_cell? w _ hx136_2)).trans hx136_2
            replace hx136_3 := (HB.out.cell (World.block_lt_of_cell? w _ hx136_3)).trans hx136_3
            replace p136 := eq_true p136
            replace q136 := eq_true q136
            go_upto_region 5 with (first | ((with_reducible refine gate_dst (N := 5) rfl ?_); (try (refine gate_guard (by rfl) ?_; dsimp only)); refine box_event ?hg (N := 5) ?hd (cs := #[.int .i64 0, .int .i64 0, .string (⟨#[]⟩ : ByteArray), .string (⟨#[]⟩ : ByteArray)]) (t := 60) ?hr ?_; (case hd => rfl); (case hg => rfl); (case hr => first | (go_simp; done) | (go_simp; rfl)); intro gb137 hg w6 hbox hb; have n0_ := Aside0.mk (Kd.R_below (Kd.R_elderB (by (with_reducible repeat (first | apply Kd.R_alloc | apply Kd.R_drewN | apply Kd.R_drew)); exact HO_3.out) gb137 (Nat.le_of_eq hg.symm)) hb); have n1_ := Aside0.mk (below_step (by repeat (first | (with_reducible first | exact HB.out | apply below_alloc | apply pw_below_drewN | apply below_drew1) | exact HB.out)) hb); have n2_ := Aside0.mk (hbox); have n3_ := Aside0.mk ((by rw [hg]; exact (below_size (by repeat (first | (with_reducible first | exact HB.out | apply below_alloc | apply pw_below_drewN | apply below_drew1) | exact HB.out))) : w.heap.size ≤ gb137)); have n4_ := Aside0.mk ((by rw [hg]; exact (below_size (by repeat (first | (with_reducible first | exact HB.out | apply below_alloc | apply pw_below_drewN | apply below_drew1) | exact HB.out))) : w.heap.size ≤ gb137)); clear HO_3; clear HB; have HO_3 := n0_; have HB := n1_; have BK137 := n2_; have GW137 := n3_; have GE137 := n4_; clear n0_ n1_ n2_ n3_ n4_; clear hb hbox hg; have hcz7_0 : w6.cell? ⟨gb137, 0, none⟩ = some (.int .i64 0) := (blk_cell BK137.out 0).trans rfl; have hcz7_1 : w6.cell? ⟨gb137, 1, none⟩ = some (.int .i64 0) := (blk_cell BK137.out 1).trans rfl; have hcz7_2 : w6.cell? ⟨gb137, 2, none⟩ = some (.string (⟨#[]⟩ : ByteArray)) := (blk_cell BK137.out 2).trans rfl; have hcz7_3 : w6.cell? ⟨gb137, 3, none⟩ = some (.string (⟨#[]⟩ : ByteArray)) := (blk_cell BK137.out 3).trans rfl; have hfz7_0 := blk_frozen BK137.out 0; have hfz7_1 := blk_frozen BK137.out 1; have hfz7_2 := blk_frozen BK137.out 2; have hfz7_3 := blk_frozen BK137.out 3))
            repeat (go_quiet (first | ((with_reducible refine gate_dst (N := 5) rfl ?_); (try (refine gate_guard (by rfl) ?_; dsimp only)); refine box_event ?hg (N := 5) ?hd (cs := #[.int .i64 0, .int .i64 0, .string (⟨#[]⟩ : ByteArray), .string (⟨#[]⟩ : ByteArray)]) (t := 60) ?hr ?_; (case hd => rfl); (case hg => rfl); (case hr => first | (go_simp; done) | (go_simp; rfl)); intro gb137 hg w6 hbox hb; have n0_ := Aside0.mk (Kd.R_below (Kd.R_elderB (by (with_reducible repeat (first | apply Kd.R_alloc | apply Kd.R_drewN | apply Kd.R_drew)); exact HO_3.out) gb137 (Nat.le_of_eq hg.symm)) hb); have n1_ := Aside0.mk (below_step (by repeat (first | (with_reducible first | exact HB.out | apply below_alloc | apply pw_below_drewN | apply below_drew1) | exact HB.out)) hb); have n2_ := Aside0.mk (hbox); have n3_ := Aside0.mk ((by rw [hg]; exact (below_size (by repeat (first | (with_reducible first | exact HB.out | apply below_alloc | apply pw_below_drewN | apply below_drew1) | exact HB.out))) : w.heap.size ≤ gb137)); have n4_ := Aside0.mk ((by rw [hg]; exact (below_size (by repeat (first | (with_reducible first | exact HB.out | apply below_alloc | apply pw_below_drewN | apply below_drew1) | exact HB.out))) : w.heap.size ≤ gb137)); clear HO_3; clear HB; have HO_3 := n0_; have HB := n1_; have BK137 := n2_; have GW137 := n3_; have GE137 := n4_; clear n0_ n1_ n2_ n3_ n4_; clear hb hbox hg; have hcz7_0 : w6.cell? ⟨gb137, 0, none⟩ = some (.int .i64 0) := (blk_cell BK137.out 0).trans rfl; have hcz7_1 : w6.cell? ⟨gb137, 1, none⟩ = some (.int .i64 0) := (blk_cell BK137.out 1).trans rfl; have hcz7_2 : w6.cell? ⟨gb137, 2, none⟩ = some (.string (⟨#[]⟩ : ByteArray)) := (blk_cell BK137.out 2).trans rfl; have hcz7_3 : w6.cell? ⟨gb137, 3, none⟩ = some (.string (⟨#[]⟩ : ByteArray)) := (blk_cell BK137.out 3).trans rfl; have hfz7_0 := blk_frozen BK137.out 0; have hfz7_1 := blk_frozen BK137.out 1; have hfz7_2 := blk_frozen BK137.out 2; have hfz7_3 := blk_frozen BK137.out 3)); go_upto_region 5 with (first | ((with_reducible refine gate_dst (N := 5) rfl ?_); (try (refine gate_guard (by rfl) ?_; dsimp only)); refine box_event ?hg (N := 5) ?hd (cs := #[.int .i64 0, .int .i64 0, .string (⟨#[]⟩ : ByteArray), .string (⟨#[]⟩ : ByteArray)]) (t := 60) ?hr ?_; (case hd => rfl); (case hg => rfl); (case hr => first | (go_simp; done) | (go_simp; rfl)); intro gb137 hg w6 hbox hb; have n0_ := Aside0.mk (Kd.R_below (Kd.R_elderB (by (with_reducible repeat (first | apply Kd.R_alloc | apply Kd.R_drewN | apply Kd.R_drew)); exact HO_3.out) gb137 (Nat.le_of_eq hg.symm)) hb); have n1_ := Aside0.mk (below_step (by repeat (first | (with_reducible first | exact HB.out | apply below_alloc | apply pw_below_drewN | apply below_drew1) | exact HB.out)) hb); have n2_ := Aside0.mk (hbox); have n3_ := Aside0.mk ((by rw [hg]; exact (below_size (by repeat (first | (with_reducible first | exact HB.out | apply below_alloc | apply pw_below_drewN | apply below_drew1) | exact HB.out))) : w.heap.size ≤ gb137)); have n4_ := Aside0.mk ((by rw [hg]; exact (below_size (by repeat (first | (with_reducible first | exact HB.out | apply below_alloc | apply pw_below_drewN | apply below_drew1) | exact HB.out))) : w.heap.size ≤ gb137)); clear HO_3; clear HB; have HO_3 := n0_; have HB := n1_; have BK137 := n2_; have GW137 := n3_; have GE137 := n4_; clear n0_ n1_ n2_ n3_ n4_; clear hb hbox hg; have hcz7_0 : w6.cell? ⟨gb137, 0, none⟩ = some (.int .i64 0) := (blk_cell BK137.out 0).trans rfl; have hcz7_1 : w6.cell? ⟨gb137, 1, none⟩ = some (.int .i64 0) := (blk_cell BK137.out 1).trans rfl; have hcz7_2 : w6.cell? ⟨gb137, 2, none⟩ = some (.string (⟨#[]⟩ : ByteArray)) := (blk_cell BK137.out 2).trans rfl; have hcz7_3 : w6.cell? ⟨gb137, 3, none⟩ = some (.string (⟨#[]⟩ : ByteArray)) := (blk_cell BK137.out 3).trans rfl; have hfz7_0 := blk_frozen BK137.out 0; have hfz7_1 := blk_frozen BK137.out 1; have hfz7_2 := blk_frozen BK137.out 2; have hfz7_3 := blk_frozen BK137.out 3)))
            (try simp only [Act.put, List.setIfInBounds_toArray, List.set_cons_zero, List.set_cons_succ])
            go_cut [20] (fun v20 wc => ∃ (kq : Nat) (x20_4 : Bool), v20 = .bool x20_4 ∧ Aside0 (calepinref07_Right.j1 kq l0 x3_1 x9_1 l0 (l0.length : Int) x9_1 x20_4 ((rd_T60 l0 x9_1).f0) ((rd_T60 l0 x9_1).f1) ((rd_T60 l0 x9_1).f2) ((rd_T60 l0 x9_1).f3) = some r) ∧ Aside0 (kq ≤ k1) ∧ Aside0 (Kd.R k60 60 wc w.heap.size (fun k_ => k_ ≠ gb137) u3 x3_1) ∧ Aside0 (wc.heap[gb137]? = some (.cells #[.int .i64 ((rd_T60 l0 x9_1).f0), .int .i64 ((rd_T60 l0 x9_1).f1), .string ((rd_T60 l0 x9_1).f2), .string ((rd_T60 l0 x9_1).f3)] 60 (0, 0))) ∧ Aside0 (Below w.heap.size w wc))
            case first =>
              have H := HC5.out
              clear HC5
              by_cases c8 : x9_1 > 0
              · rw [if_pos c8] at H
                have c8b0 : decide (0 < x9_1) = true := decide_eq_true c8
                clear c8
                (first | rw [c8b0] | (simp only [i64_w, i32_w]; rw [c8b0]) | skip)
                have H' := Aside0.mk H
                clear H
                obtain ⟨Ao9, co9, eo9⟩ := Kd.R_slice HO_3.out
                subst eo9
                go_wp2
                repeat (go_quiet (fail); try go_wp2)
                go_meet
                case rel => exact ⟨_, (((x3_1.length : Int) == 0)), (by first | rfl | (simp; done) | (simp [*]; done)), H', ⟨by have := HK1.out; first | omega | exact Nat.le_refl _⟩, ⟨by (with_reducible repeat (first | apply Kd.R_alloc | apply Kd.R_drewN | apply Kd.R_drew)); exact Kd.R_mono (Kd.R_far (p := ⟨gb137, 3, none⟩) (Kd.R_far (p := ⟨gb137, 2, none⟩) (Kd.R_far (p := ⟨gb137, 1, none⟩) (Kd.R_far (p := ⟨gb137, 0, none⟩) (Kd.R_mono HO_3.out (fun k_ hk => (⟨hk, hk.2⟩ : _ ∧ k_ ≠ gb137))) (fun _ hk => hk.2) (.int .i64 ((rd_T60 l0 x9_1).f0))) (fun _ hk => hk.2) (.int .i64 ((rd_T60 l0 x9_1).f1))) (fun _ hk => hk.2) (.string ((rd_T60 l0 x9_1).f2))) (fun _ hk => hk.2) (.string ((rd_T60 l0 x9_1).f3))) (fun _ hk => hk.1.2)⟩, ⟨by (with_reducible repeat (first | refine blk_drewN ?_ _ | refine blk_drew ?_ | refine blk_alloc ?_ _)); refine blk_put (cs := #[.int .i64 ((rd_T60 l0 x9_1).f0), .int .i64 ((rd_T60 l0 x9_1).f1), .string ((rd_T60 l0 x9_1).f2), .string (⟨#[]⟩ : ByteArray)]) ?_ 3 _ rfl; (with_reducible repeat (first | refine blk_drewN ?_ _ | refine blk_drew ?_ | refine blk_alloc ?_ _)); refine blk_put (cs := #[.int .i64 ((rd_T60 l0 x9_1).f0), .int .i64 ((rd_T60 l0 x9_1).f1), .string (⟨#[]⟩ : ByteArray), .string (⟨#[]⟩ : ByteArray)]) ?_ 2 _ rfl; (with_reducible repeat (first | refine blk_drewN ?_ _ | refine blk_drew ?_ | refine blk_alloc ?_ _)); refine blk_put (cs := #[.int .i64 ((rd_T60 l0 x9_1).f0), .int .i64 0, .string (⟨#[]⟩ : ByteArray), .string (⟨#[]⟩ : ByteArray)]) ?_ 1 _ rfl; (with_reducible repeat (first | refine blk_drewN ?_ _ | refine blk_drew ?_ | refine blk_alloc ?_ _)); refine blk_put (cs := #[.int .i64 0, .int .i64 0, .string (⟨#[]⟩ : ByteArray), .string (⟨#[]⟩ : ByteArray)]) ?_ 0 _ rfl; (with_reducible repeat (first | refine blk_drewN ?_ _ | refine blk_drew ?_ | refine blk_alloc ?_ _)); exact BK137.out⟩, ⟨by repeat (first | (with_reducible first | exact HB.out | apply below_alloc | apply pw_below_drewN | apply below_drew1 | refine below_set ?_ GE137.out) | exact HB.out)⟩⟩
              · rw [if_neg c8] at H
                have c8b0 : decide (0 < x9_1) = false := decide_eq_false c8
                clear c8
                (first | rw [c8b0] | (simp only [i64_w, i32_w]; rw [c8b0]) | skip)
                have H' := Aside0.mk H
                clear H
                go_wp2
                repeat (go_quiet (fail); try go_wp2)
                go_meet
                case rel => exact ⟨_, (false), (by first | rfl | (simp; done) | (simp [*]; done)), H', ⟨by have := HK1.out; first | omega | exact Nat.le_refl _⟩, ⟨by (with_reducible repeat (first | apply Kd.R_alloc | apply Kd.R_drewN | apply Kd.R_drew)); exact Kd.R_mono (Kd.R_far (p := ⟨gb137, 3, none⟩) (Kd.R_far (p := ⟨gb137, 2, none⟩) (Kd.R_far (p := ⟨gb137, 1, none⟩) (Kd.R_far (p := ⟨gb137, 0, none⟩) (Kd.R_mono HO_3.out (fun k_ hk => (⟨hk, hk.2⟩ : _ ∧ k_ ≠ gb137))) (fun _ hk => hk.2) (.int .i64 ((rd_T60 l0 x9_1).f0))) (fun _ hk => hk.2) (.int .i64 ((rd_T60 l0 x9_1).f1))) (fun _ hk => hk.2) (.string ((rd_T60 l0 x9_1).f2))) (fun _ hk => hk.2) (.string ((rd_T60 l0 x9_1).f3))) (fun _ hk => hk.1.2)⟩, ⟨by (with_reducible repeat (first | refine blk_drewN ?_ _ | refine blk_drew ?_ | refine blk_alloc ?_ _)); refine blk_put (cs := #[.int .i64 ((rd_T60 l0 x9_1).f0), .int .i64 ((rd_T60 l0 x9_1).f1), .string ((rd_T60 l0 x9_1).f2), .string (⟨#[]⟩ : ByteArray)]) ?_ 3 _ rfl; (with_reducible repeat (first | refine blk_drewN ?_ _ | refine blk_drew ?_ | refine blk_alloc ?_ _)); refine blk_put (cs := #[.int .i64 ((rd_T60 l0 x9_1).f0), .int .i64 ((rd_T60 l0 x9_1).f1), .string (⟨#[]⟩ : ByteArray), .string (⟨#[]⟩ : ByteArray)]) ?_ 2 _ rfl; (with_reducible repeat (first | refine blk_drewN ?_ _ | refine blk_drew ?_ | refine blk_alloc ?_ _)); refine blk_put (cs := #[.int .i64 ((rd_T60 l0 x9_1).f0), .int .i64 0, .string (⟨#[]⟩ : ByteArray), .string (⟨#[]⟩ : ByteArray)]) ?_ 1 _ rfl; (with_reducible repeat (first | refine blk_drewN ?_ _ | refine blk_drew ?_ | refine blk_alloc ?_ _)); refine blk_put (cs := #[.int .i64 0, .int .i64 0, .string (⟨#[]⟩ : ByteArray), .string (⟨#[]⟩ : ByteArray)]) ?_ 0 _ rfl; (with_reducible repeat (first | refine blk_drewN ?_ _ | refine blk_drew ?_ | refine blk_alloc ?_ _)); exact BK137.out⟩, ⟨by repeat (first | (with_reducible first | exact HB.out | apply below_alloc | apply pw_below_drewN | apply below_drew1 | refine below_set ?_ GE137.out) | exact HB.out)⟩⟩
            case rest =>
              clear HC5
              try clear p1
              try clear q1
              try clear hx1
              try clear c2
              try clear c2b0
              try clear p2
              try clear c3
              try clear c3b0
              try clear c4
              try clear c4b0
              try clear c8
              try clear c8b0
              try clear hcz7_0
              try clear hcz7_1
              try clear hcz7_2
              try clear hcz7_3
              try clear hfz7_0
              try clear hfz7_1
              try clear hfz7_2
              try clear hfz7_3
              try clear hx136_0
              try clear hx136_1
              try clear hx136_2
              try clear hx136_3
              try clear p136
              try clear q136
              obtain ⟨kq, x20_4, rfl, HA, HJ4, HO_3, BK137, HB⟩ := hcut
              cases kq with
              | zero => exact absurd HA.out (by simp [calepinref07_Right.j1])
              | succ kj4 =>
                have H := HA.out
                clear HA
                simp only [calepinref07_Right.j1] at H
                by_cases c10 : x20_4 = true
                · subst c10
                  have H1 : (some false) = some r := by rw [if_pos rfl] at H; exact H
                  clear H
                  have H := H1
                  clear H1
                  obtain rfl := Option.some.inj H
                  go_wp2
                  repeat (go_quiet (fail); try go_wp2)
                  go_ret
                  exact ⟨by first | rfl | (simp [errW_none, errW_some] <;> rfl) | (simp [*, errW_none, errW_some] <;> rfl), by repeat (first | (with_reducible first | exact HB.out | apply below_alloc | apply pw_below_drewN | apply below_drew1 | refine below_set ?_ GE137.out) | exact HB.out)⟩
                · replace c10 := Bool.eq_false_iff.mpr c10
                  subst c10
                  have H1 : (if ((rd_T60 l0 x9_1).f0) = 1 then (calepinref07_Right.j2 kj4 l0 x3_1 x9_1 l0 (l0.length : Int) x9_1 ((rd_T60 l0 x9_1).f0) (((rd_T60 l0 x9_1).f0) == 1) ((rd_T60 l0 x9_1).f0) ((rd_T60 l0 x9_1).f1) ((rd_T60 l0 x9_1).f2) ((rd_T60 l0 x9_1).f3)) else (calepinref07_Right.j2 kj4 l0 x3_1 x9_1 l0 (l0.length : Int) x9_1 ((rd_T60 l0 x9_1).f0) (((rd_T60 l0 x9_1).f0) == 2) ((rd_T60 l0 x9_1).f0) ((rd_T60 l0 x9_1).f1) ((rd_T60 l0 x9_1).f2) ((rd_T60 l0 x9_1).f3))) = some r := by rw [if_neg (show ¬ (false = true) by decide)] at H; exact H
                  clear H
                  have H := H1
                  clear H1
                  have HC11 := Aside0.mk H
                  clear H
                  have hcz12_0 : wc.cell? ⟨gb137, 0, none⟩ = some (.int .i64 ((rd_T60 l0 x9_1).f0)) := (blk_cell BK137.out 0).trans rfl
                  have hcz12_1 : wc.cell? ⟨gb137, 1, none⟩ = some (.int .i64 ((rd_T60 l0 x9_1).f1)) := (blk_cell BK137.out 1).trans rfl
                  have hcz12_2 : wc.cell? ⟨gb137, 2, none⟩ = some (.string ((rd_T60 l0 x9_1).f2)) := (blk_cell BK137.out 2).trans rfl
                  have hcz12_3 : wc.cell? ⟨gb137, 3, none⟩ = some (.string ((rd_T60 l0 x9_1).f3)) := (blk_cell BK137.out 3).trans rfl
                  have hfz12_0 := blk_frozen BK137.out 0
                  have hfz12_1 := blk_frozen BK137.out 1
                  have hfz12_2 := blk_frozen BK137.out 2
                  have hfz12_3 := blk_frozen BK137.out 3
                  go_upto_block 2 with (fail)
                  repeat (go_quiet (fail); go_upto_block 2 with (fail))
                  go_cut [] (fun wc => ∃ (kq : Nat), Aside0 (calepinref07_Right.j3 kq l0 x3_1 l0 (l0.length : Int) x9_1 ((rd_T60 l0 x9_1).f0) ((rd_T60 l0 x9_1).f1) ((rd_T60 l0 x9_1).f2) ((rd_T60 l0 x9_1).f3) = some r) ∧ Aside0 (kq ≤ kj4) ∧ Aside0 (Kd.R k60 60 wc w.heap.size (fun k_ => k_ ≠ gb137) u3 x3_1) ∧ Aside0 (wc.heap[gb137]? = some (.cells #[.int .i64 ((rd_T60 l0 x9_1).f0), .int .i64 ((rd_T60 l0 x9_1).f1), .string ((rd_T60 l0 x9_1).f2), .string ((rd_T60 l0 x9_1).f3)] 60 (0, 0))) ∧ Aside0 (Below w.heap.size w wc))
                  case first =>
                    have H := HC11.out
                    clear HC11
                    have HC13 := Aside0.mk H
                    clear H
                    go_upto_if 23 with (fail)
                    repeat (go_quiet (fail); go_upto_if 23 with (fail))
                    go_cut [23] (fun v23 wc => ∃ (kq : Nat) (x23_12 : Bool), v23 = .bool x23_12 ∧ Aside0 (calepinref07_Right.j2 kq l0 x3_1 x9_1 l0 (l0.length : Int) x9_1 ((rd_T60 l0 x9_1).f0) x23_12 ((rd_T60 l0 x9_1).f0) ((rd_T60 l0 x9_1).f1) ((rd_T60 l0 x9_1).f2) ((rd_T60 l0 x9_1).f3) = some r) ∧ Aside0 (kq ≤ kj4) ∧ Aside0 (Kd.R k60 60 wc w.heap.size (fun k_ => k_ ≠ gb137) u3 x3_1) ∧ Aside0 (wc.heap[gb137]? = some (.cells #[.int .i64 ((rd_T60 l0 x9_1).f0), .int .i64 ((rd_T60 l0 x9_1).f1), .string ((rd_T60 l0 x9_1).f2), .string ((rd_T60 l0 x9_1).f3)] 60 (0, 0))) ∧ Aside0 (Below w.heap.size w wc))
                    case first =>
                      have H := HC13.out
                      clear HC13
                      by_cases c14 : ((rd_T60 l0 x9_1).f0) = 1
                      · rw [if_pos c14] at H
                        have c14b0 : (((rd_T60 l0 x9_1).f0) == 1) = true := beq_iff_eq.mpr c14
                        have c14b1 : (((rd_T60 l0 x9_1).f0) != 1) = false := bne_eq_false_iff_eq.mpr c14
                        clear c14
                        (first | rw [c14b0] | rw [c14b1] | (simp only [i64_w, i32_w]; rw [c14b0]) | skip)
                        have H' := Aside0.mk H
                        clear H
                        go_wp2
                        repeat (go_quiet (fail); try go_wp2)
                        go_meet
                        case rel => exact ⟨_, ((((rd_T60 l0 x9_1).f0) == 1)), (by first | rfl | (simp; done) | (simp [*]; done)), H', ⟨by have := HK1.out; have := HJ4.out; first | omega | exact Nat.le_refl _⟩, ⟨by (with_reducible repeat (first | apply Kd.R_alloc | apply Kd.R_drewN | apply Kd.R_drew)); exact HO_3.out⟩, ⟨by (with_reducible repeat (first | refine blk_drewN ?_ _ | refine blk_drew ?_ | refine blk_alloc ?_ _)); exact BK137.out⟩, ⟨by repeat (first | (with_reducible first | exact HB.out | apply below_alloc | apply pw_below_drewN | apply below_drew1 | refine below_set ?_ GE137.out) | exact HB.out)⟩⟩
                      · rw [if_neg c14] at H
                        have c14b0 : (((rd_T60 l0 x9_1).f0) == 1) = false := beq_eq_false_iff_ne.mpr c14
                        have c14b1 : (((rd_T60 l0 x9_1).f0) != 1) = true := bne_iff_ne.mpr c14
                        (first | rw [c14b0] | rw [c14b1] | rw [c14b1] | (simp only [i64_w, i32_w]; rw [c14b0]) | skip)
                        have H' := Aside0.mk H
                        clear H
                        go_wp2
                        repeat (go_quiet (fail); try go_wp2)
                        go_meet
                        case rel => exact ⟨_, ((((rd_T60 l0 x9_1).f0) == 2)), (by first | rfl | (simp; done) | (simp [*]; done)), H', ⟨by have := HK1.out; have := HJ4.out; first | omega | exact Nat.le_refl _⟩, ⟨by (with_reducible repeat (first | apply Kd.R_alloc | apply Kd.R_drewN | apply Kd.R_drew)); exact HO_3.out⟩, ⟨by (with_reducible repeat (first | refine blk_drewN ?_ _ | refine blk_drew ?_ | refine blk_alloc ?_ _)); exact BK137.out⟩, ⟨by repeat (first | (with_reducible first | exact HB.out | apply below_alloc | apply pw_below_drewN | apply below_drew1 | refine below_set ?_ GE137.out) | exact HB.out)⟩⟩
                    case rest =>
                      clear HC13
                      try clear c1
                      try clear p1
                      try clear q1
                      try clear hx1
                      try clear c2
                      try clear c2b0
                      try clear p2
                      try clear c3
                      try clear c3b0
                      try clear c4
                      try clear c4b0
                      try clear c8
                      try clear c8b0
                      try clear c10
                      try clear p13
                      try clear q13
                      try clear hx13
                      try clear c14
                      try clear c14b0
                      try clear c14b1
                      try clear hcz12_0
                      try clear hcz12_1
                      try clear hcz12_2
                      try clear hcz12_3
                      try clear hcz7_0
                      try clear hcz7_1
                      try clear hcz7_2
                      try clear hcz7_3
                      try clear hfz12_0
                      try clear hfz12_1
                      try clear hfz12_2
                      try clear hfz12_3
                      try clear hfz7_0
                      try clear hfz7_1
                      try clear hfz7_2
                      try clear hfz7_3
                      try clear hx136_0
                      try clear hx136_1
                      try clear hx136_2
                      try clear hx136_3
                      try clear p1
                      try clear p136
                      try clear p2
                      try clear q1
                      try clear q136
                      obtain ⟨kq, x23_12, rfl, HA, HJ12, HO_3, BK137, HB⟩ := hcut
                      cases kq with
                      | zero => exact absurd HA.out (by simp [calepinref07_Right.j2])
                      | succ kj12 =>
                        have H := HA.out
                        clear HA
                        simp only [calepinref07_Right.j2] at H
                        by_cases c15 : x23_12 = true
                        · subst c15
                          have H1 : (if (((rd_T60 l0 x9_1).f3).size : Int) > 0 then (some false) else (if ((rd_T60 l0 x9_1).f1) < 0 then (some false) else (if ((rd_T60 l0 x9_1).f1) > 2 then (some false) else ((calepinref07_Name.f kj12 ((rd_T60 l0 x9_1).f2) 0).bind fun t138 => (if t138 = (((rd_T60 l0 x9_1).f2).size : Int) then (if (((rd_T60 l0 x9_1).f2).size : Int) = 0 then (some false) else (calepinref07_Right.j3 kj12 l0 x3_1 l0 (l0.length : Int) x9_1 ((rd_T60 l0 x9_1).f0) ((rd_T60 l0 x9_1).f1) ((rd_T60 l0 x9_1).f2) ((rd_T60 l0 x9_1).f3))) else (some false)))))) = some r := by rw [if_pos rfl] at H; exact H
                          clear H
                          have H := H1
                          clear H1
                          by_cases c16 : (((rd_T60 l0 x9_1).f3).size : Int) > 0
                          · rw [if_pos c16] at H
                            have c16b0 : decide (0 < (((rd_T60 l0 x9_1).f3).size : Int)) = true := decide_eq_true c16
                            have c16b1 : decide (0 < ((rd_T60 l0 x9_1).f3).size) = true := decide_eq_true (by omega)
                            clear c16
                            obtain rfl := Option.some.inj H
                            have hcz17_0 : wc.cell? ⟨gb137, 0, none⟩ = some (.int .i64 ((rd_T60 l0 x9_1).f0)) := (blk_cell BK137.out 0).trans rfl
                            have hcz17_1 : wc.cell? ⟨gb137, 1, none⟩ = some (.int .i64 ((rd_T60 l0 x9_1).f1)) := (blk_cell BK137.out 1).trans rfl
                            have hcz17_2 : wc.cell? ⟨gb137, 2, none⟩ = some (.string ((rd_T60 l0 x9_1).f2)) := (blk_cell BK137.out 2).trans rfl
                            have hcz17_3 : wc.cell? ⟨gb137, 3, none⟩ = some (.string ((rd_T60 l0 x9_1).f3)) := (blk_cell BK137.out 3).trans rfl
                            have hfz17_0 := blk_frozen BK137.out 0
                            have hfz17_1 := blk_frozen BK137.out 1
                            have hfz17_2 := blk_frozen BK137.out 2
                            have hfz17_3 := blk_frozen BK137.out 3
                            go_wp2
                            repeat (go_quiet (fail); try go_wp2)
                            go_ret
                            exact ⟨by first | rfl | (simp [errW_none, errW_some] <;> rfl) | (simp [*, errW_none, errW_some] <;> rfl), by repeat (first | (with_reducible first | exact HB.out | apply below_alloc | apply pw_below_drewN | apply below_drew1 | refine below_set ?_ GE137.out) | exact HB.out)⟩
                          · rw [if_neg c16] at H
                            have c16b0 : decide (0 < (((rd_T60 l0 x9_1).f3).size : Int)) = false := decide_eq_false c16
                            have c16b1 : decide (0 < ((rd_T60 l0 x9_1).f3).size) = false := decide_eq_false (by omega)
                            clear c16
                            by_cases c18 : ((rd_T60 l0 x9_1).f1) < 0
                            · rw [if_pos c18] at H
                              have c18b0 : decide (((rd_T60 l0 x9_1).f1) < 0) = true := decide_eq_true c18
                              clear c18
                              obtain rfl := Option.some.inj H
                              have hcz19_0 : wc.cell? ⟨gb137, 0, none⟩ = some (.int .i64 ((rd_T60 l0 x9_1).f0)) := (blk_cell BK137.out 0).trans rfl
                              have hcz19_1 : wc.cell? ⟨gb137, 1, none⟩ = some (.int .i64 ((rd_T60 l0 x9_1).f1)) := (blk_cell BK137.out 1).trans rfl
                              have hcz19_2 : wc.cell? ⟨gb137, 2, none⟩ = some (.string ((rd_T60 l0 x9_1).f2)) := (blk_cell BK137.out 2).trans rfl
                              have hcz19_3 : wc.cell? ⟨gb137, 3, none⟩ = some (.string ((rd_T60 l0 x9_1).f3)) := (blk_cell BK137.out 3).trans rfl
                              have hfz19_0 := blk_frozen BK137.out 0
                              have hfz19_1 := blk_frozen BK137.out 1
                              have hfz19_2 := blk_frozen BK137.out 2
                              have hfz19_3 := blk_frozen BK137.out 3
                              go_wp2
                              repeat (go_quiet (fail); try go_wp2)
                              go_ret
                              exact ⟨by first | rfl | (simp [errW_none, errW_some] <;> rfl) | (simp [*, errW_none, errW_some] <;> rfl), by repeat (first | (with_reducible first | exact HB.out | apply below_alloc | apply pw_below_drewN | apply below_drew1 | refine below_set ?_ GE137.out) | exact HB.out)⟩
                            · rw [if_neg c18] at H
                              have c18b0 : decide (((rd_T60 l0 x9_1).f1) < 0) = false := decide_eq_false c18
                              clear c18
                              by_cases c20 : ((rd_T60 l0 x9_1).f1) > 2
                              · rw [if_pos c20] at H
                                have c20b0 : decide (2 < ((rd_T60 l0 x9_1).f1)) = true := decide_eq_true c20
                                clear c20
                                obtain rfl := Option.some.inj H
                                have hcz21_0 : wc.cell? ⟨gb137, 0, none⟩ = some (.int .i64 ((rd_T60 l0 x9_1).f0)) := (blk_cell BK137.out 0).trans rfl
                                have hcz21_1 : wc.cell? ⟨gb137, 1, none⟩ = some (.int .i64 ((rd_T60 l0 x9_1).f1)) := (blk_cell BK137.out 1).trans rfl
                                have hcz21_2 : wc.cell? ⟨gb137, 2, none⟩ = some (.string ((rd_T60 l0 x9_1).f2)) := (blk_cell BK137.out 2).trans rfl
                                have hcz21_3 : wc.cell? ⟨gb137, 3, none⟩ = some (.string ((rd_T60 l0 x9_1).f3)) := (blk_cell BK137.out 3).trans rfl
                                have hfz21_0 := blk_frozen BK137.out 0
                                have hfz21_1 := blk_frozen BK137.out 1
                                have hfz21_2 := blk_frozen BK137.out 2
                                have hfz21_3 := blk_frozen BK137.out 3
                                go_wp2
                                repeat (go_quiet (fail); try go_wp2)
                                go_ret
                                exact ⟨by first | rfl | (simp [errW_none, errW_some] <;> rfl) | (simp [*, errW_none, errW_some] <;> rfl), by repeat (first | (with_reducible first | exact HB.out | apply below_alloc | apply pw_below_drewN | apply below_drew1 | refine below_set ?_ GE137.out) | exact HB.out)⟩
                              · rw [if_neg c20] at H
                                have c20b0 : decide (2 < ((rd_T60 l0 x9_1).f1)) = false := decide_eq_false c20
                                clear c20
                                replace H := Option.bind_eq_some_iff.mp H
                                obtain ⟨t138, A220, H⟩ := H
                                replace H : (if t138 = (((rd_T60 l0 x9_1).f2).size : Int) then (if (((rd_T60 l0 x9_1).f2).size : Int) = 0 then (some false) else (calepinref07_Right.j3 kj12 l0 x3_1 l0 (l0.length : Int) x9_1 ((rd_T60 l0 x9_1).f0) ((rd_T60 l0 x9_1).f1) ((rd_T60 l0 x9_1).f2) ((rd_T60 l0 x9_1).f3))) else (some false)) = some r := H
                                have A22 := Aside0.mk A220
                                clear A220
                                by_cases c23 : t138 = (((rd_T60 l0 x9_1).f2).size : Int)
                                · rw [if_pos c23] at H
                                  have c23b0 : (t138 == (((rd_T60 l0 x9_1).f2).size : Int)) = true := beq_iff_eq.mpr c23
                                  have c23b1 : (t138 != (((rd_T60 l0 x9_1).f2).size : Int)) = false := bne_eq_false_iff_eq.mpr c23
                                  clear c23
                                  by_cases c24 : (((rd_T60 l0 x9_1).f2).size : Int) = 0
                                  · rw [if_pos c24] at H
                                    have c24b0 : ((((rd_T60 l0 x9_1).f2).size : Int) == 0) = true := beq_iff_eq.mpr c24
                                    have c24b1 : ((((rd_T60 l0 x9_1).f2).size : Int) != 0) = false := bne_eq_false_iff_eq.mpr c24
                                    clear c24
                                    obtain rfl := Option.some.inj H
                                    have hcz25_0 : wc.cell? ⟨gb137, 0, none⟩ = some (.int .i64 ((rd_T60 l0 x9_1).f0)) := (blk_cell BK137.out 0).trans rfl
                                    have hcz25_1 : wc.cell? ⟨gb137, 1, none⟩ = some (.int .i64 ((rd_T60 l0 x9_1).f1)) := (blk_cell BK137.out 1).trans rfl
                                    have hcz25_2 : wc.cell? ⟨gb137, 2, none⟩ = some (.string ((rd_T60 l0 x9_1).f2)) := (blk_cell BK137.out 2).trans rfl
                                    have hcz25_3 : wc.cell? ⟨gb137, 3, none⟩ = some (.string ((rd_T60 l0 x9_1).f3)) := (blk_cell BK137.out 3).trans rfl
                                    have hfz25_0 := blk_frozen BK137.out 0
                                    have hfz25_1 := blk_frozen BK137.out 1
                                    have hfz25_2 := blk_frozen BK137.out 2
                                    have hfz25_3 := blk_frozen BK137.out 3
                                    go_wp2_with (first | (go_at_call 26; (with_reducible refine (calepinref07_Name.calls kj12 ((rd_T60 l0 x9_1).f2) 0 t138 _ A22.out).mono ?_); rintro e w' ⟨rfl, ⟨nd, rfl⟩⟩; (try first | exact ⟨rfl, _, World.drewN_drewN _ _ _⟩ | exact ⟨rfl, _, Eq.trans (World.drewN_drewN _ _ _) (congrArg (World.drewN _) (Nat.add_assoc _ _ _))⟩)))
                                    repeat (go_quiet (first | (go_at_call 26; (with_reducible refine (calepinref07_Name.calls kj12 ((rd_T60 l0 x9_1).f2) 0 t138 _ A22.out).mono ?_); rintro e w' ⟨rfl, ⟨nd, rfl⟩⟩; (try first | exact ⟨rfl, _, World.drewN_drewN _ _ _⟩ | exact ⟨rfl, _, Eq.trans (World.drewN_drewN _ _ _) (congrArg (World.drewN _) (Nat.add_assoc _ _ _))⟩))); try go_wp2_with (first | (go_at_call 26; (with_reducible refine (calepinref07_Name.calls kj12 ((rd_T60 l0 x9_1).f2) 0 t138 _ A22.out).mono ?_); rintro e w' ⟨rfl, ⟨nd, rfl⟩⟩; (try first | exact ⟨rfl, _, World.drewN_drewN _ _ _⟩ | exact ⟨rfl, _, Eq.trans (World.drewN_drewN _ _ _) (congrArg (World.drewN _) (Nat.add_assoc _ _ _))⟩))))
                                    go_ret
                                    exact ⟨by first | rfl | (simp [errW_none, errW_some] <;> rfl) | (simp [*, errW_none, errW_some] <;> rfl), by repeat (first | (with_reducible first | exact HB.out | apply below_alloc | apply pw_below_drewN | apply below_drew1 | refine below_set ?_ GE137.out) | exact HB.out)⟩
                                  · rw [if_neg c24] at H
                                    have c24b0 : ((((rd_T60 l0 x9_1).f2).size : Int) == 0) = false := beq_eq_false_iff_ne.mpr c24
                                    have c24b1 : ((((rd_T60 l0 x9_1).f2).size : Int) != 0) = true := bne_iff_ne.mpr c24
                                    have H' := Aside0.mk H
                                    clear H
                                    have hcz26_0 : wc.cell? ⟨gb137, 0, none⟩ = some (.int .i64 ((rd_T60 l0 x9_1).f0)) := (blk_cell BK137.out 0).trans rfl
                                    have hcz26_1 : wc.cell? ⟨gb137, 1, none⟩ = some (.int .i64 ((rd_T60 l0 x9_1).f1)) := (blk_cell BK137.out 1).trans rfl
                                    have hcz26_2 : wc.cell? ⟨gb137, 2, none⟩ = some (.string ((rd_T60 l0 x9_1).f2)) := (blk_cell BK137.out 2).trans rfl
                                    have hcz26_3 : wc.cell? ⟨gb137, 3, none⟩ = some (.string ((rd_T60 l0 x9_1).f3)) := (blk_cell BK137.out 3).trans rfl
                                    have hfz26_0 := blk_frozen BK137.out 0
                                    have hfz26_1 := blk_frozen BK137.out 1
                                    have hfz26_2 := blk_frozen BK137.out 2
                                    have hfz26_3 := blk_frozen BK137.out 3
                                    go_wp2_with (first | (go_at_call 26; (with_reducible refine (calepinref07_Name.calls kj12 ((rd_T60 l0 x9_1).f2) 0 t138 _ A22.out).mono ?_); rintro e w' ⟨rfl, ⟨nd, rfl⟩⟩; (try first | exact ⟨rfl, _, World.drewN_drewN _ _ _⟩ | exact ⟨rfl, _, Eq.trans (World.drewN_drewN _ _ _) (congrArg (World.drewN _) (Nat.add_assoc _ _ _))⟩)))
                                    repeat (go_quiet (first | (go_at_call 26; (with_reducible refine (calepinref07_Name.calls kj12 ((rd_T60 l0 x9_1).f2) 0 t138 _ A22.out).mono ?_); rintro e w' ⟨rfl, ⟨nd, rfl⟩⟩; (try first | exact ⟨rfl, _, World.drewN_drewN _ _ _⟩ | exact ⟨rfl, _, Eq.trans (World.drewN_drewN _ _ _) (congrArg (World.drewN _) (Nat.add_assoc _ _ _))⟩))); try go_wp2_with (first | (go_at_call 26; (with_reducible refine (calepinref07_Name.calls kj12 ((rd_T60 l0 x9_1).f2) 0 t138 _ A22.out).mono ?_); rintro e w' ⟨rfl, ⟨nd, rfl⟩⟩; (try first | exact ⟨rfl, _, World.drewN_drewN _ _ _⟩ | exact ⟨rfl, _, Eq.trans (World.drewN_drewN _ _ _) (congrArg (World.drewN _) (Nat.add_assoc _ _ _))⟩))))
                                    go_meet
                                    case rel => exact ⟨_, H', ⟨by have := HK1.out; have := HJ4.out; have := HJ12.out; first | omega | exact Nat.le_refl _⟩, ⟨by (with_reducible repeat (first | apply Kd.R_alloc | apply Kd.R_drewN | apply Kd.R_drew)); exact HO_3.out⟩, ⟨by (with_reducible repeat (first | refine blk_drewN ?_ _ | refine blk_drew ?_ | refine blk_alloc ?_ _)); exact BK137.out⟩, ⟨by repeat (first | (with_reducible first | exact HB.out | apply below_alloc | apply pw_below_drewN | apply below_drew1 | refine below_set ?_ GE137.out) | exact HB.out)⟩⟩
                                · rw [if_neg c23] at H
                                  have c23b0 : (t138 == (((rd_T60 l0 x9_1).f2).size : Int)) = false := beq_eq_false_iff_ne.mpr c23
                                  have c23b1 : (t138 != (((rd_T60 l0 x9_1).f2).size : Int)) = true := bne_iff_ne.mpr c23
                                  obtain rfl := Option.some.inj H
                                  have hcz27_0 : wc.cell? ⟨gb137, 0, none⟩ = some (.int .i64 ((rd_T60 l0 x9_1).f0)) := (blk_cell BK137.out 0).trans rfl
                                  have hcz27_1 : wc.cell? ⟨gb137, 1, none⟩ = some (.int .i64 ((rd_T60 l0 x9_1).f1)) := (blk_cell BK137.out 1).trans rfl
                                  have hcz27_2 : wc.cell? ⟨gb137, 2, none⟩ = some (.string ((rd_T60 l0 x9_1).f2)) := (blk_cell BK137.out 2).trans rfl
                                  have hcz27_3 : wc.cell? ⟨gb137, 3, none⟩ = some (.string ((rd_T60 l0 x9_1).f3)) := (blk_cell BK137.out 3).trans rfl
                                  have hfz27_0 := blk_frozen BK137.out 0
                                  have hfz27_1 := blk_frozen BK137.out 1
                                  have hfz27_2 := blk_frozen BK137.out 2
                                  have hfz27_3 := blk_frozen BK137.out 3
                                  go_wp2_with (first | (go_at_call 26; (with_reducible refine (calepinref07_Name.calls kj12 ((rd_T60 l0 x9_1).f2) 0 t138 _ A22.out).mono ?_); rintro e w' ⟨rfl, ⟨nd, rfl⟩⟩; (try first | exact ⟨rfl, _, World.drewN_drewN _ _ _⟩ | exact ⟨rfl, _, Eq.trans (World.drewN_drewN _ _ _) (congrArg (World.drewN _) (Nat.add_assoc _ _ _))⟩)))
                                  repeat (go_quiet (first | (go_at_call 26; (with_reducible refine (calepinref07_Name.calls kj12 ((rd_T60 l0 x9_1).f2) 0 t138 _ A22.out).mono ?_); rintro e w' ⟨rfl, ⟨nd, rfl⟩⟩; (try first | exact ⟨rfl, _, World.drewN_drewN _ _ _⟩ | exact ⟨rfl, _, Eq.trans (World.drewN_drewN _ _ _) (congrArg (World.drewN _) (Nat.add_assoc _ _ _))⟩))); try go_wp2_with (first | (go_at_call 26; (with_reducible refine (calepinref07_Name.calls kj12 ((rd_T60 l0 x9_1).f2) 0 t138 _ A22.out).mono ?_); rintro e w' ⟨rfl, ⟨nd, rfl⟩⟩; (try first | exact ⟨rfl, _, World.drewN_drewN _ _ _⟩ | exact ⟨rfl, _, Eq.trans (World.drewN_drewN _ _ _) (congrArg (World.drewN _) (Nat.add_assoc _ _ _))⟩))))
                                  go_ret
                                  exact ⟨by first | rfl | (simp [errW_none, errW_some] <;> rfl) | (simp [*, errW_none, errW_some] <;> rfl), by repeat (first | (with_reducible first | exact HB.out | apply below_alloc | apply pw_below_drewN | apply below_drew1 | refine below_set ?_ GE137.out) | exact HB.out)⟩
                        · replace c15 := Bool.eq_false_iff.mpr c15
                          subst c15
                          have H1 : (if ((rd_T60 l0 x9_1).f0) = 3 then (if x9_1 = 0 then (some false) else (if 0 ≤ (wrap64 (x9_1 - 1)) then (if (wrap64 (x9_1 - 1)) < (l0.length : Int) then (if ((rd_T60 l0 (wrap64 (x9_1 - 1))).f0) = 3 then (some false) else (if (((rd_T60 l0 x9_1).f2).size : Int) > 0 then (some false) else (if ((rd_T60 l0 x9_1).f1) = 0 then ((calepinref01_Valid.f kj12 ((rd_T60 l0 x9_1).f3)).bind fun t140 => (if t140 = true then ((calepinref07_Blanks.f kj12 ((rd_T60 l0 x9_1).f3)).bind fun t141 => (if t141 = true then (some false) else (calepinref07_Right.j3 kj12 l0 x3_1 l0 (l0.length : Int) x9_1 ((rd_T60 l0 x9_1).f0) ((rd_T60 l0 x9_1).f1) ((rd_T60 l0 x9_1).f2) ((rd_T60 l0 x9_1).f3)))) else (some false))) else (some false)))) else (none)) else (none))) else (some false)) = some r := by rw [if_neg (show ¬ (false = true) by decide)] at H; exact H
                          clear H
                          have H := H1
                          clear H1
                          by_cases c28 : ((rd_T60 l0 x9_1).f0) = 3
                          · rw [if_pos c28] at H
                            have c28b0 : (((rd_T60 l0 x9_1).f0) == 3) = true := beq_iff_eq.mpr c28
                            have c28b1 : (((rd_T60 l0 x9_1).f0) != 3) = false := bne_eq_false_iff_eq.mpr c28
                            clear c28
                            by_cases c29 : x9_1 = 0
                            · rw [if_pos c29] at H
                              have c29b0 : (x9_1 == 0) = true := beq_iff_eq.mpr c29
                              have c29b1 : (x9_1 != 0) = false := bne_eq_false_iff_eq.mpr c29
                              clear c29
                              obtain rfl := Option.some.inj H
                              go_wp2
                              repeat (go_quiet (fail); try go_wp2)
                              go_ret
                              exact ⟨by first | rfl | (simp [errW_none, errW_some] <;> rfl) | (simp [*, errW_none, errW_some] <;> rfl), by repeat (first | (with_reducible first | exact HB.out | apply below_alloc | apply pw_below_drewN | apply below_drew1 | refine below_set ?_ GE137.out) | exact HB.out)⟩
                            · rw [if_neg c29] at H
                              have c29b0 : (x9_1 == 0) = false := beq_eq_false_iff_ne.mpr c29
                              have c29b1 : (x9_1 != 0) = true := bne_iff_ne.mpr c29
                              obtain ⟨ji30, hji30⟩ : ∃ j_ : Int, (wrap64 (x9_1 - 1)) = j_ := ⟨_, rfl⟩
                              replace H : (if 0 ≤ (ji30) then (if (ji30) < (l0.length : Int) then (if ((rd_T60 l0 (ji30)).f0) = 3 then (some false) else (if (((rd_T60 l0 x9_1).f2).size : Int) > 0 then (some false) else (if ((rd_T60 l0 x9_1).f1) = 0 then ((calepinref01_Valid.f kj12 ((rd_T60 l0 x9_1).f3)).bind fun t140 => (if t140 = true then ((calepinref07_Blanks.f kj12 ((rd_T60 l0 x9_1).f3)).bind fun t141 => (if t141 = true then (some false) else (calepinref07_Right.j3 kj12 l0 x3_1 l0 (l0.length : Int) x9_1 ((rd_T60 l0 x9_1).f0) ((rd_T60 l0 x9_1).f1) ((rd_T60 l0 x9_1).f2) ((rd_T60 l0 x9_1).f3)))) else (some false))) else (some false)))) else (none)) else (none)) = some r := by first | (rw [hji30] at H; exact H) | (simp only [hji30] at H ⊢; exact H)
                              have hji30w : (IntKind.i64.wrap (x9_1 - 1)) = ji30 := (i64_w _).trans hji30
                              by_cases c31 : 0 ≤ (ji30)
                              · rw [if_pos c31] at H
                                have c31b0 : decide (0 ≤ (ji30)) = true := decide_eq_true c31
                                clear c31
                                by_cases c32 : (ji30) < (l0.length : Int)
                                · rw [if_pos c32] at H
                                  have c32b0 : decide ((ji30) < (l0.length : Int)) = true := decide_eq_true c32
                                  clear c32
                                  by_cases c33 : ((rd_T60 l0 (ji30)).f0) = 3
                                  · rw [if_pos c33] at H
                                    have c33b0 : (((rd_T60 l0 (ji30)).f0) == 3) = true := beq_iff_eq.mpr c33
                                    have c33b1 : (((rd_T60 l0 (ji30)).f0) != 3) = false := bne_eq_false_iff_eq.mpr c33
                                    clear c33
                                    obtain rfl := Option.some.inj H
                                    have p139 : 0 ≤ ((ji30) : Int) := of_decide_eq_true (by first | (with_reducible assumption) | assumption)
                                    have q139 : (ji30) < (l0.length : Int) := of_decide_eq_true (by first | (with_reducible assumption) | assumption)
                                    obtain ⟨ad139, e139, hx139_0, hx139_1, hx139_2, hx139_3⟩ := at_T60 HR0.out (ji30) p139 q139
                                    obtain rfl : ad136 = ad139 := (by injection e139)
                                    replace hx139_0 := (HB.out.cell (World.block_lt_of_cell? w _ hx139_0)).trans hx139_0
                                    replace hx139_1 := (HB.out.cell (World.block_lt_of_cell? w _ hx139_1)).trans hx139_1
                                    replace hx139_2 := (HB.out.cell (World.block_lt_of_cell? w _ hx139_2)).trans hx139_2
                                    replace hx139_3 := (HB.out.cell (World.block_lt_of_cell? w _ hx139_3)).trans hx139_3
                                    replace p139 := eq_true p139
                                    replace q139 := eq_true q139
                                    go_wp2
                                    repeat (go_quiet (fail); try go_wp2)
                                    go_ret
                                    exact ⟨by first | rfl | (simp [errW_none, errW_some] <;> rfl) | (simp only [← hji30]; first | rfl | (simp [errW_none, errW_some] <;> rfl)) | (simp [*, errW_none, errW_some] <;> rfl), by repeat (first | (with_reducible first | exact HB.out | apply below_alloc | apply pw_below_drewN | apply below_drew1 | refine below_set ?_ GE137.out) | exact HB.out)⟩
                                  · rw [if_neg c33] at H
                                    have c33b0 : (((rd_T60 l0 (ji30)).f0) == 3) = false := beq_eq_false_iff_ne.mpr c33
                                    have c33b1 : (((rd_T60 l0 (ji30)).f0) != 3) = true := bne_iff_ne.mpr c33
                                    by_cases c34 : (((rd_T60 l0 x9_1).f2).size : Int) > 0
                                    · rw [if_pos c34] at H
                                      have c34b0 : decide (0 < (((rd_T60 l0 x9_1).f2).size : Int)) = true := decide_eq_true c34
                                      have c34b1 : decide (0 < ((rd_T60 l0 x9_1).f2).size) = true := decide_eq_true (by omega)
                                      clear c34
                                      obtain rfl := Option.some.inj H
                                      have p139 : 0 ≤ ((ji30) : Int) := of_decide_eq_true (by first | (with_reducible assumption) | assumption)
                                      have q139 : (ji30) < (l0.length : Int) := of_decide_eq_true (by first | (with_reducible assumption) | assumption)
                                      obtain ⟨ad139, e139, hx139_0, hx139_1, hx139_2, hx139_3⟩ := at_T60 HR0.out (ji30) p139 q139
                                      obtain rfl : ad136 = ad139 := (by injection e139)
                                      replace hx139_0 := (HB.out.cell (World.block_lt_of_cell? w _ hx139_0)).trans hx139_0
                                      replace hx139_1 := (HB.out.cell (World.block_lt_of_cell? w _ hx139_1)).trans hx139_1
                                      replace hx139_2 := (HB.out.cell (World.block_lt_of_cell? w _ hx139_2)).trans hx139_2
                                      replace hx139_3 := (HB.out.cell (World.block_lt_of_cell? w _ hx139_3)).trans hx139_3
                                      replace p139 := eq_true p139
                                      replace q139 := eq_true q139
                                      have hcz35_0 : wc.cell? ⟨gb137, 0, none⟩ = some (.int .i64 ((rd_T60 l0 x9_1).f0)) := (blk_cell BK137.out 0).trans rfl
                                      have hcz35_1 : wc.cell? ⟨gb137, 1, none⟩ = some (.int .i64 ((rd_T60 l0 x9_1).f1)) := (blk_cell BK137.out 1).trans rfl
                                      have hcz35_2 : wc.cell? ⟨gb137, 2, none⟩ = some (.string ((rd_T60 l0 x9_1).f2)) := (blk_cell BK137.out 2).trans rfl
                                      have hcz35_3 : wc.cell? ⟨gb137, 3, none⟩ = some (.string ((rd_T60 l0 x9_1).f3)) := (blk_cell BK137.out 3).trans rfl
                                      have hfz35_0 := blk_frozen BK137.out 0
                                      have hfz35_1 := blk_frozen BK137.out 1
                                      have hfz35_2 := blk_frozen BK137.out 2
                                      have hfz35_3 := blk_frozen BK137.out 3
                                      go_wp2
                                      repeat (go_quiet (fail); try go_wp2)
                                      go_ret
                                      exact ⟨by first | rfl | (simp [errW_none, errW_some] <;> rfl) | (simp only [← hji30]; first | rfl | (simp [errW_none, errW_some] <;> rfl)) | (simp [*, errW_none, errW_some] <;> rfl), by repeat (first | (with_reducible first | exact HB.out | apply below_alloc | apply pw_below_drewN | apply below_drew1 | refine below_set ?_ GE137.out) | exact HB.out)⟩
                                    · rw [if_neg c34] at H
                                      have c34b0 : decide (0 < (((rd_T60 l0 x9_1).f2).size : Int)) = false := decide_eq_false c34
                                      have c34b1 : decide (0 < ((rd_T60 l0 x9_1).f2).size) = false := decide_eq_false (by omega)
                                      clear c34
                                      by_cases c36 : ((rd_T60 l0 x9_1).f1) = 0
                                      · rw [if_pos c36] at H
                                        have c36b0 : (((rd_T60 l0 x9_1).f1) == 0) = true := beq_iff_eq.mpr c36
                                        have c36b1 : (((rd_T60 l0 x9_1).f1) != 0) = false := bne_eq_false_iff_eq.mpr c36
                                        clear c36
                                        replace H := Option.bind_eq_some_iff.mp H
                                        obtain ⟨t140, A370, H⟩ := H
                                        replace H : (if t140 = true then ((calepinref07_Blanks.f kj12 ((rd_T60 l0 x9_1).f3)).bind fun t141 => (if t141 = true then (some false) else (calepinref07_Right.j3 kj12 l0 x3_1 l0 (l0.length : Int) x9_1 ((rd_T60 l0 x9_1).f0) ((rd_T60 l0 x9_1).f1) ((rd_T60 l0 x9_1).f2) ((rd_T60 l0 x9_1).f3)))) else (some false)) = some r := H
                                        have A37 := Aside0.mk A370
                                        clear A370
                                        by_cases c38 : t140 = true
                                        · subst c38
                                          have H1 : ((calepinref07_Blanks.f kj12 ((rd_T60 l0 x9_1).f3)).bind fun t141 => (if t141 = true then (some false) else (calepinref07_Right.j3 kj12 l0 x3_1 l0 (l0.length : Int) x9_1 ((rd_T60 l0 x9_1).f0) ((rd_T60 l0 x9_1).f1) ((rd_T60 l0 x9_1).f2) ((rd_T60 l0 x9_1).f3)))) = some r := by rw [if_pos rfl] at H; exact H
                                          clear H
                                          have H := H1
                                          clear H1
                                          replace H := Option.bind_eq_some_iff.mp H
                                          obtain ⟨t141, A390, H⟩ := H
                                          replace H : (if t141 = true then (some false) else (calepinref07_Right.j3 kj12 l0 x3_1 l0 (l0.length : Int) x9_1 ((rd_T60 l0 x9_1).f0) ((rd_T60 l0 x9_1).f1) ((rd_T60 l0 x9_1).f2) ((rd_T60 l0 x9_1).f3))) = some r := H
                                          have A39 := Aside0.mk A390
                                          clear A390
                                          by_cases c40 : t141 = true
                                          · subst c40
                                            have H1 : (some false) = some r := by rw [if_pos rfl] at H; exact H
                                            clear H
                                            have H := H1
                                            clear H1
                                            obtain rfl := Option.some.inj H
                                            have p139 : 0 ≤ ((ji30) : Int) := of_decide_eq_true (by first | (with_reducible assumption) | assumption)
                                            have q139 : (ji30) < (l0.length : Int) := of_decide_eq_true (by first | (with_reducible assumption) | assumption)
                                            obtain ⟨ad139, e139, hx139_0, hx139_1, hx139_2, hx139_3⟩ := at_T60 HR0.out (ji30) p139 q139
                                            obtain rfl : ad136 = ad139 := (by injection e139)
                                            replace hx139_0 := (HB.out.cell (World.block_lt_of_cell? w _ hx139_0)).trans hx139_0
                                            replace hx139_1 := (HB.out.cell (World.block_lt_of_cell? w _ hx139_1)).trans hx139_1
                                            replace hx139_2 := (HB.out.cell (World.block_lt_of_cell? w _ hx139_2)).trans hx139_2
                                            replace hx139_3 := (HB.out.cell (World.block_lt_of_cell? w _ hx139_3)).trans hx139_3
                                            replace p139 := eq_true p139
                                            replace q139 := eq_true q139
                                            have hcz41_0 : wc.cell? ⟨gb137, 0, none⟩ = some (.int .i64 ((rd_T60 l0 x9_1).f0)) := (blk_cell BK137.out 0).trans rfl
                                            have hcz41_1 : wc.cell? ⟨gb137, 1, none⟩ = some (.int .i64 ((rd_T60 l0 x9_1).f1)) := (blk_cell BK137.out 1).trans rfl
                                            have hcz41_2 : wc.cell? ⟨gb137, 2, none⟩ = some (.string ((rd_T60 l0 x9_1).f2)) := (blk_cell BK137.out 2).trans rfl
                                            have hcz41_3 : wc.cell? ⟨gb137, 3, none⟩ = some (.string ((rd_T60 l0 x9_1).f3)) := (blk_cell BK137.out 3).trans rfl
                                            have hfz41_0 := blk_frozen BK137.out 0
                                            have hfz41_1 := blk_frozen BK137.out 1
                                            have hfz41_2 := blk_frozen BK137.out 2
                                            have hfz41_3 := blk_frozen BK137.out 3
                                            go_wp2_with (first | (go_at_call 51; (with_reducible refine (calepinref01_Valid.calls kj12 ((rd_T60 l0 x9_1).f3) true _ A37.out).mono ?_); rintro e w' ⟨rfl, ⟨nd, rfl⟩⟩; (try first | exact ⟨rfl, _, World.drewN_drewN _ _ _⟩ | exact ⟨rfl, _, Eq.trans (World.drewN_drewN _ _ _) (congrArg (World.drewN _) (Nat.add_assoc _ _ _))⟩)) | (go_at_call 28; (with_reducible refine (calepinref07_Blanks.calls kj12 ((rd_T60 l0 x9_1).f3) true _ A39.out).mono ?_); rintro e w' ⟨rfl, ⟨nd, rfl⟩⟩; (try first | exact ⟨rfl, _, World.drewN_drewN _ _ _⟩ | exact ⟨rfl, _, Eq.trans (World.drewN_drewN _ _ _) (congrArg (World.drewN _) (Nat.add_assoc _ _ _))⟩)))
                                            repeat (go_quiet (first | (go_at_call 51; (with_reducible refine (calepinref01_Valid.calls kj12 ((rd_T60 l0 x9_1).f3) true _ A37.out).mono ?_); rintro e w' ⟨rfl, ⟨nd, rfl⟩⟩; (try first | exact ⟨rfl, _, World.drewN_drewN _ _ _⟩ | exact ⟨rfl, _, Eq.trans (World.drewN_drewN _ _ _) (congrArg (World.drewN _) (Nat.add_assoc _ _ _))⟩)) | (go_at_call 28; (with_reducible refine (calepinref07_Blanks.calls kj12 ((rd_T60 l0 x9_1).f3) true _ A39.out).mono ?_); rintro e w' ⟨rfl, ⟨nd, rfl⟩⟩; (try first | exact ⟨rfl, _, World.drewN_drewN _ _ _⟩ | exact ⟨rfl, _, Eq.trans (World.drewN_drewN _ _ _) (congrArg (World.drewN _) (Nat.add_assoc _ _ _))⟩))); try go_wp2_with (first | (go_at_call 51; (with_reducible refine (calepinref01_Valid.calls kj12 ((rd_T60 l0 x9_1).f3) true _ A37.out).mono ?_); rintro e w' ⟨rfl, ⟨nd, rfl⟩⟩; (try first | exact ⟨rfl, _, World.drewN_drewN _ _ _⟩ | exact ⟨rfl, _, Eq.trans (World.drewN_drewN _ _ _) (congrArg (World.drewN _) (Nat.add_assoc _ _ _))⟩)) | (go_at_call 28; (with_reducible refine (calepinref07_Blanks.calls kj12 ((rd_T60 l0 x9_1).f3) true _ A39.out).mono ?_); rintro e w' ⟨rfl, ⟨nd, rfl⟩⟩; (try first | exact ⟨rfl, _, World.drewN_drewN _ _ _⟩ | exact ⟨rfl, _, Eq.trans (World.drewN_drewN _ _ _) (congrArg (World.drewN _) (Nat.add_assoc _ _ _))⟩))))
                                            go_ret
                                            exact ⟨by first | rfl | (simp [errW_none, errW_some] <;> rfl) | (simp only [← hji30]; first | rfl | (simp [errW_none, errW_some] <;> rfl)) | (simp [*, errW_none, errW_some] <;> rfl), by repeat (first | (with_reducible first | exact HB.out | apply below_alloc | apply pw_below_drewN | apply below_drew1 | refine below_set ?_ GE137.out) | exact HB.out)⟩
                                          · replace c40 := Bool.eq_false_iff.mpr c40
                                            subst c40
                                            have H1 : (calepinref07_Right.j3 kj12 l0 x3_1 l0 (l0.length : Int) x9_1 ((rd_T60 l0 x9_1).f0) ((rd_T60 l0 x9_1).f1) ((rd_T60 l0 x9_1).f2) ((rd_T60 l0 x9_1).f3)) = some r := by rw [if_neg (show ¬ (false = true) by decide)] at H; exact H
                                            clear H
                                            have H := H1
                                            clear H1
                                            have H' := Aside0.mk H
                                            clear H
                                            have p139 : 0 ≤ ((ji30) : Int) := of_decide_eq_true (by first | (with_reducible assumption) | assumption)
                                            have q139 : (ji30) < (l0.length : Int) := of_decide_eq_true (by first | (with_reducible assumption) | assumption)
                                            obtain ⟨ad139, e139, hx139_0, hx139_1, hx139_2, hx139_3⟩ := at_T60 HR0.out (ji30) p139 q139
                                            obtain rfl : ad136 = ad139 := (by injection e139)
                                            replace hx139_0 := (HB.out.cell (World.block_lt_of_cell? w _ hx139_0)).trans hx139_0
                                            replace hx139_1 := (HB.out.cell (World.block_lt_of_cell? w _ hx139_1)).trans hx139_1
                                            replace hx139_2 := (HB.out.cell (World.block_lt_of_cell? w _ hx139_2)).trans hx139_2
                                            replace hx139_3 := (HB.out.cell (World.block_lt_of_cell? w _ hx139_3)).trans hx139_3
                                            replace p139 := eq_true p139
                                            replace q139 := eq_true q139
                                            have hcz42_0 : wc.cell? ⟨gb137, 0, none⟩ = some (.int .i64 ((rd_T60 l0 x9_1).f0)) := (blk_cell BK137.out 0).trans rfl
                                            have hcz42_1 : wc.cell? ⟨gb137, 1, none⟩ = some (.int .i64 ((rd_T60 l0 x9_1).f1)) := (blk_cell BK137.out 1).trans rfl
                                            have hcz42_2 : wc.cell? ⟨gb137, 2, none⟩ = some (.string ((rd_T60 l0 x9_1).f2)) := (blk_cell BK137.out 2).trans rfl
                                            have hcz42_3 : wc.cell? ⟨gb137, 3, none⟩ = some (.string ((rd_T60 l0 x9_1).f3)) := (blk_cell BK137.out 3).trans rfl
                                            have hfz42_0 := blk_frozen BK137.out 0
                                            have hfz42_1 := blk_frozen BK137.out 1
                                            have hfz42_2 := blk_frozen BK137.out 2
                                            have hfz42_3 := blk_frozen BK137.out 3
                                            go_wp2_with (first | (go_at_call 51; (with_reducible refine (calepinref01_Valid.calls kj12 ((rd_T60 l0 x9_1).f3) true _ A37.out).mono ?_); rintro e w' ⟨rfl, ⟨nd, rfl⟩⟩; (try first | exact ⟨rfl, _, World.drewN_drewN _ _ _⟩ | exact ⟨rfl, _, Eq.trans (World.drewN_drewN _ _ _) (congrArg (World.drewN _) (Nat.add_assoc _ _ _))⟩)) | (go_at_call 28; (with_reducible refine (calepinref07_Blanks.calls kj12 ((rd_T60 l0 x9_1).f3) false _ A39.out).mono ?_); rintro e w' ⟨rfl, ⟨nd, rfl⟩⟩; (try first | exact ⟨rfl, _, World.drewN_drewN _ _ _⟩ | exact ⟨rfl, _, Eq.trans (World.drewN_drewN _ _ _) (congrArg (World.drewN _) (Nat.add_assoc _ _ _))⟩)))
                                            repeat (go_quiet (first | (go_at_call 51; (with_reducible refine (calepinref01_Valid.calls kj12 ((rd_T60 l0 x9_1).f3) true _ A37.out).mono ?_); rintro e w' ⟨rfl, ⟨nd, rfl⟩⟩; (try first | exact ⟨rfl, _, World.drewN_drewN _ _ _⟩ | exact ⟨rfl, _, Eq.trans (World.drewN_drewN _ _ _) (congrArg (World.drewN _) (Nat.add_assoc _ _ _))⟩)) | (go_at_call 28; (with_reducible refine (calepinref07_Blanks.calls kj12 ((rd_T60 l0 x9_1).f3) false _ A39.out).mono ?_); rintro e w' ⟨rfl, ⟨nd, rfl⟩⟩; (try first | exact ⟨rfl, _, World.drewN_drewN _ _ _⟩ | exact ⟨rfl, _, Eq.trans (World.drewN_drewN _ _ _) (congrArg (World.drewN _) (Nat.add_assoc _ _ _))⟩))); try go_wp2_with (first | (go_at_call 51; (with_reducible refine (calepinref01_Valid.calls kj12 ((rd_T60 l0 x9_1).f3) true _ A37.out).mono ?_); rintro e w' ⟨rfl, ⟨nd, rfl⟩⟩; (try first | exact ⟨rfl, _, World.drewN_drewN _ _ _⟩ | exact ⟨rfl, _, Eq.trans (World.drewN_drewN _ _ _) (congrArg (World.drewN _) (Nat.add_assoc _ _ _))⟩)) | (go_at_call 28; (with_reducible refine (calepinref07_Blanks.calls kj12 ((rd_T60 l0 x9_1).f3) false _ A39.out).mono ?_); rintro e w' ⟨rfl, ⟨nd, rfl⟩⟩; (try first | exact ⟨rfl, _, World.drewN_drewN _ _ _⟩ | exact ⟨rfl, _, Eq.trans (World.drewN_drewN _ _ _) (congrArg (World.drewN _) (Nat.add_assoc _ _ _))⟩))))
                                            go_meet
                                            case rel => exact ⟨_, H', ⟨by have := HK1.out; have := HJ4.out; have := HJ12.out; first | omega | exact Nat.le_refl _⟩, ⟨by (with_reducible repeat (first | apply Kd.R_alloc | apply Kd.R_drewN | apply Kd.R_drew)); exact HO_3.out⟩, ⟨by (with_reducible repeat (first | refine blk_drewN ?_ _ | refine blk_drew ?_ | refine blk_alloc ?_ _)); exact BK137.out⟩, ⟨by repeat (first | (with_reducible first | exact HB.out | apply below_alloc | apply pw_below_drewN | apply below_drew1 | refine below_set ?_ GE137.out) | exact HB.out)⟩⟩
                                        · replace c38 := Bool.eq_false_iff.mpr c38
                                          subst c38
                                          have H1 : (some false) = some r := by rw [if_neg (show ¬ (false = true) by decide)] at H; exact H
                                          clear H
                                          have H := H1
                                          clear H1
                                          obtain rfl := Option.some.inj H
                                          have p139 : 0 ≤ ((ji30) : Int) := of_decide_eq_true (by first | (with_reducible assumption) | assumption)
                                          have q139 : (ji30) < (l0.length : Int) := of_decide_eq_true (by first | (with_reducible assumption) | assumption)
                                          obtain ⟨ad139, e139, hx139_0, hx139_1, hx139_2, hx139_3⟩ := at_T60 HR0.out (ji30) p139 q139
                                          obtain rfl : ad136 = ad139 := (by injection e139)
                                          replace hx139_0 := (HB.out.cell (World.block_lt_of_cell? w _ hx139_0)).trans hx139_0
                                          replace hx139_1 := (HB.out.cell (World.block_lt_of_cell? w _ hx139_1)).trans hx139_1
                                          replace hx139_2 := (HB.out.cell (World.block_lt_of_cell? w _ hx139_2)).trans hx139_2
                                          replace hx139_3 := (HB.out.cell (World.block_lt_of_cell? w _ hx139_3)).trans hx139_3
                                          replace p139 := eq_true p139
                                          replace q139 := eq_true q139
                                          have hcz43_0 : wc.cell? ⟨gb137, 0, none⟩ = some (.int .i64 ((rd_T60 l0 x9_1).f0)) := (blk_cell BK137.out 0).trans rfl
                                          have hcz43_1 : wc.cell? ⟨gb137, 1, none⟩ = some (.int .i64 ((rd_T60 l0 x9_1).f1)) := (blk_cell BK137.out 1).trans rfl
                                          have hcz43_2 : wc.cell? ⟨gb137, 2, none⟩ = some (.string ((rd_T60 l0 x9_1).f2)) := (blk_cell BK137.out 2).trans rfl
                                          have hcz43_3 : wc.cell? ⟨gb137, 3, none⟩ = some (.string ((rd_T60 l0 x9_1).f3)) := (blk_cell BK137.out 3).trans rfl
                                          have hfz43_0 := blk_frozen BK137.out 0
                                          have hfz43_1 := blk_frozen BK137.out 1
                                          have hfz43_2 := blk_frozen BK137.out 2
                                          have hfz43_3 := blk_frozen BK137.out 3
                                          go_wp2_with (first | (go_at_call 51; (with_reducible refine (calepinref01_Valid.calls kj12 ((rd_T60 l0 x9_1).f3) false _ A37.out).mono ?_); rintro e w' ⟨rfl, ⟨nd, rfl⟩⟩; (try first | exact ⟨rfl, _, World.drewN_drewN _ _ _⟩ | exact ⟨rfl, _, Eq.trans (World.drewN_drewN _ _ _) (congrArg (World.drewN _) (Nat.add_assoc _ _ _))⟩)))
                                          repeat (go_quiet (first | (go_at_call 51; (with_reducible refine (calepinref01_Valid.calls kj12 ((rd_T60 l0 x9_1).f3) false _ A37.out).mono ?_); rintro e w' ⟨rfl, ⟨nd, rfl⟩⟩; (try first | exact ⟨rfl, _, World.drewN_drewN _ _ _⟩ | exact ⟨rfl, _, Eq.trans (World.drewN_drewN _ _ _) (congrArg (World.drewN _) (Nat.add_assoc _ _ _))⟩))); try go_wp2_with (first | (go_at_call 51; (with_reducible refine (calepinref01_Valid.calls kj12 ((rd_T60 l0 x9_1).f3) false _ A37.out).mono ?_); rintro e w' ⟨rfl, ⟨nd, rfl⟩⟩; (try first | exact ⟨rfl, _, World.drewN_drewN _ _ _⟩ | exact ⟨rfl, _, Eq.trans (World.drewN_drewN _ _ _) (congrArg (World.drewN _) (Nat.add_assoc _ _ _))⟩))))
                                          go_ret
                                          exact ⟨by first | rfl | (simp [errW_none, errW_some] <;> rfl) | (simp only [← hji30]; first | rfl | (simp [errW_none, errW_some] <;> rfl)) | (simp [*, errW_none, errW_some] <;> rfl), by repeat (first | (with_reducible first | exact HB.out | apply below_alloc | apply pw_below_drewN | apply below_drew1 | refine below_set ?_ GE137.out) | exact HB.out)⟩
                                      · rw [if_neg c36] at H
                                        have c36b0 : (((rd_T60 l0 x9_1).f1) == 0) = false := beq_eq_false_iff_ne.mpr c36
                                        have c36b1 : (((rd_T60 l0 x9_1).f1) != 0) = true := bne_iff_ne.mpr c36
                                        obtain rfl := Option.some.inj H
                                        have p139 : 0 ≤ ((ji30) : Int) := of_decide_eq_true (by first | (with_reducible assumption) | assumption)
                                        have q139 : (ji30) < (l0.length : Int) := of_decide_eq_true (by first | (with_reducible assumption) | assumption)
                                        obtain ⟨ad139, e139, hx139_0, hx139_1, hx139_2, hx139_3⟩ := at_T60 HR0.out (ji30) p139 q139
                                        obtain rfl : ad136 = ad139 := (by injection e139)
                                        replace hx139_0 := (HB.out.cell (World.block_lt_of_cell? w _ hx139_0)).trans hx139_0
                                        replace hx139_1 := (HB.out.cell (World.block_lt_of_cell? w _ hx139_1)).trans hx139_1
                                        replace hx139_2 := (HB.out.cell (World.block_lt_of_cell? w _ hx139_2)).trans hx139_2
                                        replace hx139_3 := (HB.out.cell (World.block_lt_of_cell? w _ hx139_3)).trans hx139_3
                                        replace p139 := eq_true p139
                                        replace q139 := eq_true q139
                                        have hcz44_0 : wc.cell? ⟨gb137, 0, none⟩ = some (.int .i64 ((rd_T60 l0 x9_1).f0)) := (blk_cell BK137.out 0).trans rfl
                                        have hcz44_1 : wc.cell? ⟨gb137, 1, none⟩ = some (.int .i64 ((rd_T60 l0 x9_1).f1)) := (blk_cell BK137.out 1).trans rfl
                                        have hcz44_2 : wc.cell? ⟨gb137, 2, none⟩ = some (.string ((rd_T60 l0 x9_1).f2)) := (blk_cell BK137.out 2).trans rfl
                                        have hcz44_3 : wc.cell? ⟨gb137, 3, none⟩ = some (.string ((rd_T60 l0 x9_1).f3)) := (blk_cell BK137.out 3).trans rfl
                                        have hfz44_0 := blk_frozen BK137.out 0
                                        have hfz44_1 := blk_frozen BK137.out 1
                                        have hfz44_2 := blk_frozen BK137.out 2
                                        have hfz44_3 := blk_frozen BK137.out 3
                                        go_wp2
                                        repeat (go_quiet (fail); try go_wp2)
                                        go_ret
                                        exact ⟨by first | rfl | (simp [errW_none, errW_some] <;> rfl) | (simp only [← hji30]; first | rfl | (simp [errW_none, errW_some] <;> rfl)) | (simp [*, errW_none, errW_some] <;> rfl), by repeat (first | (with_reducible first | exact HB.out | apply below_alloc | apply pw_below_drewN | apply below_drew1 | refine below_set ?_ GE137.out) | exact HB.out)⟩
                                · rw [if_neg c32] at H
                                  exact absurd H (by simp)
                              · rw [if_neg c31] at H
                                exact absurd H (by simp)
                          · rw [if_neg c28] at H
                            have c28b0 : (((rd_T60 l0 x9_1).f0) == 3) = false := beq_eq_false_iff_ne.mpr c28
                            have c28b1 : (((rd_T60 l0 x9_1).f0) != 3) = true := bne_iff_ne.mpr c28
                            obtain rfl := Option.some.inj H
                            go_wp2
                            repeat (go_quiet (fail); try go_wp2)
                            go_ret
                            exact ⟨by first | rfl | (simp [errW_none, errW_some] <;> rfl) | (simp [*, errW_none, errW_some] <;> rfl), by repeat (first | (with_reducible first | exact HB.out | apply below_alloc | apply pw_below_drewN | apply below_drew1 | refine below_set ?_ GE137.out) | exact HB.out)⟩
                  case rest =>
                    clear HC11
                    try clear c1
                    try clear p1
                    try clear q1
                    try clear hx1
                    try clear c2
                    try clear c2b0
                    try clear p2
                    try clear c3
                    try clear c3b0
                    try clear c4
                    try clear c4b0
                    try clear p6
                    try clear c8
                    try clear c8b0
                    try clear c10
                    try clear p13
                    try clear q13
                    try clear hx13
                    try clear c14
                    try clear c14b0
                    try clear c14b1
                    try clear c15
                    try clear c16
                    try clear c16b0
                    try clear c16b1
                    try clear c18
                    try clear c18b0
                    try clear c20
                    try clear c20b0
                    try clear c23
                    try clear c23b0
                    try clear c23b1
                    try clear c24
                    try clear c24b0
                    try clear c24b1
                    try clear c28
                    try clear c28b0
                    try clear c28b1
                    try clear c29
                    try clear c29b0
                    try clear c29b1
                    try clear c31
                    try clear c31b0
                    try clear c32
                    try clear c32b0
                    try clear c33
                    try clear c33b0
                    try clear c33b1
                    try clear c34
                    try clear c34b0
                    try clear c34b1
                    try clear c36
                    try clear c36b0
                    try clear c36b1
                    try clear c38
                    try clear c40
                    try clear hcz12_0
                    try clear hcz12_1
                    try clear hcz12_2
                    try clear hcz12_3
                    try clear hcz17_0
                    try clear hcz17_1
                    try clear hcz17_2
                    try clear hcz17_3
                    try clear hcz19_0
                    try clear hcz19_1
                    try clear hcz19_2
                    try clear hcz19_3
                    try clear hcz21_0
                    try clear hcz21_1
                    try clear hcz21_2
                    try clear hcz21_3
                    try clear hcz25_0
                    try clear hcz25_1
                    try clear hcz25_2
                    try clear hcz25_3
                    try clear hcz26_0
                    try clear hcz26_1
                    try clear hcz26_2
                    try clear hcz26_3
                    try clear hcz27_0
                    try clear hcz27_1
                    try clear hcz27_2
                    try clear hcz27_3
                    try clear hcz35_0
                    try clear hcz35_1
                    try clear hcz35_2
                    try clear hcz35_3
                    try clear hcz41_0
                    try clear hcz41_1
                    try clear hcz41_2
                    try clear hcz41_3
                    try clear hcz42_0
                    try clear hcz42_1
                    try clear hcz42_2
                    try clear hcz42_3
                    try clear hcz43_0
                    try clear hcz43_1
                    try clear hcz43_2
                    try clear hcz43_3
                    try clear hcz44_0
                    try clear hcz44_1
                    try clear hcz44_2
                    try clear hcz44_3
                    try clear hcz7_0
                    try clear hcz7_1
                    try clear hcz7_2
                    try clear hcz7_3
                    try clear hfz12_0
                    try clear hfz12_1
                    try clear hfz12_2
                    try clear hfz12_3
                    try clear hfz17_0
                    try clear hfz17_1
                    try clear hfz17_2
                    try clear hfz17_3
                    try clear hfz19_0
                    try clear hfz19_1
                    try clear hfz19_2
                    try clear hfz19_3
                    try clear hfz21_0
                    try clear hfz21_1
                    try clear hfz21_2
                    try clear hfz21_3
                    try clear hfz25_0
                    try clear hfz25_1
                    try clear hfz25_2
                    try clear hfz25_3
                    try clear hfz26_0
                    try clear hfz26_1
                    try clear hfz26_2
                    try clear hfz26_3
                    try clear hfz27_0
                    try clear hfz27_1
                    try clear hfz27_2
                    try clear hfz27_3
                    try clear hfz35_0
                    try clear hfz35_1
                    try clear hfz35_2
                    try clear hfz35_3
                    try clear hfz41_0
                    try clear hfz41_1
                    try clear hfz41_2
                    try clear hfz41_3
                    try clear hfz42_0
                    try clear hfz42_1
                    try clear hfz42_2
                    try clear hfz42_3
                    try clear hfz43_0
                    try clear hfz43_1
                    try clear hfz43_2
                    try clear hfz43_3
                    try clear hfz44_0
                    try clear hfz44_1
                    try clear hfz44_2
                    try clear hfz44_3
                    try clear hfz7_0
                    try clear hfz7_1
                    try clear hfz7_2
                    try clear hfz7_3
                    try clear hx136_0
                    try clear hx136_1
                    try clear hx136_2
                    try clear hx136_3
                    try clear hx139_0
                    try clear hx139_1
                    try clear hx139_2
                    try clear hx139_3
                    try clear p1
                    try clear p13
                    try clear p136
                    try clear p139
                    try clear p2
                    try clear q1
                    try clear q13
                    try clear q136
                    try clear q139
                    obtain ⟨kq, HA, HJ10, HO_3, BK137, HB⟩ := hcut
                    cases kq with
                    | zero => exact absurd HA.out (by simp [calepinref07_Right.j3])
                    | succ kj10 =>
                      have H := HA.out
                      clear HA
                      simp only [calepinref07_Right.j3] at H
                      have HC45 := Aside0.mk H
                      clear H
                      have hcz46_0 : wc.cell? ⟨gb137, 0, none⟩ = some (.int .i64 ((rd_T60 l0 x9_1).f0)) := (blk_cell BK137.out 0).trans rfl
                      have hcz46_1 : wc.cell? ⟨gb137, 1, none⟩ = some (.int .i64 ((rd_T60 l0 x9_1).f1)) := (blk_cell BK137.out 1).trans rfl
                      have hcz46_2 : wc.cell? ⟨gb137, 2, none⟩ = some (.string ((rd_T60 l0 x9_1).f2)) := (blk_cell BK137.out 2).trans rfl
                      have hcz46_3 : wc.cell? ⟨gb137, 3, none⟩ = some (.string ((rd_T60 l0 x9_1).f3)) := (blk_cell BK137.out 3).trans rfl
                      have hfz46_0 := blk_frozen BK137.out 0
                      have hfz46_1 := blk_frozen BK137.out 1
                      have hfz46_2 := blk_frozen BK137.out 2
                      have hfz46_3 := blk_frozen BK137.out 3
                      go_upto_if 92 with (fail)
                      repeat (go_quiet (fail); go_upto_if 92 with (fail))
                      go_cut [3] (fun v3 wc => ∃ (kq : Nat) (x3_44 : List (S60)), Aside0 (calepinref07_Right.j4 kq l0 x3_44 l0 (l0.length : Int) x9_1 ((rd_T60 l0 x9_1).f0) ((rd_T60 l0 x9_1).f1) ((rd_T60 l0 x9_1).f2) ((rd_T60 l0 x9_1).f3) = some r) ∧ Aside0 (kq ≤ kj10) ∧ Aside0 (Kd.R k60 60 wc w.heap.size (fun k_ => k_ ≠ gb137) v3 x3_44) ∧ Aside0 (wc.heap[gb137]? = some (.cells #[.int .i64 ((rd_T60 l0 x9_1).f0), .int .i64 ((rd_T60 l0 x9_1).f1), .string ((rd_T60 l0 x9_1).f2), .string ((rd_T60 l0 x9_1).f3)] 60 (0, 0))) ∧ Aside0 (Below w.heap.size w wc))
                      case first =>
                        have H := HC45.out
                        clear HC45
                        by_cases c47 : ((rd_T60 l0 x9_1).f0) = 1
                        · rw [if_pos c47] at H
                          have c47b0 : (((rd_T60 l0 x9_1).f0) == 1) = true := beq_iff_eq.mpr c47
                          have c47b1 : (((rd_T60 l0 x9_1).f0) != 1) = false := bne_eq_false_iff_eq.mpr c47
                          clear c47
                          (first | rw [c47b0] | rw [c47b1] | (simp only [i64_w, i32_w]; rw [c47b0]) | skip)
                          by_cases c48 : x3_1.length < 2932031007402
                          · rw [if_pos c48] at H
                            have LMc48 := Aside0.mk c48
                            clear c48
                            obtain ⟨y142, hy142⟩ : ∃ y_ : List (S60), y_ = (x3_1 ++ [(⟨((rd_T60 l0 x9_1).f0), ((rd_T60 l0 x9_1).f1), ((rd_T60 l0 x9_1).f2), ((rd_T60 l0 x9_1).f3)⟩ : S60)]) := ⟨_, rfl⟩
                            replace H : (calepinref07_Right.j4 kj10 l0 y142 l0 (l0.length : Int) x9_1 ((rd_T60 l0 x9_1).f0) ((rd_T60 l0 x9_1).f1) ((rd_T60 l0 x9_1).f2) ((rd_T60 l0 x9_1).f3)) = some r := by first | (rw [hy142]; with_reducible exact H) | (have H2_ := (Option.bind_some _ _).symm.trans H; rw [hy142]; with_reducible exact H2_) | (have H2_ := (Option.bind_some _ _).symm.trans H; with_reducible exact H2_) | with_reducible exact H | (rw [hy142]; exact H) | exact H
                            have Ny142 := Aside0.mk hy142
                            clear hy142
                            have H' := Aside0.mk H
                            clear H
                            have hcz49_0 : wc.cell? ⟨gb137, 0, none⟩ = some (.int .i64 ((rd_T60 l0 x9_1).f0)) := (blk_cell BK137.out 0).trans rfl
                            have hcz49_1 : wc.cell? ⟨gb137, 1, none⟩ = some (.int .i64 ((rd_T60 l0 x9_1).f1)) := (blk_cell BK137.out 1).trans rfl
                            have hcz49_2 : wc.cell? ⟨gb137, 2, none⟩ = some (.string ((rd_T60 l0 x9_1).f2)) := (blk_cell BK137.out 2).trans rfl
                            have hcz49_3 : wc.cell? ⟨gb137, 3, none⟩ = some (.string ((rd_T60 l0 x9_1).f3)) := (blk_cell BK137.out 3).trans rfl
                            have hfz49_0 := blk_frozen BK137.out 0
                            have hfz49_1 := blk_frozen BK137.out 1
                            have hfz49_2 := blk_frozen BK137.out 2
                            have hfz49_3 := blk_frozen BK137.out 3
                            go_wp2_with (first | ((with_reducible refine gate_builtin (b := .append) (xs := #[.tmp 93, .tmp 95]) rfl ?_); (try (refine gate_guard (by rfl) ?_; dsimp only)); at_builtin; refine Kd.R_append k60 (w0 := w) w.heap.size rfl (.tmp 93) (.tmp 95) 48 60 (.agg #[(.int .i64 0), (.int .i64 0), (.string ⟨#[]⟩), (.string ⟨#[]⟩)]) 48 rfl Tryz.underlying48 info60 rfl (by decide) (by omega) u3 x3_1 (⟨((rd_T60 l0 x9_1).f0), ((rd_T60 l0 x9_1).f1), ((rd_T60 l0 x9_1).f2), ((rd_T60 l0 x9_1).f3)⟩ : S60) [.int .i64 ((rd_T60 l0 x9_1).f0), .int .i64 ((rd_T60 l0 x9_1).f1), .string ((rd_T60 l0 x9_1).f2), .string ((rd_T60 l0 x9_1).f3)] (fun k_ => k_ ≠ gb137) (fun _ => False) rfl rfl ?aP (fun _ hk => hk.elim) ?aF ?aO ?aB ?aS ?aL ?_; (case aP => exact k60_mkM _ _ _ (⟨((rd_T60 l0 x9_1).f0), ((rd_T60 l0 x9_1).f1), ((rd_T60 l0 x9_1).f2), ((rd_T60 l0 x9_1).f3)⟩ : S60)); (case aB => exact (by repeat (first | (with_reducible first | exact HB.out | apply below_alloc | apply pw_below_drewN | apply below_drew1 | refine below_set ?_ GE137.out) | exact HB.out))); (case aF => exact (fun k_ hk => Kd.freshB (g := gb137) (o := .cells #[.int .i64 ((rd_T60 l0 x9_1).f0), .int .i64 ((rd_T60 l0 x9_1).f1), .string ((rd_T60 l0 x9_1).f2), .string ((rd_T60 l0 x9_1).f3)] 60 (0, 0)) (by (with_reducible repeat (first | refine blk_drewN ?_ _ | refine blk_drew ?_ | refine blk_alloc ?_ _)); exact BK137.out) k_ hk)); (case aO => exact (by (with_reducible repeat (first | apply Kd.R_alloc | apply Kd.R_drewN | apply Kd.R_drew)); exact HO_3.out)); (case aS => exact (below_size (by repeat (first | (with_reducible first | exact HB.out | apply below_alloc | apply pw_below_drewN | apply below_drew1 | refine below_set ?_ GE137.out) | exact HB.out)))); (case aL => have := LMc48.out; omega); intro v143 w50 ho hb hg hat; rw [← Ny142.out] at ho; have n0_ := Aside0.mk (blk_grown (g := gb137) (o := .cells #[.int .i64 ((rd_T60 l0 x9_1).f0), .int .i64 ((rd_T60 l0 x9_1).f1), .string ((rd_T60 l0 x9_1).f2), .string ((rd_T60 l0 x9_1).f3)] 60 (0, 0)) (by (with_reducible repeat (first | refine blk_drewN ?_ _ | refine blk_drew ?_ | refine blk_alloc ?_ _)); exact BK137.out) hg (Kd.R_away HO_3.out (fun _ hk => hk))); have n1_ := Aside0.mk (hb); have n2_ := Aside0.mk (ho); clear BK137; clear HB; clear HO_3; have BK137 := n0_; have HB := n1_; have HO144 := n2_; clear n0_ n1_ n2_; clear ho hb hg hat))
                            repeat (go_quiet (first | ((with_reducible refine gate_builtin (b := .append) (xs := #[.tmp 93, .tmp 95]) rfl ?_); (try (refine gate_guard (by rfl) ?_; dsimp only)); at_builtin; refine Kd.R_append k60 (w0 := w) w.heap.size rfl (.tmp 93) (.tmp 95) 48 60 (.agg #[(.int .i64 0), (.int .i64 0), (.string ⟨#[]⟩), (.string ⟨#[]⟩)]) 48 rfl Tryz.underlying48 info60 rfl (by decide) (by omega) u3 x3_1 (⟨((rd_T60 l0 x9_1).f0), ((rd_T60 l0 x9_1).f1), ((rd_T60 l0 x9_1).f2), ((rd_T60 l0 x9_1).f3)⟩ : S60) [.int .i64 ((rd_T60 l0 x9_1).f0), .int .i64 ((rd_T60 l0 x9_1).f1), .string ((rd_T60 l0 x9_1).f2), .string ((rd_T60 l0 x9_1).f3)] (fun k_ => k_ ≠ gb137) (fun _ => False) rfl rfl ?aP (fun _ hk => hk.elim) ?aF ?aO ?aB ?aS ?aL ?_; (case aP => exact k60_mkM _ _ _ (⟨((rd_T60 l0 x9_1).f0), ((rd_T60 l0 x9_1).f1), ((rd_T60 l0 x9_1).f2), ((rd_T60 l0 x9_1).f3)⟩ : S60)); (case aB => exact (by repeat (first | (with_reducible first | exact HB.out | apply below_alloc | apply pw_below_drewN | apply below_drew1 | refine below_set ?_ GE137.out) | exact HB.out))); (case aF => exact (fun k_ hk => Kd.freshB (g := gb137) (o := .cells #[.int .i64 ((rd_T60 l0 x9_1).f0), .int .i64 ((rd_T60 l0 x9_1).f1), .string ((rd_T60 l0 x9_1).f2), .string ((rd_T60 l0 x9_1).f3)] 60 (0, 0)) (by (with_reducible repeat (first | refine blk_drewN ?_ _ | refine blk_drew ?_ | refine blk_alloc ?_ _)); exact BK137.out) k_ hk)); (case aO => exact (by (with_reducible repeat (first | apply Kd.R_alloc | apply Kd.R_drewN | apply Kd.R_drew)); exact HO_3.out)); (case aS => exact (below_size (by repeat (first | (with_reducible first | exact HB.out | apply below_alloc | apply pw_below_drewN | apply below_drew1 | refine below_set ?_ GE137.out) | exact HB.out)))); (case aL => have := LMc48.out; omega); intro v143 w50 ho hb hg hat; rw [← Ny142.out] at ho; have n0_ := Aside0.mk (blk_grown (g := gb137) (o := .cells #[.int .i64 ((rd_T60 l0 x9_1).f0), .int .i64 ((rd_T60 l0 x9_1).f1), .string ((rd_T60 l0 x9_1).f2), .string ((rd_T60 l0 x9_1).f3)] 60 (0, 0)) (by (with_reducible repeat (first | refine blk_drewN ?_ _ | refine blk_drew ?_ | refine blk_alloc ?_ _)); exact BK137.out) hg (Kd.R_away HO_3.out (fun _ hk => hk))); have n1_ := Aside0.mk (hb); have n2_ := Aside0.mk (ho); clear BK137; clear HB; clear HO_3; have BK137 := n0_; have HB := n1_; have HO144 := n2_; clear n0_ n1_ n2_; clear ho hb hg hat)); try go_wp2_with (first | ((with_reducible refine gate_builtin (b := .append) (xs := #[.tmp 93, .tmp 95]) rfl ?_); (try (refine gate_guard (by rfl) ?_; dsimp only)); at_builtin; refine Kd.R_append k60 (w0 := w) w.heap.size rfl (.tmp 93) (.tmp 95) 48 60 (.agg #[(.int .i64 0), (.int .i64 0), (.string ⟨#[]⟩), (.string ⟨#[]⟩)]) 48 rfl Tryz.underlying48 info60 rfl (by decide) (by omega) u3 x3_1 (⟨((rd_T60 l0 x9_1).f0), ((rd_T60 l0 x9_1).f1), ((rd_T60 l0 x9_1).f2), ((rd_T60 l0 x9_1).f3)⟩ : S60) [.int .i64 ((rd_T60 l0 x9_1).f0), .int .i64 ((rd_T60 l0 x9_1).f1), .string ((rd_T60 l0 x9_1).f2), .string ((rd_T60 l0 x9_1).f3)] (fun k_ => k_ ≠ gb137) (fun _ => False) rfl rfl ?aP (fun _ hk => hk.elim) ?aF ?aO ?aB ?aS ?aL ?_; (case aP => exact k60_mkM _ _ _ (⟨((rd_T60 l0 x9_1).f0), ((rd_T60 l0 x9_1).f1), ((rd_T60 l0 x9_1).f2), ((rd_T60 l0 x9_1).f3)⟩ : S60)); (case aB => exact (by repeat (first | (with_reducible first | exact HB.out | apply below_alloc | apply pw_below_drewN | apply below_drew1 | refine below_set ?_ GE137.out) | exact HB.out))); (case aF => exact (fun k_ hk => Kd.freshB (g := gb137) (o := .cells #[.int .i64 ((rd_T60 l0 x9_1).f0), .int .i64 ((rd_T60 l0 x9_1).f1), .string ((rd_T60 l0 x9_1).f2), .string ((rd_T60 l0 x9_1).f3)] 60 (0, 0)) (by (with_reducible repeat (first | refine blk_drewN ?_ _ | refine blk_drew ?_ | refine blk_alloc ?_ _)); exact BK137.out) k_ hk)); (case aO => exact (by (with_reducible repeat (first | apply Kd.R_alloc | apply Kd.R_drewN | apply Kd.R_drew)); exact HO_3.out)); (case aS => exact (below_size (by repeat (first | (with_reducible first | exact HB.out | apply below_alloc | apply pw_below_drewN | apply below_drew1 | refine below_set ?_ GE137.out) | exact HB.out)))); (case aL => have := LMc48.out; omega); intro v143 w50 ho hb hg hat; rw [← Ny142.out] at ho; have n0_ := Aside0.mk (blk_grown (g := gb137) (o := .cells #[.int .i64 ((rd_T60 l0 x9_1).f0), .int .i64 ((rd_T60 l0 x9_1).f1), .string ((rd_T60 l0 x9_1).f2), .string ((rd_T60 l0 x9_1).f3)] 60 (0, 0)) (by (with_reducible repeat (first | refine blk_drewN ?_ _ | refine blk_drew ?_ | refine blk_alloc ?_ _)); exact BK137.out) hg (Kd.R_away HO_3.out (fun _ hk => hk))); have n1_ := Aside0.mk (hb); have n2_ := Aside0.mk (ho); clear BK137; clear HB; clear HO_3; have BK137 := n0_; have HB := n1_; have HO144 := n2_; clear n0_ n1_ n2_; clear ho hb hg hat)))
                            go_meet
                            case rel => exact ⟨_, (y142), H', ⟨by have := HK1.out; have := HJ4.out; have := HJ10.out; first | omega | exact Nat.le_refl _⟩, ⟨by (with_reducible repeat (first | apply Kd.R_alloc | apply Kd.R_drewN | apply Kd.R_drew)); exact HO144.out⟩, ⟨by (with_reducible repeat (first | refine blk_drewN ?_ _ | refine blk_drew ?_ | refine blk_alloc ?_ _)); exact BK137.out⟩, ⟨by repeat (first | (with_reducible first | exact HB.out | apply below_alloc | apply pw_below_drewN | apply below_drew1 | refine below_set ?_ GE137.out) | exact HB.out)⟩⟩
                          · rw [if_neg c48] at H
                            exact absurd H (by simp)
                        · rw [if_neg c47] at H
                          have c47b0 : (((rd_T60 l0 x9_1).f0) == 1) = false := beq_eq_false_iff_ne.mpr c47
                          have c47b1 : (((rd_T60 l0 x9_1).f0) != 1) = true := bne_iff_ne.mpr c47
                          (first | rw [c47b0] | rw [c47b1] | (simp only [i64_w, i32_w]; rw [c47b0]) | skip)
                          have H' := Aside0.mk H
                          clear H
                          go_wp2
                          repeat (go_quiet (fail); try go_wp2)
                          go_meet
                          case rel => exact ⟨_, (x3_1), H', ⟨by have := HK1.out; have := HJ4.out; have := HJ10.out; first | omega | exact Nat.le_refl _⟩, ⟨by (with_reducible repeat (first | apply Kd.R_alloc | apply Kd.R_drewN | apply Kd.R_drew)); exact HO_3.out⟩, ⟨by (with_reducible repeat (first | refine blk_drewN ?_ _ | refine blk_drew ?_ | refine blk_alloc ?_ _)); exact BK137.out⟩, ⟨by repeat (first | (with_reducible first | exact HB.out | apply below_alloc | apply pw_below_drewN | apply below_drew1 | refine below_set ?_ GE137.out) | exact HB.out)⟩⟩
                      case rest =>
                        clear HC45
                        try clear c1
                        try clear p1
                        try clear q1
                        try clear hx1
                        try clear c2
                        try clear c2b0
                        try clear p2
                        try clear c3
                        try clear c3b0
                        try clear c4
                        try clear c4b0
                        try clear p6
                        try clear c8
                        try clear c8b0
                        try clear c10
                        try clear p13
                        try clear q13
                        try clear hx13
                        try clear c14
                        try clear c14b0
                        try clear c14b1
                        try clear c15
                        try clear c16
                        try clear c16b0
                        try clear c16b1
                        try clear c18
                        try clear c18b0
                        try clear c20
                        try clear c20b0
                        try clear c23
                        try clear c23b0
                        try clear c23b1
                        try clear c24
                        try clear c24b0
                        try clear c24b1
                        try clear c28
                        try clear c28b0
                        try clear c28b1
                        try clear c29
                        try clear c29b0
                        try clear c29b1
                        try clear c31
                        try clear c31b0
                        try clear c32
                        try clear c32b0
                        try clear c33
                        try clear c33b0
                        try clear c33b1
                        try clear c34
                        try clear c34b0
                        try clear c34b1
                        try clear c36
                        try clear c36b0
                        try clear c36b1
                        try clear c38
                        try clear c40
                        try clear c47
                        try clear c47b0
                        try clear c47b1
                        try clear c48
                        try clear hcz12_0
                        try clear hcz12_1
                        try clear hcz12_2
                        try clear hcz12_3
                        try clear hcz17_0
                        try clear hcz17_1
                        try clear hcz17_2
                        try clear hcz17_3
                        try clear hcz19_0
                        try clear hcz19_1
                        try clear hcz19_2
                        try clear hcz19_3
                        try clear hcz21_0
                        try clear hcz21_1
                        try clear hcz21_2
                        try clear hcz21_3
                        try clear hcz25_0
                        try clear hcz25_1
                        try clear hcz25_2
                        try clear hcz25_3
                        try clear hcz26_0
                        try clear hcz26_1
                        try clear hcz26_2
                        try clear hcz26_3
                        try clear hcz27_0
                        try clear hcz27_1
                        try clear hcz27_2
                        try clear hcz27_3
                        try clear hcz35_0
                        try clear hcz35_1
                        try clear hcz35_2
                        try clear hcz35_3
                        try clear hcz41_0
                        try clear hcz41_1
                        try clear hcz41_2
                        try clear hcz41_3
                        try clear hcz42_0
                        try clear hcz42_1
                        try clear hcz42_2
                        try clear hcz42_3
                        try clear hcz43_0
                        try clear hcz43_1
                        try clear hcz43_2
                        try clear hcz43_3
                        try clear hcz44_0
                        try clear hcz44_1
                        try clear hcz44_2
                        try clear hcz44_3
                        try clear hcz46_0
                        try clear hcz46_1
                        try clear hcz46_2
                        try clear hcz46_3
                        try clear hcz49_0
                        try clear hcz49_1
                        try clear hcz49_2
                        try clear hcz49_3
                        try clear hcz7_0
                        try clear hcz7_1
                        try clear hcz7_2
                        try clear hcz7_3
                        try clear hfz12_0
                        try clear hfz12_1
                        try clear hfz12_2
                        try clear hfz12_3
                        try clear hfz17_0
                        try clear hfz17_1
                        try clear hfz17_2
                        try clear hfz17_3
                        try clear hfz19_0
                        try clear hfz19_1
                        try clear hfz19_2
                        try clear hfz19_3
                        try clear hfz21_0
                        try clear hfz21_1
                        try clear hfz21_2
                        try clear hfz21_3
                        try clear hfz25_0
                        try clear hfz25_1
                        try clear hfz25_2
                        try clear hfz25_3
                        try clear hfz26_0
                        try clear hfz26_1
                        try clear hfz26_2
                        try clear hfz26_3
                        try clear hfz27_0
                        try clear hfz27_1
                        try clear hfz27_2
                        try clear hfz27_3
                        try clear hfz35_0
                        try clear hfz35_1
                        try clear hfz35_2
                        try clear hfz35_3
                        try clear hfz41_0
                        try clear hfz41_1
                        try clear hfz41_2
                        try clear hfz41_3
                        try clear hfz42_0
                        try clear hfz42_1
                        try clear hfz42_2
                        try clear hfz42_3
                        try clear hfz43_0
                        try clear hfz43_1
                        try clear hfz43_2
                        try clear hfz43_3
                        try clear hfz44_0
                        try clear hfz44_1
                        try clear hfz44_2
                        try clear hfz44_3
                        try clear hfz46_0
                        try clear hfz46_1
                        try clear hfz46_2
                        try clear hfz46_3
                        try clear hfz49_0
                        try clear hfz49_1
                        try clear hfz49_2
                        try clear hfz49_3
                        try clear hfz7_0
                        try clear hfz7_1
                        try clear hfz7_2
                        try clear hfz7_3
                        try clear hx136_0
                        try clear hx136_1
                        try clear hx136_2
                        try clear hx136_3
                        try clear hx139_0
                        try clear hx139_1
                        try clear hx139_2
                        try clear hx139_3
                        try clear p1
                        try clear p13
                        try clear p136
                        try clear p139
                        try clear p2
                        try clear p6
                        try clear q1
                        try clear q13
                        try clear q136
                        try clear q139
                        obtain ⟨kq, x3_44, HA, HJ44, HO_3, BK137, HB⟩ := hcut
                        cases kq with
                        | zero => exact absurd HA.out (by simp [calepinref07_Right.j4])
                        | succ kj44 =>
                          have H := HA.out
                          clear HA
                          simp only [calepinref07_Right.j4] at H
                          by_cases c51 : ((rd_T60 l0 x9_1).f0) = 2
                          · rw [if_pos c51] at H
                            have c51b0 : (((rd_T60 l0 x9_1).f0) == 2) = true := beq_iff_eq.mpr c51
                            have c51b1 : (((rd_T60 l0 x9_1).f0) != 2) = false := bne_eq_false_iff_eq.mpr c51
                            clear c51
                            have HC52 := Aside0.mk H
                            clear H
                            have hcz53_0 : wc.cell? ⟨gb137, 0, none⟩ = some (.int .i64 ((rd_T60 l0 x9_1).f0)) := (blk_cell BK137.out 0).trans rfl
                            have hcz53_1 : wc.cell? ⟨gb137, 1, none⟩ = some (.int .i64 ((rd_T60 l0 x9_1).f1)) := (blk_cell BK137.out 1).trans rfl
                            have hcz53_2 : wc.cell? ⟨gb137, 2, none⟩ = some (.string ((rd_T60 l0 x9_1).f2)) := (blk_cell BK137.out 2).trans rfl
                            have hcz53_3 : wc.cell? ⟨gb137, 3, none⟩ = some (.string ((rd_T60 l0 x9_1).f3)) := (blk_cell BK137.out 3).trans rfl
                            have hfz53_0 := blk_frozen BK137.out 0
                            have hfz53_1 := blk_frozen BK137.out 1
                            have hfz53_2 := blk_frozen BK137.out 2
                            have hfz53_3 := blk_frozen BK137.out 3
                            obtain ⟨Ao54, co54, eo54⟩ := Kd.R_slice HO_3.out
                            subst eo54
                            go_upto_region 20 with (fail)
                            repeat (go_quiet (fail); go_upto_region 20 with (fail))
                            go_cut [125] (fun v125 wc => ∃ (kq : Nat) (x125_51 : Bool), v125 = .bool x125_51 ∧ Aside0 (calepinref07_Right.j5 kq l0 x3_44 (x3_44.length : Int) l0 (l0.length : Int) x9_1 x125_51 = some r) ∧ Aside0 (kq ≤ kj44) ∧ Aside0 (Kd.R k60 60 wc w.heap.size (fun k_ => k_ ≠ gb137) (.slice Ao54 x3_44.length co54) x3_44) ∧ Aside0 (wc.heap[gb137]? = some (.cells #[.int .i64 ((rd_T60 l0 x9_1).f0), .int .i64 ((rd_T60 l0 x9_1).f1), .string ((rd_T60 l0 x9_1).f2), .string ((rd_T60 l0 x9_1).f3)] 60 (0, 0))) ∧ Aside0 (Below w.heap.size w wc))
                            case first =>
                              have H := HC52.out
                              clear HC52
                              by_cases c55 : (x3_44.length : Int) = 0
                              · rw [if_pos c55] at H
                                have c55b0 : ((x3_44.length : Int) == 0) = true := beq_iff_eq.mpr c55
                                have c55b1 : ((x3_44.length : Int) != 0) = false := bne_eq_false_iff_eq.mpr c55
                                clear c55
                                (first | rw [c55b0] | rw [c55b1] | (simp only [i64_w, i32_w]; rw [c55b0]) | skip)
                                have H' := Aside0.mk H
                                clear H
                                go_wp2
                                repeat (go_quiet (fail); try go_wp2)
                                go_meet
                                case rel => exact ⟨_, (true), (by first | rfl | (simp; done) | (simp [*]; done)), H', ⟨by have := HK1.out; have := HJ4.out; have := HJ10.out; have := HJ44.out; first | omega | exact Nat.le_refl _⟩, ⟨by (with_reducible repeat (first | apply Kd.R_alloc | apply Kd.R_drewN | apply Kd.R_drew)); exact HO_3.out⟩, ⟨by (with_reducible repeat (first | refine blk_drewN ?_ _ | refine blk_drew ?_ | refine blk_alloc ?_ _)); exact BK137.out⟩, ⟨by repeat (first | (with_reducible first | exact HB.out | apply below_alloc | apply pw_below_drewN | apply below_drew1 | refine below_set ?_ GE137.out) | exact HB.out)⟩⟩
                              · rw [if_neg c55] at H
                                have c55b0 : ((x3_44.length : Int) == 0) = false := beq_eq_false_iff_ne.mpr c55
                                have c55b1 : ((x3_44.length : Int) != 0) = true := bne_iff_ne.mpr c55
                                have c55b2 : ¬ (x3_44 = []) := fun h_ => c55 (by rw [h_]; rfl)
                                (first | rw [c55b0] | rw [c55b1] | rw [c55b1] | rw [c55b2] | (simp only [i64_w, i32_w]; rw [c55b0]) | skip)
                                obtain ⟨ji56, hji56⟩ : ∃ j_ : Int, (wrap64 ((x3_44.length : Int) - 1)) = j_ := ⟨_, rfl⟩
                                replace H : (if 0 ≤ (ji56) then (if (ji56) < (x3_44.length : Int) then (if ((rd_T60 x3_44 (ji56)).f2).toList = ((rd_T60 l0 x9_1).f2).toList then (calepinref07_Right.j5 kj44 l0 x3_44 (x3_44.length : Int) l0 (l0.length : Int) x9_1 (((rd_T60 x3_44 (ji56)).f1) != ((rd_T60 l0 x9_1).f1))) else (calepinref07_Right.j5 kj44 l0 x3_44 (x3_44.length : Int) l0 (l0.length : Int) x9_1 true)) else (none)) else (none)) = some r := by first | (rw [hji56] at H; exact H) | (simp only [hji56] at H ⊢; exact H)
                                have hji56w : (IntKind.i64.wrap ((x3_44.length : Int) - 1)) = ji56 := (i64_w _).trans hji56
                                by_cases c57 : 0 ≤ (ji56)
                                · rw [if_pos c57] at H
                                  have c57b0 : decide (0 ≤ (ji56)) = true := decide_eq_true c57
                                  clear c57
                                  by_cases c58 : (ji56) < (x3_44.length : Int)
                                  · rw [if_pos c58] at H
                                    have c58b0 : decide ((ji56) < (x3_44.length : Int)) = true := decide_eq_true c58
                                    clear c58
                                    by_cases c59 : ((rd_T60 x3_44 (ji56)).f2).toList = ((rd_T60 l0 x9_1).f2).toList
                                    · rw [if_pos c59] at H
                                      have c59b0 : (((rd_T60 x3_44 (ji56)).f2).toList == ((rd_T60 l0 x9_1).f2).toList) = true := beq_iff_eq.mpr c59
                                      have c59b1 : (((rd_T60 x3_44 (ji56)).f2).toList != ((rd_T60 l0 x9_1).f2).toList) = false := bne_eq_false_iff_eq.mpr c59
                                      clear c59
                                      have H' := Aside0.mk H
                                      clear H
                                      have p145 : 0 ≤ ((ji56) : Int) := of_decide_eq_true (by first | (with_reducible assumption) | assumption)
                                      have q145 : (ji56) < (x3_44.length : Int) := of_decide_eq_true (by first | (with_reducible assumption) | assumption)
                                      obtain ⟨ad145, e145, hx145_0, hx145_1, hx145_2, hx145_3⟩ := at_T60 (Kd.R_reads' HO_3.out).2.2 (ji56) p145 q145
                                      cases e145
                                      replace p145 := eq_true p145
                                      replace q145 := eq_true q145
                                      have hcz60_0 : wc.cell? ⟨gb137, 0, none⟩ = some (.int .i64 ((rd_T60 l0 x9_1).f0)) := (blk_cell BK137.out 0).trans rfl
                                      have hcz60_1 : wc.cell? ⟨gb137, 1, none⟩ = some (.int .i64 ((rd_T60 l0 x9_1).f1)) := (blk_cell BK137.out 1).trans rfl
                                      have hcz60_2 : wc.cell? ⟨gb137, 2, none⟩ = some (.string ((rd_T60 l0 x9_1).f2)) := (blk_cell BK137.out 2).trans rfl
                                      have hcz60_3 : wc.cell? ⟨gb137, 3, none⟩ = some (.string ((rd_T60 l0 x9_1).f3)) := (blk_cell BK137.out 3).trans rfl
                                      have hfz60_0 := blk_frozen BK137.out 0
                                      have hfz60_1 := blk_frozen BK137.out 1
                                      have hfz60_2 := blk_frozen BK137.out 2
                                      have hfz60_3 := blk_frozen BK137.out 3
                                      have p146 : 0 ≤ ((ji56) : Int) := of_decide_eq_true (by first | (with_reducible assumption) | assumption)
                                      have q146 : (ji56) < (x3_44.length : Int) := of_decide_eq_true (by first | (with_reducible assumption) | assumption)
                                      obtain ⟨ad146, e146, hx146_0, hx146_1, hx146_2, hx146_3⟩ := at_T60 (Kd.R_reads' HO_3.out).2.2 (ji56) p146 q146
                                      obtain rfl : ad145 = ad146 := (by injection e146)
                                      replace p146 := eq_true p146
                                      replace q146 := eq_true q146
                                      go_wp2
                                      repeat (go_quiet (fail); try go_wp2)
                                      go_meet
                                      case rel => exact ⟨_, ((((rd_T60 x3_44 (ji56)).f1) != ((rd_T60 l0 x9_1).f1))), (by first | rfl | (simp; done) | (simp only [← hji56] <;> (first | rfl | simp)) | (simp [*]; done)), H', ⟨by have := HK1.out; have := HJ4.out; have := HJ10.out; have := HJ44.out; first | omega | exact Nat.le_refl _⟩, ⟨by (with_reducible repeat (first | apply Kd.R_alloc | apply Kd.R_drewN | apply Kd.R_drew)); exact HO_3.out⟩, ⟨by (with_reducible repeat (first | refine blk_drewN ?_ _ | refine blk_drew ?_ | refine blk_alloc ?_ _)); exact BK137.out⟩, ⟨by repeat (first | (with_reducible first | exact HB.out | apply below_alloc | apply pw_below_drewN | apply below_drew1 | refine below_set ?_ GE137.out) | exact HB.out)⟩⟩
                                    · rw [if_neg c59] at H
                                      have c59b0 : (((rd_T60 x3_44 (ji56)).f2).toList == ((rd_T60 l0 x9_1).f2).toList) = false := beq_eq_false_iff_ne.mpr c59
                                      have c59b1 : (((rd_T60 x3_44 (ji56)).f2).toList != ((rd_T60 l0 x9_1).f2).toList) = true := bne_iff_ne.mpr c59
                                      have H' := Aside0.mk H
                                      clear H
                                      have p145 : 0 ≤ ((ji56) : Int) := of_decide_eq_true (by first | (with_reducible assumption) | assumption)
                                      have q145 : (ji56) < (x3_44.length : Int) := of_decide_eq_true (by first | (with_reducible assumption) | assumption)
                                      obtain ⟨ad145, e145, hx145_0, hx145_1, hx145_2, hx145_3⟩ := at_T60 (Kd.R_reads' HO_3.out).2.2 (ji56) p145 q145
                                      cases e145
                                      replace p145 := eq_true p145
                                      replace q145 := eq_true q145
                                      have hcz61_0 : wc.cell? ⟨gb137, 0, none⟩ = some (.int .i64 ((rd_T60 l0 x9_1).f0)) := (blk_cell BK137.out 0).trans rfl
                                      have hcz61_1 : wc.cell? ⟨gb137, 1, none⟩ = some (.int .i64 ((rd_T60 l0 x9_1).f1)) := (blk_cell BK137.out 1).trans rfl
                                      have hcz61_2 : wc.cell? ⟨gb137, 2, none⟩ = some (.string ((rd_T60 l0 x9_1).f2)) := (blk_cell BK137.out 2).trans rfl
                                      have hcz61_3 : wc.cell? ⟨gb137, 3, none⟩ = some (.string ((rd_T60 l0 x9_1).f3)) := (blk_cell BK137.out 3).trans rfl
                                      have hfz61_0 := blk_frozen BK137.out 0
                                      have hfz61_1 := blk_frozen BK137.out 1
                                      have hfz61_2 := blk_frozen BK137.out 2
                                      have hfz61_3 := blk_frozen BK137.out 3
                                      go_wp2
                                      repeat (go_quiet (fail); try go_wp2)
                                      go_meet
                                      case rel => exact ⟨_, (true), (by first | rfl | (simp; done) | (simp [*]; done)), H', ⟨by have := HK1.out; have := HJ4.out; have := HJ10.out; have := HJ44.out; first | omega | exact Nat.le_refl _⟩, ⟨by (with_reducible repeat (first | apply Kd.R_alloc | apply Kd.R_drewN | apply Kd.R_drew)); exact HO_3.out⟩, ⟨by (with_reducible repeat (first | refine blk_drewN ?_ _ | refine blk_drew ?_ | refine blk_alloc ?_ _)); exact BK137.out⟩, ⟨by repeat (first | (with_reducible first | exact HB.out | apply below_alloc | apply pw_below_drewN | apply below_drew1 | refine below_set ?_ GE137.out) | exact HB.out)⟩⟩
                                  · rw [if_neg c58] at H
                                    exact absurd H (by simp)
                                · rw [if_neg c57] at H
                                  exact absurd H (by simp)
                            case rest =>
                              clear HC52
                              try clear c1
                              try clear p1
                              try clear q1
                              try clear hx1
                              try clear c2
                              try clear c2b0
                              try clear p2
                              try clear c3
                              try clear c3b0
                              try clear c4
                              try clear c4b0
                              try clear c5
                              try clear p6
                              try clear c8
                              try clear c8b0
                              try clear c10
                              try clear p13
                              try clear q13
                              try clear hx13
                              try clear c14
                              try clear c14b0
                              try clear c14b1
                              try clear p14
                              try clear q14
                              try clear hx14
                              try clear c15
                              try clear c16
                              try clear c16b0
                              try clear c16b1
                              try clear c18
                              try clear c18b0
                              try clear c20
                              try clear c20b0
                              try clear c23
                              try clear c23b0
                              try clear c23b1
                              try clear c24
                              try clear c24b0
                              try clear c24b1
                              try clear c28
                              try clear c28b0
                              try clear c28b1
                              try clear c29
                              try clear c29b0
                              try clear c29b1
                              try clear c31
                              try clear c31b0
                              try clear c32
                              try clear c32b0
                              try clear c33
                              try clear c33b0
                              try clear c33b1
                              try clear c34
                              try clear c34b0
                              try clear c34b1
                              try clear c36
                              try clear c36b0
                              try clear c36b1
                              try clear c38
                              try clear c40
                              try clear c47
                              try clear c47b0
                              try clear c47b1
                              try clear c48
                              try clear c51
                              try clear c51b0
                              try clear c51b1
                              try clear c55
                              try clear c55b0
                              try clear c55b1
                              try clear c55b2
                              try clear c57
                              try clear c57b0
                              try clear c58
                              try clear c58b0
                              try clear c59
                              try clear c59b0
                              try clear c59b1
                              try clear hcz12_0
                              try clear hcz12_1
                              try clear hcz12_2
                              try clear hcz12_3
                              try clear hcz17_0
                              try clear hcz17_1
                              try clear hcz17_2
                              try clear hcz17_3
                              try clear hcz19_0
                              try clear hcz19_1
                              try clear hcz19_2
                              try clear hcz19_3
                              try clear hcz21_0
                              try clear hcz21_1
                              try clear hcz21_2
                              try clear hcz21_3
                              try clear hcz25_0
                              try clear hcz25_1
                              try clear hcz25_2
                              try clear hcz25_3
                              try clear hcz26_0
                              try clear hcz26_1
                              try clear hcz26_2
                              try clear hcz26_3
                              try clear hcz27_0
                              try clear hcz27_1
                              try clear hcz27_2
                              try clear hcz27_3
                              try clear hcz35_0
                              try clear hcz35_1
                              try clear hcz35_2
                              try clear hcz35_3
                              try clear hcz41_0
                              try clear hcz41_1
                              try clear hcz41_2
                              try clear hcz41_3
                              try clear hcz42_0
                              try clear hcz42_1
                              try clear hcz42_2
                              try clear hcz42_3
                              try clear hcz43_0
                              try clear hcz43_1
                              try clear hcz43_2
                              try clear hcz43_3
                              try clear hcz44_0
                              try clear hcz44_1
                              try clear hcz44_2
                              try clear hcz44_3
                              try clear hcz46_0
                              try clear hcz46_1
                              try clear hcz46_2
                              try clear hcz46_3
                              try clear hcz49_0
                              try clear hcz49_1
                              try clear hcz49_2
                              try clear hcz49_3
                              try clear hcz53_0
                              try clear hcz53_1
                              try clear hcz53_2
                              try clear hcz53_3
                              try clear hcz60_0
                              try clear hcz60_1
                              try clear hcz60_2
                              try clear hcz60_3
                              try clear hcz61_0
                              try clear hcz61_1
                              try clear hcz61_2
                              try clear hcz61_3
                              try clear hcz7_0
                              try clear hcz7_1
                              try clear hcz7_2
                              try clear hcz7_3
                              try clear hfz12_0
                              try clear hfz12_1
                              try clear hfz12_2
                              try clear hfz12_3
                              try clear hfz17_0
                              try clear hfz17_1
                              try clear hfz17_2
                              try clear hfz17_3
                              try clear hfz19_0
                              try clear hfz19_1
                              try clear hfz19_2
                              try clear hfz19_3
                              try clear hfz21_0
                              try clear hfz21_1
                              try clear hfz21_2
                              try clear hfz21_3
                              try clear hfz25_0
                              try clear hfz25_1
                              try clear hfz25_2
                              try clear hfz25_3
                              try clear hfz26_0
                              try clear hfz26_1
                              try clear hfz26_2
                              try clear hfz26_3
                              try clear hfz27_0
                              try clear hfz27_1
                              try clear hfz27_2
                              try clear hfz27_3
                              try clear hfz35_0
                              try clear hfz35_1
                              try clear hfz35_2
                              try clear hfz35_3
                              try clear hfz41_0
                              try clear hfz41_1
                              try clear hfz41_2
                              try clear hfz41_3
                              try clear hfz42_0
                              try clear hfz42_1
                              try clear hfz42_2
                              try clear hfz42_3
                              try clear hfz43_0
                              try clear hfz43_1
                              try clear hfz43_2
                              try clear hfz43_3
                              try clear hfz44_0
                              try clear hfz44_1
                              try clear hfz44_2
                              try clear hfz44_3
                              try clear hfz46_0
                              try clear hfz46_1
                              try clear hfz46_2
                              try clear hfz46_3
                              try clear hfz49_0
                              try clear hfz49_1
                              try clear hfz49_2
                              try clear hfz49_3
                              try clear hfz53_0
                              try clear hfz53_1
                              try clear hfz53_2
                              try clear hfz53_3
                              try clear hfz60_0
                              try clear hfz60_1
                              try clear hfz60_2
                              try clear hfz60_3
                              try clear hfz61_0
                              try clear hfz61_1
                              try clear hfz61_2
                              try clear hfz61_3
                              try clear hfz7_0
                              try clear hfz7_1
                              try clear hfz7_2
                              try clear hfz7_3
                              try clear hx136_0
                              try clear hx136_1
                              try clear hx136_2
                              try clear hx136_3
                              try clear hx139_0
                              try clear hx139_1
                              try clear hx139_2
                              try clear hx139_3
                              try clear hx145_0
                              try clear hx145_1
                              try clear hx145_2
                              try clear hx145_3
                              try clear hx146_0
                              try clear hx146_1
                              try clear hx146_2
                              try clear hx146_3
                              try clear p1
                              try clear p13
                              try clear p136
                              try clear p139
                              try clear p145
                              try clear p146
                              try clear p2
                              try clear p6
                              try clear q1
                              try clear q13
                              try clear q136
                              try clear q139
                              try clear q145
                              try clear q146
                              obtain ⟨kq, x125_51, rfl, HA, HJ51, HO_3, BK137, HB⟩ := hcut
                              cases kq with
                              | zero => exact absurd HA.out (by simp [calepinref07_Right.j5])
                              | succ kj51 =>
                                have H := HA.out
                                clear HA
                                simp only [calepinref07_Right.j5] at H
                                by_cases c62 : x125_51 = true
                                · subst c62
                                  have H1 : (some false) = some r := by rw [if_pos rfl] at H; exact H
                                  clear H
                                  have H := H1
                                  clear H1
                                  obtain rfl := Option.some.inj H
                                  go_wp2
                                  repeat (go_quiet (fail); try go_wp2)
                                  go_ret
                                  exact ⟨by first | rfl | (simp [errW_none, errW_some] <;> rfl) | (simp [*, errW_none, errW_some] <;> rfl), by repeat (first | (with_reducible first | exact HB.out | apply below_alloc | apply pw_below_drewN | apply below_drew1 | refine below_set ?_ GE137.out) | exact HB.out)⟩
                                · replace c62 := Bool.eq_false_iff.mpr c62
                                  subst c62
                                  have H1 : (if 0 ≤ (wrap64 ((x3_44.length : Int) - 1)) then (if (wrap64 ((x3_44.length : Int) - 1)) ≤ (x3_44.length : Int) then ((some (x3_44.take ((wrap64 ((x3_44.length : Int) - 1)) : Int).toNat : List (S60))).bind fun y147 => (if (y147.length : Int) > 16 then (some false) else (calepinref07_Right.l0 kj51 l0 y147 l0 (l0.length : Int) (wrap64 (x9_1 + 1))))) else (none)) else (none)) = some r := by rw [if_neg (show ¬ (false = true) by decide)] at H; exact H
                                  clear H
                                  have H := H1
                                  clear H1
                                  obtain ⟨ji63, hji63⟩ : ∃ j_ : Int, (wrap64 ((x3_44.length : Int) - 1)) = j_ := ⟨_, rfl⟩
                                  replace H : (if 0 ≤ (ji63) then (if (ji63) ≤ (x3_44.length : Int) then ((some (x3_44.take ((ji63) : Int).toNat : List (S60))).bind fun y147 => (if (y147.length : Int) > 16 then (some false) else (calepinref07_Right.l0 kj51 l0 y147 l0 (l0.length : Int) (wrap64 (x9_1 + 1))))) else (none)) else (none)) = some r := by first | (rw [hji63] at H; exact H) | (simp only [hji63] at H ⊢; exact H)
                                  have hji63w : (IntKind.i64.wrap ((x3_44.length : Int) - 1)) = ji63 := (i64_w _).trans hji63
                                  by_cases c64 : 0 ≤ (ji63)
                                  · rw [if_pos c64] at H
                                    have c64b0 := eq_true c64
                                    have c64b1 : decide (0 ≤ (ji63)) = true := decide_eq_true c64
                                    clear c64
                                    by_cases c65 : (ji63) ≤ (x3_44.length : Int)
                                    · rw [if_pos c65] at H
                                      have c65b0 := eq_true c65
                                      have c65b1 : decide ((ji63) ≤ (x3_44.length : Int)) = true := decide_eq_true c65
                                      clear c65
                                      obtain ⟨y147, hy147⟩ : ∃ y_ : List (S60), y_ = (x3_44.take ((ji63) : Int).toNat) := ⟨_, rfl⟩
                                      replace H : (if (y147.length : Int) > 16 then (some false) else (calepinref07_Right.l0 kj51 l0 y147 l0 (l0.length : Int) (wrap64 (x9_1 + 1)))) = some r := by first | (rw [hy147]; with_reducible exact H) | (have H2_ := (Option.bind_some _ _).symm.trans H; rw [hy147]; with_reducible exact H2_) | (have H2_ := (Option.bind_some _ _).symm.trans H; with_reducible exact H2_) | with_reducible exact H | (rw [hy147]; exact H) | exact H
                                      have Ny147 := Aside0.mk hy147
                                      clear hy147
                                      by_cases c66 : (y147.length : Int) > 16
                                      · rw [if_pos c66] at H
                                        have c66b0 : decide (16 < (y147.length : Int)) = true := decide_eq_true c66
                                        have c66b1 : decide (16 < y147.length) = true := decide_eq_true (by omega)
                                        clear c66
                                        obtain rfl := Option.some.inj H
                                        have q67 : ((ji63) : Int) ≤ ((x3_44.length : Int) : Int) := of_decide_eq_true (by first | (with_reducible assumption) | assumption)
                                        obtain ⟨i067, hi067, _, hsz67, _⟩ := info_parts info60
                                        have hcut67 := cut_to (P := Tryz.prog) 48 60 .i64 Tryz.underlying48 hi067 Ao54 x3_44.length co54 (ji63) (of_decide_eq_true (by first | (with_reducible assumption) | assumption)) q67 (Kd.R_reads' HO_3.out).2.1
                                        have hr67 := Kd.R_take (m := ((ji63) : Int).toNat) HO_3.out (by omega)
                                        have hy67 : y147.length = ((ji63) : Int).toNat := (by rw [Ny147.out, List.length_take]; omega)
                                        rw [← Ny147.out] at hr67
                                        rw [← hy67] at hr67 hcut67
                                        clear hy67 hi067 hsz67 HO_3
                                        have HO149 := Aside0.mk hr67
                                        clear hr67
                                        replace q67 := eq_true q67
                                        go_wp2
                                        repeat (go_quiet (fail); try go_wp2)
                                        go_ret
                                        exact ⟨by first | rfl | (simp [errW_none, errW_some] <;> rfl) | (simp only [← hji63]; first | rfl | (simp [errW_none, errW_some] <;> rfl)) | (simp [*, errW_none, errW_some] <;> rfl), by repeat (first | (with_reducible first | exact HB.out | apply below_alloc | apply pw_below_drewN | apply below_drew1 | refine below_set ?_ GE137.out) | exact HB.out)⟩
                                      · rw [if_neg c66] at H
                                        have c66b0 : decide (16 < (y147.length : Int)) = false := decide_eq_false c66
                                        have c66b1 : decide (16 < y147.length) = false := decide_eq_false (by omega)
                                        clear c66
                                        have H' := Aside0.mk H
                                        clear H
                                        have q68 : ((ji63) : Int) ≤ ((x3_44.length : Int) : Int) := of_decide_eq_true (by first | (with_reducible assumption) | assumption)
                                        obtain ⟨i068, hi068, _, hsz68, _⟩ := info_parts info60
                                        have hcut68 := cut_to (P := Tryz.prog) 48 60 .i64 Tryz.underlying48 hi068 Ao54 x3_44.length co54 (ji63) (of_decide_eq_true (by first | (with_reducible assumption) | assumption)) q68 (Kd.R_reads' HO_3.out).2.1
                                        have hr68 := Kd.R_take (m := ((ji63) : Int).toNat) HO_3.out (by omega)
                                        have hy68 : y147.length = ((ji63) : Int).toNat := (by rw [Ny147.out, List.length_take]; omega)
                                        rw [← Ny147.out] at hr68
                                        rw [← hy68] at hr68 hcut68
                                        clear hy68 hi068 hsz68 HO_3
                                        have HO149 := Aside0.mk hr68
                                        clear hr68
                                        replace q68 := eq_true q68
                                        go_wp2
                                        repeat (go_quiet (fail); try go_wp2)
                                        go_roundg kj51
                                        case measure => have := HK1.out; have := HJ4.out; have := HJ10.out; have := HJ44.out; have := HJ51.out; omega
                                        case rel => exact ⟨(y147), (wrap64 (x9_1 + 1)), (by first | rfl | (simp; done) | (simp [*]; done)), H', ⟨by have := HK1.out; have := HJ4.out; have := HJ10.out; have := HJ44.out; have := HJ51.out; omega⟩, ⟨by (with_reducible repeat (first | apply Kd.R_alloc | apply Kd.R_drewN | apply Kd.R_drew)); exact Kd.R_mono HO149.out (fun _ hk => trivial)⟩, ⟨by repeat (first | (with_reducible first | exact HB.out | apply below_alloc | apply pw_below_drewN | apply below_drew1 | refine below_set ?_ GE137.out) | exact HB.out)⟩⟩
                                    · rw [if_neg c65] at H
                                      exact absurd H (by simp)
                                  · rw [if_neg c64] at H
                                    exact absurd H (by simp)
                          · rw [if_neg c51] at H
                            have c51b0 : (((rd_T60 l0 x9_1).f0) == 2) = false := beq_eq_false_iff_ne.mpr c51
                            have c51b1 : (((rd_T60 l0 x9_1).f0) != 2) = true := bne_iff_ne.mpr c51
                            by_cases c69 : (x3_44.length : Int) > 16
                            · rw [if_pos c69] at H
                              have c69b0 : decide (16 < (x3_44.length : Int)) = true := decide_eq_true c69
                              have c69b1 : decide (16 < x3_44.length) = true := decide_eq_true (by omega)
                              clear c69
                              obtain rfl := Option.some.inj H
                              have hcz70_0 : wc.cell? ⟨gb137, 0, none⟩ = some (.int .i64 ((rd_T60 l0 x9_1).f0)) := (blk_cell BK137.out 0).trans rfl
                              have hcz70_1 : wc.cell? ⟨gb137, 1, none⟩ = some (.int .i64 ((rd_T60 l0 x9_1).f1)) := (blk_cell BK137.out 1).trans rfl
                              have hcz70_2 : wc.cell? ⟨gb137, 2, none⟩ = some (.string ((rd_T60 l0 x9_1).f2)) := (blk_cell BK137.out 2).trans rfl
                              have hcz70_3 : wc.cell? ⟨gb137, 3, none⟩ = some (.string ((rd_T60 l0 x9_1).f3)) := (blk_cell BK137.out 3).trans rfl
                              have hfz70_0 := blk_frozen BK137.out 0
                              have hfz70_1 := blk_frozen BK137.out 1
                              have hfz70_2 := blk_frozen BK137.out 2
                              have hfz70_3 := blk_frozen BK137.out 3
                              obtain ⟨Ao71, co71, eo71⟩ := Kd.R_slice HO_3.out
                              subst eo71
                              go_wp2
                              repeat (go_quiet (fail); try go_wp2)
                              go_ret
                              exact ⟨by first | rfl | (simp [errW_none, errW_some] <;> rfl) | (simp [*, errW_none, errW_some] <;> rfl), by repeat (first | (with_reducible first | exact HB.out | apply below_alloc | apply pw_below_drewN | apply below_drew1 | refine below_set ?_ GE137.out) | exact HB.out)⟩
                            · rw [if_neg c69] at H
                              have c69b0 : decide (16 < (x3_44.length : Int)) = false := decide_eq_false c69
                              have c69b1 : decide (16 < x3_44.length) = false := decide_eq_false (by omega)
                              clear c69
                              have H' := Aside0.mk H
                              clear H
                              have hcz72_0 : wc.cell? ⟨gb137, 0, none⟩ = some (.int .i64 ((rd_T60 l0 x9_1).f0)) := (blk_cell BK137.out 0).trans rfl
                              have hcz72_1 : wc.cell? ⟨gb137, 1, none⟩ = some (.int .i64 ((rd_T60 l0 x9_1).f1)) := (blk_cell BK137.out 1).trans rfl
                              have hcz72_2 : wc.cell? ⟨gb137, 2, none⟩ = some (.string ((rd_T60 l0 x9_1).f2)) := (blk_cell BK137.out 2).trans rfl
                              have hcz72_3 : wc.cell? ⟨gb137, 3, none⟩ = some (.string ((rd_T60 l0 x9_1).f3)) := (blk_cell BK137.out 3).trans rfl
                              have hfz72_0 := blk_frozen BK137.out 0
                              have hfz72_1 := blk_frozen BK137.out 1
                              have hfz72_2 := blk_frozen BK137.out 2
                              have hfz72_3 := blk_frozen BK137.out 3
                              obtain ⟨Ao73, co73, eo73⟩ := Kd.R_slice HO_3.out
                              subst eo73
                              go_wp2
                              repeat (go_quiet (fail); try go_wp2)
                              go_roundg kj44
                              case measure => have := HK1.out; have := HJ4.out; have := HJ10.out; have := HJ44.out; omega
                              case rel => exact ⟨(x3_44), (wrap64 (x9_1 + 1)), (by first | rfl | (simp; done) | (simp [*]; done)), H', ⟨by have := HK1.out; have := HJ4.out; have := HJ10.out; have := HJ44.out; omega⟩, ⟨by (with_reducible repeat (first | apply Kd.R_alloc | apply Kd.R_drewN | apply Kd.R_drew)); exact Kd.R_mono HO_3.out (fun _ hk => trivial)⟩, ⟨by repeat (first | (with_reducible first | exact HB.out | apply below_alloc | apply pw_below_drewN | apply below_drew1 | refine below_set ?_ GE137.out) | exact HB.out)⟩⟩
          · rw [if_neg c4] at H
            exact absurd H (by simp)
        · rw [if_neg c3] at H
          exact absurd H (by simp)
      · rw [if_neg c2] at H
        have c2b0 : decide (x9_1 < (l0.length : Int)) = false := decide_eq_false c2
        clear c2
        by_cases c74 : (l0.length : Int) > 0
        · rw [if_pos c74] at H
          have c74b0 : decide (0 < (l0.length : Int)) = true := decide_eq_true c74
          have c74b1 : decide (0 < l0.length) = true := decide_eq_true (by omega)
          clear c74
          obtain rfl := Option.some.inj H
          obtain ⟨Ao75, co75, eo75⟩ := Kd.R_slice HO_3.out
          subst eo75
          go_wp2
          repeat (go_quiet (fail); try go_wp2)
          go_ret
          exact ⟨by first | rfl | (simp [errW_none, errW_some] <;> rfl) | (simp [*, errW_none, errW_some] <;> rfl), by repeat (first | (with_reducible first | exact HB.out | apply below_alloc | apply pw_below_drewN | apply below_drew1) | exact HB.out)⟩
        · rw [if_neg c74] at H
          have c74b0 : decide (0 < (l0.length : Int)) = false := decide_eq_false c74
          have c74b1 : decide (0 < l0.length) = false := decide_eq_false (by omega)
          clear c74
          obtain rfl := Option.some.inj H
          go_wp2
          repeat (go_quiet (fail); try go_wp2)
          go_ret
          exact ⟨by first | rfl | (simp [errW_none, errW_some] <;> rfl) | (simp [*, errW_none, errW_some] <;> rfl), by repeat (first | (with_reducible first | exact HB.out | apply below_alloc | apply pw_below_drewN | apply below_drew1) | exact HB.out)⟩

end Go.Proofs.YtpaopeiegaijiaaGreatDoor.XXmlRemarks
