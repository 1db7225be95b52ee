-- written by wip/xprint.py: the kit's print with functions walked by hand
import Derived.Test.YtipfekjmcddelaaGreatDoorXHttpWritesx0
namespace Go.Proofs.YtipfekjmcddelaaGreatDoor.XHttpWrites
open Go.RowKit Go.Proofs.YtipfekjmcddelaaGreatDoorW.zgo Go.Proofs.YtipfekjmcddelaaGreatDoorW.zgp Go.Proofs.YtipfekjmcddelaaGreatDoorW.zgq
attribute [local go_sem] zdk zdi zdx zdw zdc zdb zdj zdh   -- for this text's walks alone
set_option linter.unusedVariables false
set_option linter.unusedSimpArgs false
def strings_Split.f (s sep : ByteArray) : Option (List ByteArray) := if s.size < 4294967281 ∧ 1 ≤ sep.size then some (Lib.splitB sep 0 (Lib.countB s sep) s) else none
theorem strings_Split.calls (s sep : ByteArray) (r : List ByteArray) (w : World) (hT : LaidM w) (h : strings_Split.f s sep = some r) :
  Calls Tryz.prog 20 #[.string s, .string sep] w fun e w' => ∃ v0_ : Value, e = .returned (v0_) ∧ Kd.R Kd.string 9 w' w.heap.size (fun _ => True) v0_ r ∧ Below w.heap.size w w' := by
 unfold strings_Split.f at h
 split at h
 ·rename_i hc
  injection h with h
  subst h
  exact split_any s sep w hT hc.1 hc.2
 ·cases h
def zbm.l0 : Nat → ByteArray → Int → Int → Int → Int → Option (Bool)
 | 0, _, _, _, _, _ => none
 | k + 1, x0, x1, x2, x9, x10 => if x10 < x9 then (if 0 ≤ x10 then (if x10 < (x0.size : Int) then (if (bt x0 x10) < x1 then (some false) else (if (bt x0 x10) > x2 then (some false) else (zbm.l0 k x0 x1 x2 x9 (wrap64 (x10 + 1))))) else (none)) else (none)) else (some true)
def zbm.f (k : Nat) (a0 : ByteArray) (a1 : Int) (a2 : Int) : Option (Bool) := zbm.l0 k a0 a1 a2 (a0.size : Int) 0
theorem zbm.zdz : ∀ k, (∀ y0 y1 y2 y3 y4, LeO (zbm.l0 k y0 y1 y2 y3 y4) (zbm.l0 (k + 1) y0 y1 y2 y3 y4))
 | 0 => fun _ _ _ _ _ r h => by simp [zbm.l0] at h
 | k + 1 => by
  have ih0 := zbm.zdz k
  ·intro y0 y1 y2 y3 y4
   unfold zbm.l0
   repeat' first
   | (with_reducible exact ih0 _ _ _ _ _)
   | (with_reducible exact LeO.refl _)
   | (with_reducible exact LeO.none _)
   | (with_reducible refine LeO.ite ?_ ?_)
   | (with_reducible refine LeO.bind ?_ (fun _ => ?_))
   | exact ih0 _ _ _ _ _
   | exact LeO.none _
   | refine LeO.ite ?_ ?_
   | refine LeO.bind ?_ (fun _ => ?_)
theorem zbm.mono : ∀ a0 a1 a2 k, LeO (zbm.f k a0 a1 a2) (zbm.f (k + 1) a0 a1 a2) := by
 intro a0 a1 a2 k
 have ih0 := zbm.zdz k
 unfold zbm.f
 repeat' first
   | (with_reducible exact ih0 _ _ _ _ _)
   | (with_reducible exact LeO.refl _)
   | (with_reducible exact LeO.none _)
   | (with_reducible refine LeO.ite ?_ ?_)
   | (with_reducible refine LeO.bind ?_ (fun _ => ?_))
   | exact ih0 _ _ _ _ _
   | exact LeO.none _
   | refine LeO.ite ?_ ?_
   | refine LeO.bind ?_ (fun _ => ?_)
set_option maxHeartbeats 8000000 in
set_option maxRecDepth 100000 in
theorem zbm.calls (k : Nat) (a0 : ByteArray) (a1 : Int) (a2 : Int) (r : Bool) (w : World) (h : zbm.f k a0 a1 a2 = some r) :
  Calls Tryz.prog 27 #[.string a0, .int .u8 a1, .int .u8 a2] w fun e w' => e = .returned (.bool r) ∧ Drawn0 w w' := by
 have H : (zbm.l0 k a0 a1 a2 (a0.size : Int) 0) = some r := h
 clear h
 have H' := Aside0.mk H
 clear H
 go_enter Tryz.func27, Tryz.ntmps27
 go_wp2
 go_loopg [10] k (fun kq v10 w' => ∃ (x10_1 : Int), v10 = .int .i64 x10_1 ∧ Aside0 (zbm.l0 kq a0 a1 a2 (a0.size : Int) x10_1 = some r) ∧ Aside0 (kq ≤ k) ∧ Drawn0 w w')
 case atStart => exact ⟨(0), (by first | rfl | (simp; done) | (simp [*]; done)), H', ⟨Nat.le_refl _⟩, by repeat (first | exact Drawn0.refl _ | apply Drawn0.step)⟩
 case round =>
  clear H'
  try clear c2
  try clear p2
  obtain ⟨x10_1, rfl, HA, HK1, ⟨m1, rfl⟩⟩ := hrel
  cases gk with
  | zero => exact absurd HA.out (by simp [zbm.l0])
  | succ k1 =>
   have H := HA.out
   clear HA
   simp only [zbm.l0] at H
   by_cases c4 : x10_1 < (a0.size : Int)
   ·rw [if_pos c4] at H
    have c4b0 := decide_eq_true c4
    clear c4
    by_cases c5 : 0 ≤ x10_1
    ·rw [if_pos c5] at H
     have c5b0 := decide_eq_true c5
     clear c5
     by_cases c6 : x10_1 < (a0.size : Int)
     ·rw [if_pos c6] at H
      have c6b0 := decide_eq_true c6
      clear c6
      by_cases c8 : (bt a0 x10_1) < a1
      ·rw [if_pos c8] at H
       have c8b0 := decide_eq_true c8
       clear c8
       obtain rfl := Option.some.inj H
       have p7 : 0 ≤ (x10_1 : Int) := of_decide_eq_true (by first | (with_reducible assumption) | assumption)
       have q7 : x10_1 < (a0.size : Int) := of_decide_eq_true (by first | (with_reducible assumption) | assumption)
       have hx7 := zcp a0 x10_1
       replace p7 := eq_true p7
       replace q7 := eq_true q7
       go_wp2
       go_ret
       exact ⟨by first | rfl | (simp; done) | (simp [*]; done), by repeat (first | exact Drawn0.refl _ | apply Drawn0.step)⟩
      ·rw [if_neg c8] at H
       have c8b0 : decide ((bt a0 x10_1) < a1) = false := decide_eq_false c8
       clear c8
       by_cases c10 : (bt a0 x10_1) > a2
       ·rw [if_pos c10] at H
        have c10b0 := decide_eq_true c10
        clear c10
        obtain rfl := Option.some.inj H
        have p7 : 0 ≤ (x10_1 : Int) := of_decide_eq_true (by first | (with_reducible assumption) | assumption)
        have q7 : x10_1 < (a0.size : Int) := of_decide_eq_true (by first | (with_reducible assumption) | assumption)
        have hx7 := zcp a0 x10_1
        replace p7 := eq_true p7
        replace q7 := eq_true q7
        have p9 : 0 ≤ (x10_1 : Int) := of_decide_eq_true (by first | (with_reducible assumption) | assumption)
        have q9 : x10_1 < (a0.size : Int) := of_decide_eq_true (by first | (with_reducible assumption) | assumption)
        have hx9 := zcp a0 x10_1
        replace p9 := eq_true p9
        replace q9 := eq_true q9
        go_wp2
        go_ret
        exact ⟨by first | rfl | (simp; done) | (simp [*]; done), by repeat (first | exact Drawn0.refl _ | apply Drawn0.step)⟩
       ·rw [if_neg c10] at H
        have c10b0 : decide (a2 < (bt a0 x10_1)) = false := decide_eq_false c10
        clear c10
        have H' := Aside0.mk H
        clear H
        have p7 : 0 ≤ (x10_1 : Int) := of_decide_eq_true (by first | (with_reducible assumption) | assumption)
        have q7 : x10_1 < (a0.size : Int) := of_decide_eq_true (by first | (with_reducible assumption) | assumption)
        have hx7 := zcp a0 x10_1
        replace p7 := eq_true p7
        replace q7 := eq_true q7
        have p9 : 0 ≤ (x10_1 : Int) := of_decide_eq_true (by first | (with_reducible assumption) | assumption)
        have q9 : x10_1 < (a0.size : Int) := of_decide_eq_true (by first | (with_reducible assumption) | assumption)
        have hx9 := zcp a0 x10_1
        replace p9 := eq_true p9
        replace q9 := eq_true q9
        go_wp2
        go_roundg k1
        case measure => have := HK1.out; omega
        case rel => exact ⟨(wrap64 (x10_1 + 1)), (by first | rfl | (simp; done) | (simp [*]; done)), H', ⟨by have := HK1.out; omega⟩, by repeat (first | exact Drawn0.refl _ | apply Drawn0.step)⟩
     ·rw [if_neg c6] at H
      exact absurd H (by simp)
    ·rw [if_neg c5] at H
     exact absurd H (by simp)
   ·rw [if_neg c4] at H
    have c4b0 : decide (x10_1 < (a0.size : Int)) = false := decide_eq_false c4
    clear c4
    obtain rfl := Option.some.inj H
    go_wp2
    go_ret
    exact ⟨by first | rfl | (simp; done) | (simp [*]; done), by repeat (first | exact Drawn0.refl _ | apply Drawn0.step)⟩
def zck.f (k : Nat) (a0 : ByteArray) (a1 : ByteArray) : Option (Bool) := if a0.toList = ([] : List UInt8) then (some false) else (if (a0.size : Int) ≤ 16 then ((zbm.f k a0 65 90).bind fun t101 => (if t101 = true then (if a1.toList = ([] : List UInt8) then (some false) else (if (a1.size : Int) ≤ 256 then ((zbm.f k a1 33 126).bind fun t102 => (some t102)) else (some false))) else (some false))) else (some false))
theorem zck.mono : ∀ a0 a1 k, LeO (zck.f k a0 a1) (zck.f (k + 1) a0 a1) := by
 intro a0 a1 k
 unfold zck.f
 repeat' first
   | (with_reducible exact zbm.mono _ _ _ _)
   | (with_reducible exact LeO.refl _)
   | (with_reducible exact LeO.none _)
   | (with_reducible refine LeO.ite ?_ ?_)
   | (with_reducible refine LeO.bind ?_ (fun _ => ?_))
   | exact zbm.mono _ _ _ _
   | exact LeO.none _
   | refine LeO.ite ?_ ?_
   | refine LeO.bind ?_ (fun _ => ?_)
set_option maxHeartbeats 8000000 in
set_option maxRecDepth 100000 in
theorem zck.calls (k : Nat) (a0 : ByteArray) (a1 : ByteArray) (r : Bool) (w : World) (h : zck.f k a0 a1 = some r) :
  Calls Tryz.prog 21 #[.string a0, .string a1] w fun e w' => e = .returned (.bool r) ∧ Drawn0 w w' := by
 have H : (if a0.toList = ([] : List UInt8) then (some false) else (if (a0.size : Int) ≤ 16 then ((zbm.f k a0 65 90).bind fun t101 => (if t101 = true then (if a1.toList = ([] : List UInt8) then (some false) else (if (a1.size : Int) ≤ 256 then ((zbm.f k a1 33 126).bind fun t102 => (some t102)) else (some false))) else (some false))) else (some false))) = some r := h
 clear h
 by_cases c3 : a0.toList = ([] : List UInt8)
 ·rw [if_pos c3] at H
  have c3b0 : (a0.toList == ([] : List UInt8)) = true := beq_iff_eq.mpr c3
  have c3b7 : a0.toList.isEmpty = true := List.isEmpty_iff.2 c3
  have c3b1 : (a0.toList != ([] : List UInt8)) = false := bne_eq_false_iff_eq.mpr c3
  clear c3
  obtain rfl := Option.some.inj H
  go_enter Tryz.func21, Tryz.ntmps21
  go_wp2
  go_ret
  exact ⟨by first | rfl | (simp; done) | (simp [*]; done), by repeat (first | exact Drawn0.refl _ | apply Drawn0.step)⟩
 ·rw [if_neg c3] at H
  have c3b0 : (a0.toList == ([] : List UInt8)) = false := beq_eq_false_iff_ne.mpr c3
  have c3b7 : a0.toList.isEmpty = false := Bool.eq_false_iff.2 fun h_ => c3 (List.isEmpty_iff.1 h_)
  have c3b1 : (a0.toList != ([] : List UInt8)) = true := bne_iff_ne.mpr c3
  by_cases c4 : (a0.size : Int) ≤ 16
  ·rw [if_pos c4] at H
   have c4b0 := decide_eq_true c4
   have c4b1 : decide (a0.size ≤ 16) = true := decide_eq_true (by omega)
   clear c4
   replace H := Option.bind_eq_some_iff.mp H
   obtain ⟨t101, A50, H⟩ := H
   replace H : (if t101 = true then (if a1.toList = ([] : List UInt8) then (some false) else (if (a1.size : Int) ≤ 256 then ((zbm.f k a1 33 126).bind fun t102 => (some t102)) else (some false))) else (some false)) = some r := H
   have A5 := Aside0.mk A50
   clear A50
   by_cases c6 : t101 = true
   ·subst c6
    have H1 : (if a1.toList = ([] : List UInt8) then (some false) else (if (a1.size : Int) ≤ 256 then ((zbm.f k a1 33 126).bind fun t102 => (some t102)) else (some false))) = some r := by rw [if_pos rfl] at H; exact H
    clear H
    have H := H1
    clear H1
    by_cases c7 : a1.toList = ([] : List UInt8)
    ·rw [if_pos c7] at H
     have c7b0 : (a1.toList == ([] : List UInt8)) = true := beq_iff_eq.mpr c7
     have c7b7 : a1.toList.isEmpty = true := List.isEmpty_iff.2 c7
     have c7b1 : (a1.toList != ([] : List UInt8)) = false := bne_eq_false_iff_eq.mpr c7
     clear c7
     obtain rfl := Option.some.inj H
     go_enter Tryz.func21, Tryz.ntmps21
     go_wp2_with (first | (go_at_call 27; (with_reducible refine (zbm.calls k a0 65 90 true _ A5.out).mono ?_); rintro e w' ⟨rfl, ⟨nd, rfl⟩⟩))
     go_ret
     exact ⟨by first | rfl | (simp; done) | (simp [*]; done), by repeat (first | exact Drawn0.refl _ | apply Drawn0.step)⟩
    ·rw [if_neg c7] at H
     have c7b0 : (a1.toList == ([] : List UInt8)) = false := beq_eq_false_iff_ne.mpr c7
     have c7b7 : a1.toList.isEmpty = false := Bool.eq_false_iff.2 fun h_ => c7 (List.isEmpty_iff.1 h_)
     have c7b1 : (a1.toList != ([] : List UInt8)) = true := bne_iff_ne.mpr c7
     by_cases c8 : (a1.size : Int) ≤ 256
     ·rw [if_pos c8] at H
      have c8b0 := decide_eq_true c8
      have c8b1 : decide (a1.size ≤ 256) = true := decide_eq_true (by omega)
      clear c8
      replace H := Option.bind_eq_some_iff.mp H
      obtain ⟨t102, A90, H⟩ := H
      replace H : (some t102) = some r := H
      have A9 := Aside0.mk A90
      clear A90
      obtain rfl := Option.some.inj H
      go_enter Tryz.func21, Tryz.ntmps21
      go_wp2_with (first | (go_at_call 27; (with_reducible refine (zbm.calls k a0 65 90 true _ A5.out).mono ?_); rintro e w' ⟨rfl, ⟨nd, rfl⟩⟩) | (go_at_call 27; (with_reducible refine (zbm.calls k a1 33 126 t102 _ A9.out).mono ?_); rintro e w' ⟨rfl, ⟨nd, rfl⟩⟩))
      go_ret
      exact ⟨by first | rfl | (simp; done) | (simp [*]; done), by repeat (first | exact Drawn0.refl _ | apply Drawn0.step)⟩
     ·rw [if_neg c8] at H
      have c8b0 : decide ((a1.size : Int) ≤ 256) = false := decide_eq_false c8
      have c8b1 : decide (a1.size ≤ 256) = false := decide_eq_false (by omega)
      clear c8
      obtain rfl := Option.some.inj H
      go_enter Tryz.func21, Tryz.ntmps21
      go_wp2_with (first | (go_at_call 27; (with_reducible refine (zbm.calls k a0 65 90 true _ A5.out).mono ?_); rintro e w' ⟨rfl, ⟨nd, rfl⟩⟩))
      go_ret
      exact ⟨by first | rfl | (simp; done) | (simp [*]; done), by repeat (first | exact Drawn0.refl _ | apply Drawn0.step)⟩
   ·replace c6 := Bool.eq_false_iff.mpr c6
    subst c6
    have H1 : (some false) = some r := by rw [if_neg (show ¬ (false = true) by decide)] at H; exact H
    clear H
    have H := H1
    clear H1
    obtain rfl := Option.some.inj H
    go_enter Tryz.func21, Tryz.ntmps21
    go_wp2_with (first | (go_at_call 27; (with_reducible refine (zbm.calls k a0 65 90 false _ A5.out).mono ?_); rintro e w' ⟨rfl, ⟨nd, rfl⟩⟩))
    go_ret
    exact ⟨by first | rfl | (simp; done) | (simp [*]; done), by repeat (first | exact Drawn0.refl _ | apply Drawn0.step)⟩
  ·rw [if_neg c4] at H
   have c4b0 : decide ((a0.size : Int) ≤ 16) = false := decide_eq_false c4
   have c4b1 : decide (a0.size ≤ 16) = false := decide_eq_false (by omega)
   clear c4
   obtain rfl := Option.some.inj H
   go_enter Tryz.func21, Tryz.ntmps21
   go_wp2
   go_ret
   exact ⟨by first | rfl | (simp; done) | (simp [*]; done), by repeat (first | exact Drawn0.refl _ | apply Drawn0.step)⟩
def zbn.f (k : Nat) (a0 : ByteArray) : Option (Bool) := (strings_Split.f a0 (⟨#[32]⟩ : ByteArray)).bind fun t103 => (if (t103.length : Int) = 3 then (if 0 < (t103.length : Int) then (if 1 < (t103.length : Int) then ((zck.f k (rdOf ByteArray.empty t103 0) (rdOf ByteArray.empty t103 1)).bind fun t108 => (if t108 = true then (if 2 < (t103.length : Int) then (some ((rdOf ByteArray.empty t103 2).toList == ([72, 84, 84, 80, 47, 49, 46, 49] : List UInt8))) else (none)) else (some false))) else (none)) else (none)) else (some false))
theorem zbn.mono : ∀ a0 k, LeO (zbn.f k a0) (zbn.f (k + 1) a0) := by
 intro a0 k
 unfold zbn.f
 repeat' first
   | (with_reducible exact zck.mono _ _ _)
   | (with_reducible exact LeO.refl _)
   | (with_reducible exact LeO.none _)
   | (with_reducible refine LeO.ite ?_ ?_)
   | (with_reducible refine LeO.bind ?_ (fun _ => ?_))
   | exact zck.mono _ _ _
   | exact LeO.none _
   | refine LeO.ite ?_ ?_
   | refine LeO.bind ?_ (fun _ => ?_)
set_option maxHeartbeats 8000000 in
set_option maxRecDepth 100000 in
theorem zbn.calls (k : Nat) (a0 : ByteArray) (r : Bool) (w : World) (hT : LaidM w) (h : zbn.f k a0 = some r) :
  Calls Tryz.prog 19 #[.string a0] w fun e w' => e = .returned (.bool r) ∧ Below w.heap.size w w' := by
 have HB := Aside0.mk (Below.refl w.heap.size w)
 have HT := Aside0.mk hT
 clear hT
 have H : ((strings_Split.f a0 (⟨#[32]⟩ : ByteArray)).bind fun t103 => (if (t103.length : Int) = 3 then (if 0 < (t103.length : Int) then (if 1 < (t103.length : Int) then ((zck.f k (rdOf ByteArray.empty t103 0) (rdOf ByteArray.empty t103 1)).bind fun t108 => (if t108 = true then (if 2 < (t103.length : Int) then (some ((rdOf ByteArray.empty t103 2).toList == ([72, 84, 84, 80, 47, 49, 46, 49] : List UInt8))) else (none)) else (some false))) else (none)) else (none)) else (some false))) = some r := h
 clear h
 replace H := Option.bind_eq_some_iff.mp H
 obtain ⟨t103, A20, H⟩ := H
 try dsimp only at H
 have A2 := Aside0.mk A20
 clear A20
 by_cases c3 : (t103.length : Int) = 3
 ·rw [if_pos c3] at H
  have c3b0 : ((t103.length : Int) == 3) = true := beq_iff_eq.mpr c3
  have c3b1 : ((t103.length : Int) != 3) = false := bne_eq_false_iff_eq.mpr c3
  clear c3
  by_cases c4 : 0 < (t103.length : Int)
  ·rw [if_pos c4] at H
   have c4b0 := decide_eq_true c4
   have c4b1 : decide (0 < t103.length) = true := decide_eq_true (by omega)
   clear c4
   by_cases c5 : 1 < (t103.length : Int)
   ·rw [if_pos c5] at H
    have c5b0 := decide_eq_true c5
    have c5b1 : decide (1 < t103.length) = true := decide_eq_true (by omega)
    clear c5
    replace H := Option.bind_eq_some_iff.mp H
    obtain ⟨t108, A60, H⟩ := H
    replace H : (if t108 = true then (if 2 < (t103.length : Int) then (some ((rdOf ByteArray.empty t103 2).toList == ([72, 84, 84, 80, 47, 49, 46, 49] : List UInt8))) else (none)) else (some false)) = some r := H
    have A6 := Aside0.mk A60
    clear A60
    by_cases c7 : t108 = true
    ·subst c7
     have H1 : (if 2 < (t103.length : Int) then (some ((rdOf ByteArray.empty t103 2).toList == ([72, 84, 84, 80, 47, 49, 46, 49] : List UInt8))) else (none)) = some r := by rw [if_pos rfl] at H; exact H
     clear H
     have H := H1
     clear H1
     by_cases c8 : 2 < (t103.length : Int)
     ·rw [if_pos c8] at H
      have c8b0 := decide_eq_true c8
      have c8b1 : decide (2 < t103.length) = true := decide_eq_true (by omega)
      clear c8
      obtain rfl := Option.some.inj H
      go_enter Tryz.func19, Tryz.ntmps19
      go_wp2_with (first | (go_at_call 20; (with_reducible refine (strings_Split.calls a0 (⟨#[32]⟩ : ByteArray) t103 _ ?side1 A2.out).mono ?_); (case side1 => exact LaidM.below HT.out (by repeat (first | (with_reducible first | exact HB.out | apply zac | apply zaa | apply zab) | exact HB.out))); rintro e w9 ⟨v104, rfl, ho0, hb⟩; have n0_ := Aside0.mk (Kd.zby ho0 (zan (by repeat (first | (with_reducible first | exact HB.out | apply zac | apply zaa | apply zab) | exact HB.out)))); have n1_ := Aside0.mk (zam (by repeat (first | (with_reducible first | exact HB.out | apply zac | apply zaa | apply zab) | exact HB.out)) hb); clear HB; have HO105 := n0_; have HB := n1_; clear n0_ n1_; (try clear hb); (try clear hb2); (try clear hk); (try clear hi); (try clear ho0); obtain ⟨Ao10, co10, eo10⟩ := Kd.zca HO105.out; subst eo10; have p106 : 0 ≤ (0 : Int) := (by omega); have q106 : 0 < (t103.length : Int) := of_decide_eq_true (by first | (with_reducible assumption) | assumption); obtain ⟨ad106, e106, hx106_0⟩ := Kd.zbw (Kd.zbu HO105.out).2.2 0 p106 q106; cases e106; have qi106 : (0 < t103.length) = True := eq_true (by omega); (try rw [show ((0 : Int)).toNat = 0 from rfl] at hx106_0); (try rw [Addr.add_zero'] at hx106_0); replace p106 := eq_true p106; replace q106 := eq_true q106; have p107 : 0 ≤ (1 : Int) := (by omega); have q107 : 1 < (t103.length : Int) := of_decide_eq_true (by first | (with_reducible assumption) | assumption); obtain ⟨ad107, e107, hx107_0⟩ := Kd.zbw (Kd.zbu HO105.out).2.2 1 p107 q107; obtain rfl : ad106 = ad107 := (by injection e107); (try simp only [show (1 : Int).toNat = 1 from rfl, Nat.reduceMul, Nat.reduceEqDiff, Go.Addr.add, ↓reduceIte] at hx107_0); have qi107 : (1 < t103.length) = True := eq_true (by omega); (try rw [show ((1 : Int)).toNat = 1 from rfl] at hx107_0); replace p107 := eq_true p107; replace q107 := eq_true q107) | (go_at_call 21; (with_reducible refine (zck.calls k (rdOf ByteArray.empty t103 0) (rdOf ByteArray.empty t103 1) true _ A6.out).mono ?_); rintro e w' ⟨rfl, ⟨nd, rfl⟩⟩; (try first | exact ⟨rfl, _, World.drewN_drewN _ _ _⟩ | exact ⟨rfl, _, Eq.trans (World.drewN_drewN _ _ _) (congrArg (World.drewN _) (Nat.add_assoc _ _ _))⟩); have p109 : 0 ≤ (2 : Int) := (by omega); have q109 : 2 < (t103.length : Int) := of_decide_eq_true (by first | (with_reducible assumption) | assumption); obtain ⟨ad109, e109, hx109_0⟩ := Kd.zbw (Kd.zbu HO105.out).2.2 2 p109 q109; obtain rfl : ad106 = ad109 := (by injection e109); (try simp only [show (2 : Int).toNat = 2 from rfl, Nat.reduceMul, Nat.reduceEqDiff, Go.Addr.add, ↓reduceIte] at hx109_0); have qi109 : (2 < t103.length) = True := eq_true (by omega); (try rw [show ((2 : Int)).toNat = 2 from rfl] at hx109_0); replace p109 := eq_true p109; replace q109 := eq_true q109))
      repeat (go_quiet (first | (go_at_call 20; (with_reducible refine (strings_Split.calls a0 (⟨#[32]⟩ : ByteArray) t103 _ ?side1 A2.out).mono ?_); (case side1 => exact LaidM.below HT.out (by repeat (first | (with_reducible first | exact HB.out | apply zac | apply zaa | apply zab) | exact HB.out))); rintro e w9 ⟨v104, rfl, ho0, hb⟩; have n0_ := Aside0.mk (Kd.zby ho0 (zan (by repeat (first | (with_reducible first | exact HB.out | apply zac | apply zaa | apply zab) | exact HB.out)))); have n1_ := Aside0.mk (zam (by repeat (first | (with_reducible first | exact HB.out | apply zac | apply zaa | apply zab) | exact HB.out)) hb); clear HB; have HO105 := n0_; have HB := n1_; clear n0_ n1_; (try clear hb); (try clear hb2); (try clear hk); (try clear hi); (try clear ho0); obtain ⟨Ao10, co10, eo10⟩ := Kd.zca HO105.out; subst eo10; have p106 : 0 ≤ (0 : Int) := (by omega); have q106 : 0 < (t103.length : Int) := of_decide_eq_true (by first | (with_reducible assumption) | assumption); obtain ⟨ad106, e106, hx106_0⟩ := Kd.zbw (Kd.zbu HO105.out).2.2 0 p106 q106; cases e106; have qi106 : (0 < t103.length) = True := eq_true (by omega); (try rw [show ((0 : Int)).toNat = 0 from rfl] at hx106_0); (try rw [Addr.add_zero'] at hx106_0); replace p106 := eq_true p106; replace q106 := eq_true q106; have p107 : 0 ≤ (1 : Int) := (by omega); have q107 : 1 < (t103.length : Int) := of_decide_eq_true (by first | (with_reducible assumption) | assumption); obtain ⟨ad107, e107, hx107_0⟩ := Kd.zbw (Kd.zbu HO105.out).2.2 1 p107 q107; obtain rfl : ad106 = ad107 := (by injection e107); (try simp only [show (1 : Int).toNat = 1 from rfl, Nat.reduceMul, Nat.reduceEqDiff, Go.Addr.add, ↓reduceIte] at hx107_0); have qi107 : (1 < t103.length) = True := eq_true (by omega); (try rw [show ((1 : Int)).toNat = 1 from rfl] at hx107_0); replace p107 := eq_true p107; replace q107 := eq_true q107) | (go_at_call 21; (with_reducible refine (zck.calls k (rdOf ByteArray.empty t103 0) (rdOf ByteArray.empty t103 1) true _ A6.out).mono ?_); rintro e w' ⟨rfl, ⟨nd, rfl⟩⟩; (try first | exact ⟨rfl, _, World.drewN_drewN _ _ _⟩ | exact ⟨rfl, _, Eq.trans (World.drewN_drewN _ _ _) (congrArg (World.drewN _) (Nat.add_assoc _ _ _))⟩); have p109 : 0 ≤ (2 : Int) := (by omega); have q109 : 2 < (t103.length : Int) := of_decide_eq_true (by first | (with_reducible assumption) | assumption); obtain ⟨ad109, e109, hx109_0⟩ := Kd.zbw (Kd.zbu HO105.out).2.2 2 p109 q109; obtain rfl : ad106 = ad109 := (by injection e109); (try simp only [show (2 : Int).toNat = 2 from rfl, Nat.reduceMul, Nat.reduceEqDiff, Go.Addr.add, ↓reduceIte] at hx109_0); have qi109 : (2 < t103.length) = True := eq_true (by omega); (try rw [show ((2 : Int)).toNat = 2 from rfl] at hx109_0); replace p109 := eq_true p109; replace q109 := eq_true q109)); try go_wp2_with (first | (go_at_call 20; (with_reducible refine (strings_Split.calls a0 (⟨#[32]⟩ : ByteArray) t103 _ ?side1 A2.out).mono ?_); (case side1 => exact LaidM.below HT.out (by repeat (first | (with_reducible first | exact HB.out | apply zac | apply zaa | apply zab) | exact HB.out))); rintro e w9 ⟨v104, rfl, ho0, hb⟩; have n0_ := Aside0.mk (Kd.zby ho0 (zan (by repeat (first | (with_reducible first | exact HB.out | apply zac | apply zaa | apply zab) | exact HB.out)))); have n1_ := Aside0.mk (zam (by repeat (first | (with_reducible first | exact HB.out | apply zac | apply zaa | apply zab) | exact HB.out)) hb); clear HB; have HO105 := n0_; have HB := n1_; clear n0_ n1_; (try clear hb); (try clear hb2); (try clear hk); (try clear hi); (try clear ho0); obtain ⟨Ao10, co10, eo10⟩ := Kd.zca HO105.out; subst eo10; have p106 : 0 ≤ (0 : Int) := (by omega); have q106 : 0 < (t103.length : Int) := of_decide_eq_true (by first | (with_reducible assumption) | assumption); obtain ⟨ad106, e106, hx106_0⟩ := Kd.zbw (Kd.zbu HO105.out).2.2 0 p106 q106; cases e106; have qi106 : (0 < t103.length) = True := eq_true (by omega); (try rw [show ((0 : Int)).toNat = 0 from rfl] at hx106_0); (try rw [Addr.add_zero'] at hx106_0); replace p106 := eq_true p106; replace q106 := eq_true q106; have p107 : 0 ≤ (1 : Int) := (by omega); have q107 : 1 < (t103.length : Int) := of_decide_eq_true (by first | (with_reducible assumption) | assumption); obtain ⟨ad107, e107, hx107_0⟩ := Kd.zbw (Kd.zbu HO105.out).2.2 1 p107 q107; obtain rfl : ad106 = ad107 := (by injection e107); (try simp only [show (1 : Int).toNat = 1 from rfl, Nat.reduceMul, Nat.reduceEqDiff, Go.Addr.add, ↓reduceIte] at hx107_0); have qi107 : (1 < t103.length) = True := eq_true (by omega); (try rw [show ((1 : Int)).toNat = 1 from rfl] at hx107_0); replace p107 := eq_true p107; replace q107 := eq_true q107) | (go_at_call 21; (with_reducible refine (zck.calls k (rdOf ByteArray.empty t103 0) (rdOf ByteArray.empty t103 1) true _ A6.out).mono ?_); rintro e w' ⟨rfl, ⟨nd, rfl⟩⟩; (try first | exact ⟨rfl, _, World.drewN_drewN _ _ _⟩ | exact ⟨rfl, _, Eq.trans (World.drewN_drewN _ _ _) (congrArg (World.drewN _) (Nat.add_assoc _ _ _))⟩); have p109 : 0 ≤ (2 : Int) := (by omega); have q109 : 2 < (t103.length : Int) := of_decide_eq_true (by first | (with_reducible assumption) | assumption); obtain ⟨ad109, e109, hx109_0⟩ := Kd.zbw (Kd.zbu HO105.out).2.2 2 p109 q109; obtain rfl : ad106 = ad109 := (by injection e109); (try simp only [show (2 : Int).toNat = 2 from rfl, Nat.reduceMul, Nat.reduceEqDiff, Go.Addr.add, ↓reduceIte] at hx109_0); have qi109 : (2 < t103.length) = True := eq_true (by omega); (try rw [show ((2 : Int)).toNat = 2 from rfl] at hx109_0); replace p109 := eq_true p109; replace q109 := eq_true q109)))
      go_ret
      exact ⟨by first | rfl | (simp [zaq, zap] <;> rfl) | (simp [*, zaq, zap] <;> rfl), by repeat (first | (with_reducible first | exact HB.out | apply zac | apply zaa | apply zab) | exact HB.out)⟩
     ·rw [if_neg c8] at H
      exact absurd H (by simp)
    ·replace c7 := Bool.eq_false_iff.mpr c7
     subst c7
     have H1 : (some false) = some r := by rw [if_neg (show ¬ (false = true) by decide)] at H; exact H
     clear H
     have H := H1
     clear H1
     obtain rfl := Option.some.inj H
     go_enter Tryz.func19, Tryz.ntmps19
     go_wp2_with (first | (go_at_call 20; (with_reducible refine (strings_Split.calls a0 (⟨#[32]⟩ : ByteArray) t103 _ ?side1 A2.out).mono ?_); (case side1 => exact LaidM.below HT.out (by repeat (first | (with_reducible first | exact HB.out | apply zac | apply zaa | apply zab) | exact HB.out))); rintro e w11 ⟨v104, rfl, ho0, hb⟩; have n0_ := Aside0.mk (Kd.zby ho0 (zan (by repeat (first | (with_reducible first | exact HB.out | apply zac | apply zaa | apply zab) | exact HB.out)))); have n1_ := Aside0.mk (zam (by repeat (first | (with_reducible first | exact HB.out | apply zac | apply zaa | apply zab) | exact HB.out)) hb); clear HB; have HO105 := n0_; have HB := n1_; clear n0_ n1_; (try clear hb); (try clear hb2); (try clear hk); (try clear hi); (try clear ho0); obtain ⟨Ao12, co12, eo12⟩ := Kd.zca HO105.out; subst eo12; have p106 : 0 ≤ (0 : Int) := (by omega); have q106 : 0 < (t103.length : Int) := of_decide_eq_true (by first | (with_reducible assumption) | assumption); obtain ⟨ad106, e106, hx106_0⟩ := Kd.zbw (Kd.zbu HO105.out).2.2 0 p106 q106; cases e106; have qi106 : (0 < t103.length) = True := eq_true (by omega); (try rw [show ((0 : Int)).toNat = 0 from rfl] at hx106_0); (try rw [Addr.add_zero'] at hx106_0); replace p106 := eq_true p106; replace q106 := eq_true q106; have p107 : 0 ≤ (1 : Int) := (by omega); have q107 : 1 < (t103.length : Int) := of_decide_eq_true (by first | (with_reducible assumption) | assumption); obtain ⟨ad107, e107, hx107_0⟩ := Kd.zbw (Kd.zbu HO105.out).2.2 1 p107 q107; obtain rfl : ad106 = ad107 := (by injection e107); (try simp only [show (1 : Int).toNat = 1 from rfl, Nat.reduceMul, Nat.reduceEqDiff, Go.Addr.add, ↓reduceIte] at hx107_0); have qi107 : (1 < t103.length) = True := eq_true (by omega); (try rw [show ((1 : Int)).toNat = 1 from rfl] at hx107_0); replace p107 := eq_true p107; replace q107 := eq_true q107) | (go_at_call 21; (with_reducible refine (zck.calls k (rdOf ByteArray.empty t103 0) (rdOf ByteArray.empty t103 1) false _ A6.out).mono ?_); rintro e w' ⟨rfl, ⟨nd, rfl⟩⟩; (try first | exact ⟨rfl, _, World.drewN_drewN _ _ _⟩ | exact ⟨rfl, _, Eq.trans (World.drewN_drewN _ _ _) (congrArg (World.drewN _) (Nat.add_assoc _ _ _))⟩)))
     repeat (go_quiet (first | (go_at_call 20; (with_reducible refine (strings_Split.calls a0 (⟨#[32]⟩ : ByteArray) t103 _ ?side1 A2.out).mono ?_); (case side1 => exact LaidM.below HT.out (by repeat (first | (with_reducible first | exact HB.out | apply zac | apply zaa | apply zab) | exact HB.out))); rintro e w11 ⟨v104, rfl, ho0, hb⟩; have n0_ := Aside0.mk (Kd.zby ho0 (zan (by repeat (first | (with_reducible first | exact HB.out | apply zac | apply zaa | apply zab) | exact HB.out)))); have n1_ := Aside0.mk (zam (by repeat (first | (with_reducible first | exact HB.out | apply zac | apply zaa | apply zab) | exact HB.out)) hb); clear HB; have HO105 := n0_; have HB := n1_; clear n0_ n1_; (try clear hb); (try clear hb2); (try clear hk); (try clear hi); (try clear ho0); obtain ⟨Ao12, co12, eo12⟩ := Kd.zca HO105.out; subst eo12; have p106 : 0 ≤ (0 : Int) := (by omega); have q106 : 0 < (t103.length : Int) := of_decide_eq_true (by first | (with_reducible assumption) | assumption); obtain ⟨ad106, e106, hx106_0⟩ := Kd.zbw (Kd.zbu HO105.out).2.2 0 p106 q106; cases e106; have qi106 : (0 < t103.length) = True := eq_true (by omega); (try rw [show ((0 : Int)).toNat = 0 from rfl] at hx106_0); (try rw [Addr.add_zero'] at hx106_0); replace p106 := eq_true p106; replace q106 := eq_true q106; have p107 : 0 ≤ (1 : Int) := (by omega); have q107 : 1 < (t103.length : Int) := of_decide_eq_true (by first | (with_reducible assumption) | assumption); obtain ⟨ad107, e107, hx107_0⟩ := Kd.zbw (Kd.zbu HO105.out).2.2 1 p107 q107; obtain rfl : ad106 = ad107 := (by injection e107); (try simp only [show (1 : Int).toNat = 1 from rfl, Nat.reduceMul, Nat.reduceEqDiff, Go.Addr.add, ↓reduceIte] at hx107_0); have qi107 : (1 < t103.length) = True := eq_true (by omega); (try rw [show ((1 : Int)).toNat = 1 from rfl] at hx107_0); replace p107 := eq_true p107; replace q107 := eq_true q107) | (go_at_call 21; (with_reducible refine (zck.calls k (rdOf ByteArray.empty t103 0) (rdOf ByteArray.empty t103 1) false _ A6.out).mono ?_); rintro e w' ⟨rfl, ⟨nd, rfl⟩⟩; (try first | exact ⟨rfl, _, World.drewN_drewN _ _ _⟩ | exact ⟨rfl, _, Eq.trans (World.drewN_drewN _ _ _) (congrArg (World.drewN _) (Nat.add_assoc _ _ _))⟩))); try go_wp2_with (first | (go_at_call 20; (with_reducible refine (strings_Split.calls a0 (⟨#[32]⟩ : ByteArray) t103 _ ?side1 A2.out).mono ?_); (case side1 => exact LaidM.below HT.out (by repeat (first | (with_reducible first | exact HB.out | apply zac | apply zaa | apply zab) | exact HB.out))); rintro e w11 ⟨v104, rfl, ho0, hb⟩; have n0_ := Aside0.mk (Kd.zby ho0 (zan (by repeat (first | (with_reducible first | exact HB.out | apply zac | apply zaa | apply zab) | exact HB.out)))); have n1_ := Aside0.mk (zam (by repeat (first | (with_reducible first | exact HB.out | apply zac | apply zaa | apply zab) | exact HB.out)) hb); clear HB; have HO105 := n0_; have HB := n1_; clear n0_ n1_; (try clear hb); (try clear hb2); (try clear hk); (try clear hi); (try clear ho0); obtain ⟨Ao12, co12, eo12⟩ := Kd.zca HO105.out; subst eo12; have p106 : 0 ≤ (0 : Int) := (by omega); have q106 : 0 < (t103.length : Int) := of_decide_eq_true (by first | (with_reducible assumption) | assumption); obtain ⟨ad106, e106, hx106_0⟩ := Kd.zbw (Kd.zbu HO105.out).2.2 0 p106 q106; cases e106; have qi106 : (0 < t103.length) = True := eq_true (by omega); (try rw [show ((0 : Int)).toNat = 0 from rfl] at hx106_0); (try rw [Addr.add_zero'] at hx106_0); replace p106 := eq_true p106; replace q106 := eq_true q106; have p107 : 0 ≤ (1 : Int) := (by omega); have q107 : 1 < (t103.length : Int) := of_decide_eq_true (by first | (with_reducible assumption) | assumption); obtain ⟨ad107, e107, hx107_0⟩ := Kd.zbw (Kd.zbu HO105.out).2.2 1 p107 q107; obtain rfl : ad106 = ad107 := (by injection e107); (try simp only [show (1 : Int).toNat = 1 from rfl, Nat.reduceMul, Nat.reduceEqDiff, Go.Addr.add, ↓reduceIte] at hx107_0); have qi107 : (1 < t103.length) = True := eq_true (by omega); (try rw [show ((1 : Int)).toNat = 1 from rfl] at hx107_0); replace p107 := eq_true p107; replace q107 := eq_true q107) | (go_at_call 21; (with_reducible refine (zck.calls k (rdOf ByteArray.empty t103 0) (rdOf ByteArray.empty t103 1) false _ A6.out).mono ?_); rintro e w' ⟨rfl, ⟨nd, rfl⟩⟩; (try first | exact ⟨rfl, _, World.drewN_drewN _ _ _⟩ | exact ⟨rfl, _, Eq.trans (World.drewN_drewN _ _ _) (congrArg (World.drewN _) (Nat.add_assoc _ _ _))⟩))))
     go_ret
     exact ⟨by first | rfl | (simp [zaq, zap] <;> rfl) | (simp [*, zaq, zap] <;> rfl), by repeat (first | (with_reducible first | exact HB.out | apply zac | apply zaa | apply zab) | exact HB.out)⟩
   ·rw [if_neg c5] at H
    exact absurd H (by simp)
  ·rw [if_neg c4] at H
   exact absurd H (by simp)
 ·rw [if_neg c3] at H
  have c3b0 : ((t103.length : Int) == 3) = false := beq_eq_false_iff_ne.mpr c3
  have c3b1 : ((t103.length : Int) != 3) = true := bne_iff_ne.mpr c3
  obtain rfl := Option.some.inj H
  go_enter Tryz.func19, Tryz.ntmps19
  go_wp2_with (first | (go_at_call 20; (with_reducible refine (strings_Split.calls a0 (⟨#[32]⟩ : ByteArray) t103 _ ?side1 A2.out).mono ?_); (case side1 => exact LaidM.below HT.out (by repeat (first | (with_reducible first | exact HB.out | apply zac | apply zaa | apply zab) | exact HB.out))); rintro e w13 ⟨v104, rfl, ho0, hb⟩; have n0_ := Aside0.mk (Kd.zby ho0 (zan (by repeat (first | (with_reducible first | exact HB.out | apply zac | apply zaa | apply zab) | exact HB.out)))); have n1_ := Aside0.mk (zam (by repeat (first | (with_reducible first | exact HB.out | apply zac | apply zaa | apply zab) | exact HB.out)) hb); clear HB; have HO105 := n0_; have HB := n1_; clear n0_ n1_; (try clear hb); (try clear hb2); (try clear hk); (try clear hi); (try clear ho0); obtain ⟨Ao14, co14, eo14⟩ := Kd.zca HO105.out; subst eo14))
  repeat (go_quiet (first | (go_at_call 20; (with_reducible refine (strings_Split.calls a0 (⟨#[32]⟩ : ByteArray) t103 _ ?side1 A2.out).mono ?_); (case side1 => exact LaidM.below HT.out (by repeat (first | (with_reducible first | exact HB.out | apply zac | apply zaa | apply zab) | exact HB.out))); rintro e w13 ⟨v104, rfl, ho0, hb⟩; have n0_ := Aside0.mk (Kd.zby ho0 (zan (by repeat (first | (with_reducible first | exact HB.out | apply zac | apply zaa | apply zab) | exact HB.out)))); have n1_ := Aside0.mk (zam (by repeat (first | (with_reducible first | exact HB.out | apply zac | apply zaa | apply zab) | exact HB.out)) hb); clear HB; have HO105 := n0_; have HB := n1_; clear n0_ n1_; (try clear hb); (try clear hb2); (try clear hk); (try clear hi); (try clear ho0); obtain ⟨Ao14, co14, eo14⟩ := Kd.zca HO105.out; subst eo14)); try go_wp2_with (first | (go_at_call 20; (with_reducible refine (strings_Split.calls a0 (⟨#[32]⟩ : ByteArray) t103 _ ?side1 A2.out).mono ?_); (case side1 => exact LaidM.below HT.out (by repeat (first | (with_reducible first | exact HB.out | apply zac | apply zaa | apply zab) | exact HB.out))); rintro e w13 ⟨v104, rfl, ho0, hb⟩; have n0_ := Aside0.mk (Kd.zby ho0 (zan (by repeat (first | (with_reducible first | exact HB.out | apply zac | apply zaa | apply zab) | exact HB.out)))); have n1_ := Aside0.mk (zam (by repeat (first | (with_reducible first | exact HB.out | apply zac | apply zaa | apply zab) | exact HB.out)) hb); clear HB; have HO105 := n0_; have HB := n1_; clear n0_ n1_; (try clear hb); (try clear hb2); (try clear hk); (try clear hi); (try clear ho0); obtain ⟨Ao14, co14, eo14⟩ := Kd.zca HO105.out; subst eo14)))
  go_ret
  exact ⟨by first | rfl | (simp [zaq, zap] <;> rfl) | (simp [*, zaq, zap] <;> rfl), by repeat (first | (with_reducible first | exact HB.out | apply zac | apply zaa | apply zab) | exact HB.out)⟩
def strings_Index.f (s sub : ByteArray) : Option Int := if s.size < 4294967281 ∧ 1 ≤ sub.size then some (Lib.indexB s sub) else none
theorem strings_Index.calls (s sub : ByteArray) (r : Int) (w : World) (hT : LaidM w) (h : strings_Index.f s sub = some r) :
  Calls Tryz.prog 35 #[.string s, .string sub] w fun e w' => e = .returned (.int .i64 r) ∧ Below w.heap.size w w' := by
 unfold strings_Index.f at h
 split at h
 ·rename_i hc
  injection h with h
  subst h
  exact index_any s sub w hT hc.1 hc.2
 ·cases h
def zcl.f (s : ByteArray) (m : Int) : Option (Int × Bool) := if s.size ≤ 281474976710656 ∧ 0 ≤ m ∧ m < 18446744073709551616 then some (((numV s m.toNat).1 : Nat), (numV s m.toNat).2) else none
theorem zcl.calls (s : ByteArray) (m : Int) (r1 : Int) (r2 : Bool) (w : World) (hT : LaidM w) (h : zcl.f s m = some (r1, r2)) :
  Calls Tryz.prog 28 #[.string s, .int .u64 m] w fun e w' => e = .returned (.tuple #[.int .u64 r1, .bool r2]) ∧ Below w.heap.size w w' := by
 replace hT := hT.laid
 unfold zcl.f at h
 split at h
 ·rename_i hc
  obtain ⟨h0, h1, h2⟩ := hc
  simp only [Option.some.injEq, Prod.mk.injEq] at h
  obtain ⟨rfl, rfl⟩ := h
  have := number_any s m.toNat (by omega) w hT h0 _ rfl
  rw [Int.toNat_of_nonneg h1] at this
  exact this
 ·cases h
def zcj.f (s cut : ByteArray) : Option ByteArray := if s.size ≤ 281474976710656 ∧ cut.data.toList = [32, 9] then some ⟨(Lib.trimS s.data.toList [32, 9]).toArray⟩ else none
theorem zcj.calls (s cut : ByteArray) (r : ByteArray) (w : World) (hT : LaidM w) (h : zcj.f s cut = some r) :
  Calls Tryz.prog 39 #[.string s, .string cut] w fun e w' => e = .returned (.string r) ∧ Below w.heap.size w w' := by
 replace hT := hT.laid
 unfold zcj.f at h
 split at h
 ·rename_i hc
  injection h with h
  subst h
  obtain rfl : cut = ⟨#[32, 9]⟩ := ByteArray.ext (Array.toList_inj.1 hc.2)
  exact trim_blank s w hc.1
 ·cases h
def zct.f (s : ByteArray) : Option Bool := some (nameV s)
theorem zct.calls (s : ByteArray) (r : Bool) (w : World) (hT : LaidM w) (h : zct.f s = some r) :
  Calls Tryz.prog 41 #[.string s] w fun e w' => e = .returned (.bool r) ∧ Below w.heap.size w w' := by
 obtain rfl := Option.some.inj h
 exact name_any s w
def strings_ReplaceAll.f (s old new : ByteArray) : Option ByteArray := if s.size ≤ 140737488355328 ∧ old.data.toList = [9] ∧ new.data.toList = [32] then some ⟨(s.data.toList.map tabC).toArray⟩ else none
theorem strings_ReplaceAll.calls (s old new : ByteArray) (r : ByteArray) (w : World) (hT : LaidM w) (h : strings_ReplaceAll.f s old new = some r) :
  Calls Tryz.prog 60 #[.string s, .string old, .string new] w fun e w' => e = .returned (.string r) ∧ Below w.heap.size w w' := by
 unfold strings_ReplaceAll.f at h
 split at h
 ·rename_i hc
  injection h with h
  subst h
  obtain rfl : old = ⟨#[9]⟩ := ByteArray.ext (Array.toList_inj.1 hc.2.1)
  obtain rfl : new = ⟨#[32]⟩ := ByteArray.ext (Array.toList_inj.1 hc.2.2)
  exact replaceAll_tab s w hc.1
 ·cases h
def zbt.f (k : Nat) (a0 : ByteArray) : Option (Bool) := (strings_ReplaceAll.f a0 (⟨#[9]⟩ : ByteArray) (⟨#[32]⟩ : ByteArray)).bind fun t110 => ((zbm.f k t110 32 126).bind fun t111 => (some t111))
theorem zbt.mono : ∀ a0 k, LeO (zbt.f k a0) (zbt.f (k + 1) a0) := by
 intro a0 k
 unfold zbt.f
 repeat' first
   | (with_reducible exact zbm.mono _ _ _ _)
   | (with_reducible exact LeO.refl _)
   | (with_reducible exact LeO.none _)
   | (with_reducible refine LeO.ite ?_ ?_)
   | (with_reducible refine LeO.bind ?_ (fun _ => ?_))
   | exact zbm.mono _ _ _ _
   | exact LeO.none _
   | refine LeO.ite ?_ ?_
   | refine LeO.bind ?_ (fun _ => ?_)
set_option maxHeartbeats 8000000 in
set_option maxRecDepth 100000 in
theorem zbt.calls (k : Nat) (a0 : ByteArray) (r : Bool) (w : World) (hT : LaidM w) (h : zbt.f k a0 = some r) :
  Calls Tryz.prog 42 #[.string a0] w fun e w' => e = .returned (.bool r) ∧ Below w.heap.size w w' := by
 have HB := Aside0.mk (Below.refl w.heap.size w)
 have HT := Aside0.mk hT
 clear hT
 have H : ((strings_ReplaceAll.f a0 (⟨#[9]⟩ : ByteArray) (⟨#[32]⟩ : ByteArray)).bind fun t110 => ((zbm.f k t110 32 126).bind fun t111 => (some t111))) = some r := h
 clear h
 replace H := Option.bind_eq_some_iff.mp H
 obtain ⟨t110, A20, H⟩ := H
 replace H : ((zbm.f k t110 32 126).bind fun t111 => (some t111)) = some r := H
 have A2 := Aside0.mk A20
 clear A20
 replace H := Option.bind_eq_some_iff.mp H
 obtain ⟨t111, A30, H⟩ := H
 replace H : (some t111) = some r := H
 have A3 := Aside0.mk A30
 clear A30
 obtain rfl := Option.some.inj H
 go_enter Tryz.func42, Tryz.ntmps42
 go_wp2_with (first | ((with_reducible refine zar (f := 60) rfl ?_); refine zbr (some 4) rfl rfl Tryz.func60 (by kernel_rfl) rfl #[.string a0, .string (⟨#[9]⟩ : ByteArray), .string (⟨#[32]⟩ : ByteArray)] rfl (by (try simp only [List.map_toArray, List.map_cons, List.map_nil]); first | done | rfl | (simp only [List.length_drop, List.length_take]; rfl)) ?_; (with_reducible refine (strings_ReplaceAll.calls a0 (⟨#[9]⟩ : ByteArray) (⟨#[32]⟩ : ByteArray) t110 _ ?side1 A2.out).mono ?_); (case side1 => exact LaidM.below HT.out (by repeat (first | (with_reducible first | exact HB.out | apply zac | apply zaa | apply zab) | exact HB.out))); rintro e w4 ⟨rfl, hb⟩; refine ⟨_, rfl, ?_⟩; have n0_ := Aside0.mk (zam (by repeat (first | (with_reducible first | exact HB.out | apply zac | apply zaa | apply zab) | exact HB.out)) hb); clear HB; have HB := n0_; clear n0_; (try clear hb); (try clear hb2); (try clear hk); (try clear hi)) | ((with_reducible refine zar (f := 27) rfl ?_); refine zbr (some 5) rfl rfl Tryz.func27 (by kernel_rfl) rfl #[.string t110, .int .u8 32, .int .u8 126] rfl (by (try simp only [List.map_toArray, List.map_cons, List.map_nil]); first | done | rfl | (simp only [List.length_drop, List.length_take]; rfl)) ?_; (with_reducible refine (zbm.calls k t110 32 126 t111 _ A3.out).mono ?_); rintro e w' ⟨rfl, ⟨nd, rfl⟩⟩; refine ⟨_, rfl, ?_⟩))
 go_ret
 exact ⟨by first | rfl | (simp [zaq, zap] <;> rfl) | (simp [*, zaq, zap] <;> rfl), by repeat (first | (with_reducible first | exact HB.out | apply zac | apply zaa | apply zab) | exact HB.out)⟩
def zdm.f (s : ByteArray) (a b : Int) : Option (ByteArray) := if s.size ≤ 281474976710656 ∧ 0 ≤ a ∧ a < 256 ∧ 0 ≤ b ∧ b < 256 then some (turnS s (UInt8.ofNat a.toNat) (UInt8.ofNat b.toNat)) else none
theorem zdm.calls (s : ByteArray) (a b : Int) (r : ByteArray) (w : World) (hT : LaidM w) (h : zdm.f s a b = some r) :
  Calls Tryz.prog 82 #[.string s, .int .u8 a, .int .u8 b] w fun e w' => e = .returned (.string r) ∧ Below w.heap.size w w' := by
 replace hT := hT.laid
 unfold zdm.f at h
 split at h
 ·rename_i hc
  obtain ⟨h0, h1, h2, h3, h4⟩ := hc
  obtain rfl := Option.some.inj h
  have := turned_any s (UInt8.ofNat a.toNat) (UInt8.ofNat b.toNat) w h0
  rw [UInt8.toNat_ofNat_of_lt' (by show a.toNat < 256; omega), UInt8.toNat_ofNat_of_lt' (by show b.toNat < 256; omega), Int.toNat_of_nonneg h1, Int.toNat_of_nonneg h3] at this
  exact this
 ·cases h
def zcy.f (a0 : ByteArray) : Option (ByteArray) := (zdm.f a0 65 90).bind fun t112 => (some t112)
set_option maxHeartbeats 8000000 in
set_option maxRecDepth 100000 in
theorem zcy.calls (a0 : ByteArray) (r : ByteArray) (w : World) (hT : LaidM w) (h : zcy.f a0 = some r) :
  Calls Tryz.prog 61 #[.string a0] w fun e w' => e = .returned (.string r) ∧ Below w.heap.size w w' := by
 have HB := Aside0.mk (Below.refl w.heap.size w)
 have HT := Aside0.mk hT
 clear hT
 have H : ((zdm.f a0 65 90).bind fun t112 => (some t112)) = some r := h
 clear h
 replace H := Option.bind_eq_some_iff.mp H
 obtain ⟨t112, A20, H⟩ := H
 replace H : (some t112) = some r := H
 have A2 := Aside0.mk A20
 clear A20
 obtain rfl := Option.some.inj H
 go_enter Tryz.func61, Tryz.ntmps61
 go_wp2_with (first | ((with_reducible refine zar (f := 82) rfl ?_); refine zbr (some 4) rfl rfl Tryz.func82 (by kernel_rfl) rfl #[.string a0, .int .u8 65, .int .u8 90] rfl (by (try simp only [List.map_toArray, List.map_cons, List.map_nil]); first | done | rfl | (simp only [List.length_drop, List.length_take]; rfl)) ?_; (with_reducible refine (zdm.calls a0 65 90 t112 _ ?side1 A2.out).mono ?_); (case side1 => exact LaidM.below HT.out (by repeat (first | (with_reducible first | exact HB.out | apply zac | apply zaa | apply zab) | exact HB.out))); rintro e w3 ⟨rfl, hb⟩; refine ⟨_, rfl, ?_⟩; have n0_ := Aside0.mk (zam (by repeat (first | (with_reducible first | exact HB.out | apply zac | apply zaa | apply zab) | exact HB.out)) hb); clear HB; have HB := n0_; clear n0_; (try clear hb); (try clear hb2); (try clear hk); (try clear hi)))
 go_ret
 exact ⟨by first | rfl | (simp [zaq, zap] <;> rfl) | (simp [*, zaq, zap] <;> rfl), by repeat (first | (with_reducible first | exact HB.out | apply zac | apply zaa | apply zab) | exact HB.out)⟩
def zce.f (a0 : ByteArray) (a1 : ByteArray) : Option (Bool) := (zcy.f a0).bind fun t113 => ((zcy.f a1).bind fun t114 => (some (t113.toList == t114.toList)))
set_option maxHeartbeats 8000000 in
set_option maxRecDepth 100000 in
theorem zce.calls (a0 : ByteArray) (a1 : ByteArray) (r : Bool) (w : World) (hT : LaidM w) (h : zce.f a0 a1 = some r) :
  Calls Tryz.prog 43 #[.string a0, .string a1] w fun e w' => e = .returned (.bool r) ∧ Below w.heap.size w w' := by
 have HB := Aside0.mk (Below.refl w.heap.size w)
 have HT := Aside0.mk hT
 clear hT
 have H : ((zcy.f a0).bind fun t113 => ((zcy.f a1).bind fun t114 => (some (t113.toList == t114.toList)))) = some r := h
 clear h
 replace H := Option.bind_eq_some_iff.mp H
 obtain ⟨t113, A30, H⟩ := H
 replace H : ((zcy.f a1).bind fun t114 => (some (t113.toList == t114.toList))) = some r := H
 have A3 := Aside0.mk A30
 clear A30
 replace H := Option.bind_eq_some_iff.mp H
 obtain ⟨t114, A40, H⟩ := H
 replace H : (some (t113.toList == t114.toList)) = some r := H
 have A4 := Aside0.mk A40
 clear A40
 obtain rfl := Option.some.inj H
 go_enter Tryz.func43, Tryz.ntmps43
 go_wp2_with (first | ((with_reducible refine zar (f := 61) rfl ?_); refine zbr (some 6) rfl rfl Tryz.func61 (by kernel_rfl) rfl #[.string a0] rfl (by (try simp only [List.map_toArray, List.map_cons, List.map_nil]); first | done | rfl | (simp only [List.length_drop, List.length_take]; rfl)) ?_; (with_reducible refine (zcy.calls a0 t113 _ ?side1 A3.out).mono ?_); (case side1 => exact LaidM.below HT.out (by repeat (first | (with_reducible first | exact HB.out | apply zac | apply zaa | apply zab) | exact HB.out))); rintro e w5 ⟨rfl, hb⟩; refine ⟨_, rfl, ?_⟩; have n0_ := Aside0.mk (zam (by repeat (first | (with_reducible first | exact HB.out | apply zac | apply zaa | apply zab) | exact HB.out)) hb); clear HB; have HB := n0_; clear n0_; (try clear hb); (try clear hb2); (try clear hk); (try clear hi)) | ((with_reducible refine zar (f := 61) rfl ?_); refine zbr (some 8) rfl rfl Tryz.func61 (by kernel_rfl) rfl #[.string a1] rfl (by (try simp only [List.map_toArray, List.map_cons, List.map_nil]); first | done | rfl | (simp only [List.length_drop, List.length_take]; rfl)) ?_; (with_reducible refine (zcy.calls a1 t114 _ ?side1 A4.out).mono ?_); (case side1 => exact LaidM.below HT.out (by repeat (first | (with_reducible first | exact HB.out | apply zac | apply zaa | apply zab) | exact HB.out))); rintro e w6 ⟨rfl, hb⟩; refine ⟨_, rfl, ?_⟩; have n0_ := Aside0.mk (zam (by repeat (first | (with_reducible first | exact HB.out | apply zac | apply zaa | apply zab) | exact HB.out)) hb); clear HB; have HB := n0_; clear n0_; (try clear hb); (try clear hb2); (try clear hk); (try clear hi)))
 go_ret
 exact ⟨by first | rfl | (simp [zaq, zap] <;> rfl) | (simp [*, zaq, zap] <;> rfl), by repeat (first | (with_reducible first | exact HB.out | apply zac | apply zaa | apply zab) | exact HB.out)⟩
def strings_Cut.f (s sep : ByteArray) : Option (ByteArray × ByteArray × Bool) := if s.size ≤ 281474976710656 ∧ sep.data.toList.length = 1 then some (⟨(Lib.cut s.data.toList sep.data.toList).1.toArray⟩, ⟨(Lib.cut s.data.toList sep.data.toList).2.1.toArray⟩, (Lib.cut s.data.toList sep.data.toList).2.2) else none
theorem strings_Cut.calls (s sep : ByteArray) (r1 r2 : ByteArray) (r3 : Bool) (w : World) (hT : LaidM w) (h : strings_Cut.f s sep = some (r1, r2, r3)) :
  Calls Tryz.prog 46 #[.string s, .string sep] w fun e w' => e = .returned (.tuple #[.string r1, .string r2, .bool r3]) ∧ Below w.heap.size w w' := by
 replace hT := hT.laid
 unfold strings_Cut.f at h
 split at h
 ·rename_i hc
  simp only [Option.some.injEq, Prod.mk.injEq] at h
  obtain ⟨rfl, rfl, rfl⟩ := h
  obtain ⟨c, hl⟩ := List.length_eq_one_iff.1 hc.2
  obtain rfl : sep = ⟨#[c]⟩ := ByteArray.ext (Array.toList_inj.1 hl)
  exact cut_one s c w hc.1
 ·cases h
mutual
def zau.l0 : Nat → List (S62) → Int → Bool → List ByteArray → Int → Int → Option ((List (S62)) × Int × Bool)
 | 0, _, _, _, _, _, _ => none
 | k + 1, x5, x6, x7, x17, x18, x19 => if x19 < x18 then (if 0 ≤ x19 then (if x19 < (x17.length : Int) then ((strings_Cut.f (rdOf ByteArray.empty x17 x19) (⟨#[58]⟩ : ByteArray)).bind fun bt116 => ((zcj.f bt116.2.1 (⟨#[32, 9]⟩ : ByteArray)).bind fun t119 => (if bt116.2.2 = true then ((zct.f bt116.1).bind fun t120 => (if t120 = true then ((zbt.f k t119).bind fun t121 => (if t121 = true then ((zce.f bt116.1 (⟨#[84, 114, 97, 110, 115, 102, 101, 114, 45, 69, 110, 99, 111, 100, 105, 110, 103]⟩ : ByteArray)).bind fun t122 => (zau.j1 k x5 x6 x7 bt116.1 t119 x17 x18 x19 t122)) else (zau.j1 k x5 x6 x7 bt116.1 t119 x17 x18 x19 true))) else (zau.j1 k x5 x6 x7 bt116.1 t119 x17 x18 x19 true))) else (zau.j1 k x5 x6 x7 bt116.1 t119 x17 x18 x19 true)))) else (none)) else (none)) else (some (x5, x6, true))
def zau.j1 : Nat → List (S62) → Int → Bool → ByteArray → ByteArray → List ByteArray → Int → Int → Bool → Option ((List (S62)) × Int × Bool)
 | 0, _, _, _, _, _, _, _, _, _ => none
 | k + 1, x5, x6, x7, x10, x11, x17, x18, x19, x46 => if x46 = true then (some (([] : List (S62)), 0, false)) else ((zce.f x10 (⟨#[67, 111, 110, 116, 101, 110, 116, 45, 76, 101, 110, 103, 116, 104]⟩ : ByteArray)).bind fun t123 => (if t123 = true then ((zcl.f x11 65536).bind fun bt124 => (if x7 = true then (some (([] : List (S62)), 0, false)) else (if bt124.2 = true then (zau.l0 k x5 (wrap64 (bt124.1)) true x17 x18 (wrap64 (x19 + 1))) else (some (([] : List (S62)), 0, false))))) else (if x5.length < 4398046511104 then (zau.l0 k (x5 ++ [(⟨x10, x11⟩ : S62)]) x6 x7 x17 x18 (wrap64 (x19 + 1))) else (none))))
end
def zau.f (k : Nat) (l0 : List ByteArray) : Option ((List (S62)) × Int × Bool) := if (l0.length : Int) > 32 then (some (([] : List (S62)), 0, false)) else (zau.l0 k ([] : List (S62)) 0 false l0 (l0.length : Int) 0)
theorem zau.zdz : ∀ k, (∀ y0 y1 y2 y3 y4 y5, LeO (zau.l0 k y0 y1 y2 y3 y4 y5) (zau.l0 (k + 1) y0 y1 y2 y3 y4 y5)) ∧ (∀ y0 y1 y2 y3 y4 y5 y6 y7 y8, LeO (zau.j1 k y0 y1 y2 y3 y4 y5 y6 y7 y8) (zau.j1 (k + 1) y0 y1 y2 y3 y4 y5 y6 y7 y8))
 | 0 => ⟨fun _ _ _ _ _ _ r h => by simp [zau.l0] at h, fun _ _ _ _ _ _ _ _ _ r h => by simp [zau.j1] at h⟩
 | k + 1 => by
  obtain ⟨ih0, ih1⟩ := zau.zdz k
  refine ⟨?_, ?_⟩
  ·intro y0 y1 y2 y3 y4 y5
   unfold zau.l0
   repeat' first
   | (with_reducible exact ih0 _ _ _ _ _ _)
   | (with_reducible exact ih1 _ _ _ _ _ _ _ _ _)
   | (with_reducible exact zbt.mono _ _)
   | (with_reducible exact LeO.refl _)
   | (with_reducible exact LeO.none _)
   | (with_reducible refine LeO.ite ?_ ?_)
   | (with_reducible refine LeO.bind ?_ (fun _ => ?_))
   | exact ih0 _ _ _ _ _ _
   | exact ih1 _ _ _ _ _ _ _ _ _
   | exact zbt.mono _ _
   | exact LeO.none _
   | refine LeO.ite ?_ ?_
   | refine LeO.bind ?_ (fun _ => ?_)
  ·intro y0 y1 y2 y3 y4 y5 y6 y7 y8
   unfold zau.j1
   repeat' first
   | (with_reducible exact ih0 _ _ _ _ _ _)
   | (with_reducible exact ih1 _ _ _ _ _ _ _ _ _)
   | (with_reducible exact zbt.mono _ _)
   | (with_reducible exact LeO.refl _)
   | (with_reducible exact LeO.none _)
   | (with_reducible refine LeO.ite ?_ ?_)
   | (with_reducible refine LeO.bind ?_ (fun _ => ?_))
   | exact ih0 _ _ _ _ _ _
   | exact ih1 _ _ _ _ _ _ _ _ _
   | exact zbt.mono _ _
   | exact LeO.none _
   | refine LeO.ite ?_ ?_
   | refine LeO.bind ?_ (fun _ => ?_)
theorem zau.mono : ∀ a0 k, LeO (zau.f k a0) (zau.f (k + 1) a0) := by
 intro a0 k
 obtain ⟨ih0, ih1⟩ := zau.zdz k
 unfold zau.f
 repeat' first
   | (with_reducible exact ih0 _ _ _ _ _ _)
   | (with_reducible exact ih1 _ _ _ _ _ _ _ _ _)
   | (with_reducible exact zbt.mono _ _)
   | (with_reducible exact LeO.refl _)
   | (with_reducible exact LeO.none _)
   | (with_reducible refine LeO.ite ?_ ?_)
   | (with_reducible refine LeO.bind ?_ (fun _ => ?_))
   | exact ih0 _ _ _ _ _ _
   | exact ih1 _ _ _ _ _ _ _ _ _
   | exact zbt.mono _ _
   | exact LeO.none _
   | refine LeO.ite ?_ ?_
   | refine LeO.bind ?_ (fun _ => ?_)
set_option maxHeartbeats 8000000 in
set_option maxRecDepth 100000 in
theorem zau.calls (k : Nat) (A0 : Option Addr) (c0 : Nat) (l0 : List ByteArray) (r1 : List (S62)) (r2 : Int) (r3 : Bool) (w : World) (hr0 : Kd.C Kd.string w A0 l0.length l0) (hc0 : l0.length ≤ c0) (hT : LaidM w) (h : zau.f k l0 = some (r1, r2, r3)) :
  Calls Tryz.prog 36 #[.slice A0 l0.length c0] w fun e w' => ∃ v0_ : Value, e = .returned (.tuple #[v0_, .int .i64 r2, .bool r3]) ∧ Kd.R k62 62 w' w.heap.size (fun _ => True) v0_ r1 ∧ Below w.heap.size w w' := by
 have hu62 := Tryz.underlying62
 have HR0 := Aside0.mk hr0
 have HC0 := Aside0.mk hc0
 clear hr0 hc0
 have HB := Aside0.mk (Below.refl w.heap.size w)
 have HT := Aside0.mk hT
 clear hT
 have H : (if (l0.length : Int) > 32 then (some (([] : List (S62)), 0, false)) else (zau.l0 k ([] : List (S62)) 0 false l0 (l0.length : Int) 0)) = some (r1, r2, r3) := h
 clear h
 by_cases c2 : (l0.length : Int) > 32
 ·rw [if_pos c2] at H
  have c2b0 := decide_eq_true c2
  have c2b1 : decide (32 < l0.length) = true := decide_eq_true (by omega)
  clear c2
  simp only [Option.some.injEq, Prod.mk.injEq] at H
  obtain ⟨rfl, rfl, rfl⟩ := H
  go_enter Tryz.func36, Tryz.ntmps36
  go_wp2
  go_ret3
  exact ⟨_, by first | rfl | (simp [zaq, zap] <;> rfl) | (simp [*, zaq, zap] <;> rfl), by first | exact Kd.zee _ _ _ _ _ | exact Kd.zen _ _ _ _ _ | exact Kd.zek _ _ _ _ _ | exact Kd.zem _ _ _ _ _ | exact Kd.zel _ _ _ _ _, by repeat (first | (with_reducible first | exact HB.out | apply zac | apply zaa | apply zab) | exact HB.out)⟩
 ·rw [if_neg c2] at H
  have c2b0 : decide (32 < (l0.length : Int)) = false := decide_eq_false c2
  have c2b1 : decide (32 < l0.length) = false := decide_eq_false (by omega)
  clear c2
  have H' := Aside0.mk H
  clear H
  go_enter Tryz.func36, Tryz.ntmps36
  go_wp2
  go_loopg [5, 6, 7, 19] k (fun kq v5 v6 v7 v19 w' => ∃ (x5_1 : List (S62)) (x6_1 : Int) (x7_1 : Bool) (x19_1 : Int), v6 = .int .i64 x6_1 ∧ v7 = .bool x7_1 ∧ v19 = .int .i64 x19_1 ∧ Aside0 (zau.l0 kq x5_1 x6_1 x7_1 l0 (l0.length : Int) x19_1 = some (r1, r2, r3)) ∧ Aside0 (kq ≤ k) ∧ Aside0 (Kd.R k62 62 w' w.heap.size (fun _ => True) v5 x5_1) ∧ Aside0 (Below w.heap.size w w'))
  case atStart => exact ⟨(([] : List (S62))), (0), (false), (0), (by first | rfl | (simp; done) | (simp [*]; done)), (by first | rfl | (simp; done) | (simp [*]; done)), (by first | rfl | (simp; done) | (simp [*]; done)), H', ⟨Nat.le_refl _⟩, ⟨by first | exact Kd.zee _ _ _ _ _ | exact Kd.zen _ _ _ _ _ | exact Kd.zek _ _ _ _ _ | exact Kd.zem _ _ _ _ _ | exact Kd.zel _ _ _ _ _⟩, ⟨by repeat (first | (with_reducible first | exact HB.out | apply zac | apply zaa | apply zab) | exact HB.out)⟩⟩
  case round =>
   clear H'
   try clear c2
   try clear c2b0
   try clear c2b1
   try clear p2
   obtain ⟨x5_1, x6_1, x7_1, x19_1, rfl, rfl, rfl, HA, HK1, HO_5, HB⟩ := hrel
   cases gk with
   | zero => exact absurd HA.out (by simp [zau.l0])
   | succ k1 =>
    have H := HA.out
    clear HA
    simp only [zau.l0] at H
    by_cases c3 : x19_1 < (l0.length : Int)
    ·rw [if_pos c3] at H
     have c3b0 := decide_eq_true c3
     clear c3
     by_cases c4 : 0 ≤ x19_1
     ·rw [if_pos c4] at H
      have c4b0 := decide_eq_true c4
      clear c4
      by_cases c5 : x19_1 < (l0.length : Int)
      ·rw [if_pos c5] at H
       have c5b0 := decide_eq_true c5
       clear c5
       replace H := Option.bind_eq_some_iff.mp H
       obtain ⟨⟨t116, t117, t118⟩, A60, H⟩ := H
       replace H : ((zcj.f t117 (⟨#[32, 9]⟩ : ByteArray)).bind fun t119 => (if t118 = true then ((zct.f t116).bind fun t120 => (if t120 = true then ((zbt.f k1 t119).bind fun t121 => (if t121 = true then ((zce.f t116 (⟨#[84, 114, 97, 110, 115, 102, 101, 114, 45, 69, 110, 99, 111, 100, 105, 110, 103]⟩ : ByteArray)).bind fun t122 => (zau.j1 k1 x5_1 x6_1 x7_1 t116 t119 l0 (l0.length : Int) x19_1 t122)) else (zau.j1 k1 x5_1 x6_1 x7_1 t116 t119 l0 (l0.length : Int) x19_1 true))) else (zau.j1 k1 x5_1 x6_1 x7_1 t116 t119 l0 (l0.length : Int) x19_1 true))) else (zau.j1 k1 x5_1 x6_1 x7_1 t116 t119 l0 (l0.length : Int) x19_1 true))) = some (r1, r2, r3) := H
       have A6 := Aside0.mk A60
       clear A60
       replace H := Option.bind_eq_some_iff.mp H
       obtain ⟨t119, A70, H⟩ := H
       try dsimp only at H
       have A7 := Aside0.mk A70
       clear A70
       have HC8 := Aside0.mk H
       clear H
       have p115 : 0 ≤ (x19_1 : Int) := of_decide_eq_true (by first | (with_reducible assumption) | assumption)
       have q115 : x19_1 < (l0.length : Int) := of_decide_eq_true (by first | (with_reducible assumption) | assumption)
       obtain ⟨ad115, e115, hx115_0⟩ := Kd.zbw HR0.out x19_1 p115 q115
       cases e115
       replace hx115_0 := (HB.out.cell (World.block_lt_of_cell? w _ hx115_0)).trans hx115_0
       replace p115 := eq_true p115
       replace q115 := eq_true q115
       go_upto_region 10 with (first | ((with_reducible refine zar (f := 46) rfl ?_); refine zbr (some 25) rfl rfl Tryz.func46 (by kernel_rfl) rfl #[.string (rdOf ByteArray.empty l0 x19_1), .string (⟨#[58]⟩ : ByteArray)] rfl (by (try simp only [List.map_toArray, List.map_cons, List.map_nil]); first | done | rfl | (simp only [List.length_drop, List.length_take]; rfl)) ?_; (with_reducible refine (strings_Cut.calls (rdOf ByteArray.empty l0 x19_1) (⟨#[58]⟩ : ByteArray) t116 t117 t118 _ ?side1 A6.out).mono ?_); (case side1 => exact LaidM.below HT.out (by repeat (first | (with_reducible first | exact HB.out | apply zac | apply zaa | apply zab) | exact HB.out))); rintro e w9 ⟨rfl, hb⟩; refine ⟨_, rfl, ?_⟩; have n0_ := Aside0.mk (Kd.zbl (by (with_reducible repeat (first | apply Kd.zbc | apply Kd.zbb | apply Kd.zbg)); exact HO_5.out) hb); have n1_ := Aside0.mk (zam (by repeat (first | (with_reducible first | exact HB.out | apply zac | apply zaa | apply zab) | exact HB.out)) hb); clear HO_5; clear HB; have HO_5 := n0_; have HB := n1_; clear n0_ n1_; (try clear hb); (try clear hb2); (try clear hk); (try clear hi)) | ((with_reducible refine zar (f := 39) rfl ?_); refine zbr (some 30) rfl rfl Tryz.func39 (by kernel_rfl) rfl #[.string t117, .string (⟨#[32, 9]⟩ : ByteArray)] rfl (by (try simp only [List.map_toArray, List.map_cons, List.map_nil]); first | done | rfl | (simp only [List.length_drop, List.length_take]; rfl)) ?_; (with_reducible refine (zcj.calls t117 (⟨#[32, 9]⟩ : ByteArray) t119 _ ?side1 A7.out).mono ?_); (case side1 => exact LaidM.below HT.out (by repeat (first | (with_reducible first | exact HB.out | apply zac | apply zaa | apply zab) | exact HB.out))); rintro e w10 ⟨rfl, hb⟩; refine ⟨_, rfl, ?_⟩; have n0_ := Aside0.mk (Kd.zbl (by (with_reducible repeat (first | apply Kd.zbc | apply Kd.zbb | apply Kd.zbg)); exact HO_5.out) hb); have n1_ := Aside0.mk (zam (by repeat (first | (with_reducible first | exact HB.out | apply zac | apply zaa | apply zab) | exact HB.out)) hb); clear HO_5; clear HB; have HO_5 := n0_; have HB := n1_; clear n0_ n1_; (try clear hb); (try clear hb2); (try clear hk); (try clear hi)))
       (try simp only [Act.put, List.setIfInBounds_toArray, List.set_cons_zero, List.set_cons_succ])
       go_cut [46] (fun v46 wc => ∃ (kq : Nat) (x46_7 : Bool), v46 = .bool x46_7 ∧ Aside0 (zau.j1 kq x5_1 x6_1 x7_1 t116 t119 l0 (l0.length : Int) x19_1 x46_7 = some (r1, r2, r3)) ∧ Aside0 (kq ≤ k1) ∧ Aside0 (Kd.R k62 62 wc w.heap.size (fun _ => True) u5 x5_1) ∧ Aside0 (Below w.heap.size w wc))
       case first =>
        have H := HC8.out
        clear HC8
        by_cases c11 : t118 = true
        ·subst c11
         have H1 : ((zct.f t116).bind fun t120 => (if t120 = true then ((zbt.f k1 t119).bind fun t121 => (if t121 = true then ((zce.f t116 (⟨#[84, 114, 97, 110, 115, 102, 101, 114, 45, 69, 110, 99, 111, 100, 105, 110, 103]⟩ : ByteArray)).bind fun t122 => (zau.j1 k1 x5_1 x6_1 x7_1 t116 t119 l0 (l0.length : Int) x19_1 t122)) else (zau.j1 k1 x5_1 x6_1 x7_1 t116 t119 l0 (l0.length : Int) x19_1 true))) else (zau.j1 k1 x5_1 x6_1 x7_1 t116 t119 l0 (l0.length : Int) x19_1 true))) = some (r1, r2, r3) := by rw [if_pos rfl] at H; exact H
         clear H
         have H := H1
         clear H1
         replace H := Option.bind_eq_some_iff.mp H
         obtain ⟨t120, A120, H⟩ := H
         try dsimp only at H
         have A12 := Aside0.mk A120
         clear A120
         by_cases c13 : t120 = true
         ·subst c13
          have H1 : ((zbt.f k1 t119).bind fun t121 => (if t121 = true then ((zce.f t116 (⟨#[84, 114, 97, 110, 115, 102, 101, 114, 45, 69, 110, 99, 111, 100, 105, 110, 103]⟩ : ByteArray)).bind fun t122 => (zau.j1 k1 x5_1 x6_1 x7_1 t116 t119 l0 (l0.length : Int) x19_1 t122)) else (zau.j1 k1 x5_1 x6_1 x7_1 t116 t119 l0 (l0.length : Int) x19_1 true))) = some (r1, r2, r3) := by rw [if_pos rfl] at H; exact H
          clear H
          have H := H1
          clear H1
          replace H := Option.bind_eq_some_iff.mp H
          obtain ⟨t121, A140, H⟩ := H
          try dsimp only at H
          have A14 := Aside0.mk A140
          clear A140
          by_cases c15 : t121 = true
          ·subst c15
           have H1 : ((zce.f t116 (⟨#[84, 114, 97, 110, 115, 102, 101, 114, 45, 69, 110, 99, 111, 100, 105, 110, 103]⟩ : ByteArray)).bind fun t122 => (zau.j1 k1 x5_1 x6_1 x7_1 t116 t119 l0 (l0.length : Int) x19_1 t122)) = some (r1, r2, r3) := by rw [if_pos rfl] at H; exact H
           clear H
           have H := H1
           clear H1
           replace H := Option.bind_eq_some_iff.mp H
           obtain ⟨t122, A160, H⟩ := H
           replace H : (zau.j1 k1 x5_1 x6_1 x7_1 t116 t119 l0 (l0.length : Int) x19_1 t122) = some (r1, r2, r3) := H
           have A16 := Aside0.mk A160
           clear A160
           have H' := Aside0.mk H
           clear H
           go_wp2_with (first | (go_at_call 41; (with_reducible refine (zct.calls t116 true _ ?side1 A12.out).mono ?_); (case side1 => exact LaidM.below HT.out (by repeat (first | (with_reducible first | exact HB.out | apply zac | apply zaa | apply zab) | exact HB.out))); rintro e w17 ⟨rfl, hb⟩; have n0_ := Aside0.mk (Kd.zbl (by (with_reducible repeat (first | apply Kd.zbc | apply Kd.zbb | apply Kd.zbg)); exact HO_5.out) hb); have n1_ := Aside0.mk (zam (by repeat (first | (with_reducible first | exact HB.out | apply zac | apply zaa | apply zab) | exact HB.out)) hb); clear HO_5; clear HB; have HO_5 := n0_; have HB := n1_; clear n0_ n1_; (try clear hb); (try clear hb2); (try clear hk); (try clear hi)) | (go_at_call 42; (with_reducible refine (zbt.calls k1 t119 true _ ?side1 A14.out).mono ?_); (case side1 => exact LaidM.below HT.out (by repeat (first | (with_reducible first | exact HB.out | apply zac | apply zaa | apply zab) | exact HB.out))); rintro e w18 ⟨rfl, hb⟩; have n0_ := Aside0.mk (Kd.zbl (by (with_reducible repeat (first | apply Kd.zbc | apply Kd.zbb | apply Kd.zbg)); exact HO_5.out) hb); have n1_ := Aside0.mk (zam (by repeat (first | (with_reducible first | exact HB.out | apply zac | apply zaa | apply zab) | exact HB.out)) hb); clear HO_5; clear HB; have HO_5 := n0_; have HB := n1_; clear n0_ n1_; (try clear hb); (try clear hb2); (try clear hk); (try clear hi)) | (go_at_call 43; (with_reducible refine (zce.calls t116 (⟨#[84, 114, 97, 110, 115, 102, 101, 114, 45, 69, 110, 99, 111, 100, 105, 110, 103]⟩ : ByteArray) t122 _ ?side1 A16.out).mono ?_); (case side1 => exact LaidM.below HT.out (by repeat (first | (with_reducible first | exact HB.out | apply zac | apply zaa | apply zab) | exact HB.out))); rintro e w19 ⟨rfl, hb⟩; have n0_ := Aside0.mk (Kd.zbl (by (with_reducible repeat (first | apply Kd.zbc | apply Kd.zbb | apply Kd.zbg)); exact HO_5.out) hb); have n1_ := Aside0.mk (zam (by repeat (first | (with_reducible first | exact HB.out | apply zac | apply zaa | apply zab) | exact HB.out)) hb); clear HO_5; clear HB; have HO_5 := n0_; have HB := n1_; clear n0_ n1_; (try clear hb); (try clear hb2); (try clear hk); (try clear hi)))
           go_meet
           case rel => exact ⟨_, (t122), (by first | rfl | (simp; done) | (simp [*]; done)), H', ⟨by have := HK1.out; first | omega | exact Nat.le_refl _⟩, ⟨by (with_reducible repeat (first | apply Kd.zbc | apply Kd.zbb | apply Kd.zbg)); exact HO_5.out⟩, ⟨by repeat (first | (with_reducible first | exact HB.out | apply zac | apply zaa | apply zab) | exact HB.out)⟩⟩
          ·replace c15 := Bool.eq_false_iff.mpr c15
           subst c15
           have H1 : (zau.j1 k1 x5_1 x6_1 x7_1 t116 t119 l0 (l0.length : Int) x19_1 true) = some (r1, r2, r3) := by rw [if_neg (show ¬ (false = true) by decide)] at H; exact H
           clear H
           have H := H1
           clear H1
           have H' := Aside0.mk H
           clear H
           go_wp2_with (first | (go_at_call 41; (with_reducible refine (zct.calls t116 true _ ?side1 A12.out).mono ?_); (case side1 => exact LaidM.below HT.out (by repeat (first | (with_reducible first | exact HB.out | apply zac | apply zaa | apply zab) | exact HB.out))); rintro e w20 ⟨rfl, hb⟩; have n0_ := Aside0.mk (Kd.zbl (by (with_reducible repeat (first | apply Kd.zbc | apply Kd.zbb | apply Kd.zbg)); exact HO_5.out) hb); have n1_ := Aside0.mk (zam (by repeat (first | (with_reducible first | exact HB.out | apply zac | apply zaa | apply zab) | exact HB.out)) hb); clear HO_5; clear HB; have HO_5 := n0_; have HB := n1_; clear n0_ n1_; (try clear hb); (try clear hb2); (try clear hk); (try clear hi)) | (go_at_call 42; (with_reducible refine (zbt.calls k1 t119 false _ ?side1 A14.out).mono ?_); (case side1 => exact LaidM.below HT.out (by repeat (first | (with_reducible first | exact HB.out | apply zac | apply zaa | apply zab) | exact HB.out))); rintro e w21 ⟨rfl, hb⟩; have n0_ := Aside0.mk (Kd.zbl (by (with_reducible repeat (first | apply Kd.zbc | apply Kd.zbb | apply Kd.zbg)); exact HO_5.out) hb); have n1_ := Aside0.mk (zam (by repeat (first | (with_reducible first | exact HB.out | apply zac | apply zaa | apply zab) | exact HB.out)) hb); clear HO_5; clear HB; have HO_5 := n0_; have HB := n1_; clear n0_ n1_; (try clear hb); (try clear hb2); (try clear hk); (try clear hi)))
           go_meet
           case rel => exact ⟨_, (true), (by first | rfl | (simp; done) | (simp [*]; done)), H', ⟨by have := HK1.out; first | omega | exact Nat.le_refl _⟩, ⟨by (with_reducible repeat (first | apply Kd.zbc | apply Kd.zbb | apply Kd.zbg)); exact HO_5.out⟩, ⟨by repeat (first | (with_reducible first | exact HB.out | apply zac | apply zaa | apply zab) | exact HB.out)⟩⟩
         ·replace c13 := Bool.eq_false_iff.mpr c13
          subst c13
          have H1 : (zau.j1 k1 x5_1 x6_1 x7_1 t116 t119 l0 (l0.length : Int) x19_1 true) = some (r1, r2, r3) := by rw [if_neg (show ¬ (false = true) by decide)] at H; exact H
          clear H
          have H := H1
          clear H1
          have H' := Aside0.mk H
          clear H
          go_wp2_with (first | (go_at_call 41; (with_reducible refine (zct.calls t116 false _ ?side1 A12.out).mono ?_); (case side1 => exact LaidM.below HT.out (by repeat (first | (with_reducible first | exact HB.out | apply zac | apply zaa | apply zab) | exact HB.out))); rintro e w22 ⟨rfl, hb⟩; have n0_ := Aside0.mk (Kd.zbl (by (with_reducible repeat (first | apply Kd.zbc | apply Kd.zbb | apply Kd.zbg)); exact HO_5.out) hb); have n1_ := Aside0.mk (zam (by repeat (first | (with_reducible first | exact HB.out | apply zac | apply zaa | apply zab) | exact HB.out)) hb); clear HO_5; clear HB; have HO_5 := n0_; have HB := n1_; clear n0_ n1_; (try clear hb); (try clear hb2); (try clear hk); (try clear hi)))
          go_meet
          case rel => exact ⟨_, (true), (by first | rfl | (simp; done) | (simp [*]; done)), H', ⟨by have := HK1.out; first | omega | exact Nat.le_refl _⟩, ⟨by (with_reducible repeat (first | apply Kd.zbc | apply Kd.zbb | apply Kd.zbg)); exact HO_5.out⟩, ⟨by repeat (first | (with_reducible first | exact HB.out | apply zac | apply zaa | apply zab) | exact HB.out)⟩⟩
        ·replace c11 := Bool.eq_false_iff.mpr c11
         subst c11
         have H1 : (zau.j1 k1 x5_1 x6_1 x7_1 t116 t119 l0 (l0.length : Int) x19_1 true) = some (r1, r2, r3) := by rw [if_neg (show ¬ (false = true) by decide)] at H; exact H
         clear H
         have H := H1
         clear H1
         have H' := Aside0.mk H
         clear H
         go_wp2
         go_meet
         case rel => exact ⟨_, (true), (by first | rfl | (simp; done) | (simp [*]; done)), H', ⟨by have := HK1.out; first | omega | exact Nat.le_refl _⟩, ⟨by (with_reducible repeat (first | apply Kd.zbc | apply Kd.zbb | apply Kd.zbg)); exact HO_5.out⟩, ⟨by repeat (first | (with_reducible first | exact HB.out | apply zac | apply zaa | apply zab) | exact HB.out)⟩⟩
       case rest =>
        clear HC8
        try clear c1
        try clear p1
        try clear q1
        try clear hx1
        try clear c2
        try clear c2b0
        try clear c2b1
        try clear p2
        try clear c3
        try clear c3b0
        try clear c4
        try clear c4b0
        try clear c5
        try clear c5b0
        try clear c11
        try clear p11
        try clear q11
        try clear hx11
        try clear c13
        try clear c15
        try clear hx115_0
        try clear p115
        try clear p2
        try clear q115
        obtain ⟨kq, x46_7, rfl, HA, HJ7, HO_5, HB⟩ := hcut
        cases kq with
        | zero => exact absurd HA.out (by simp [zau.j1])
        | succ kj7 =>
         have H := HA.out
         clear HA
         simp only [zau.j1] at H
         by_cases c23 : x46_7 = true
         ·subst c23
          have H1 : (some (([] : List (S62)), 0, false)) = some (r1, r2, r3) := by rw [if_pos rfl] at H; exact H
          clear H
          have H := H1
          clear H1
          simp only [Option.some.injEq, Prod.mk.injEq] at H
          obtain ⟨rfl, rfl, rfl⟩ := H
          go_wp2
          go_ret3
          exact ⟨_, by first | rfl | (simp [zaq, zap] <;> rfl) | (simp [*, zaq, zap] <;> rfl), by first | exact Kd.zee _ _ _ _ _ | exact Kd.zen _ _ _ _ _ | exact Kd.zek _ _ _ _ _ | exact Kd.zem _ _ _ _ _ | exact Kd.zel _ _ _ _ _, by repeat (first | (with_reducible first | exact HB.out | apply zac | apply zaa | apply zab) | exact HB.out)⟩
         ·replace c23 := Bool.eq_false_iff.mpr c23
          subst c23
          have H1 : ((zce.f t116 (⟨#[67, 111, 110, 116, 101, 110, 116, 45, 76, 101, 110, 103, 116, 104]⟩ : ByteArray)).bind fun t123 => (if t123 = true then ((zcl.f t119 65536).bind fun bt124 => (if x7_1 = true then (some (([] : List (S62)), 0, false)) else (if bt124.2 = true then (zau.l0 kj7 x5_1 (wrap64 (bt124.1)) true l0 (l0.length : Int) (wrap64 (x19_1 + 1))) else (some (([] : List (S62)), 0, false))))) else (if x5_1.length < 4398046511104 then (zau.l0 kj7 (x5_1 ++ [(⟨t116, t119⟩ : S62)]) x6_1 x7_1 l0 (l0.length : Int) (wrap64 (x19_1 + 1))) else (none)))) = some (r1, r2, r3) := by rw [if_neg (show ¬ (false = true) by decide)] at H; exact H
          clear H
          have H := H1
          clear H1
          replace H := Option.bind_eq_some_iff.mp H
          obtain ⟨t123, A240, H⟩ := H
          try dsimp only at H
          have A24 := Aside0.mk A240
          clear A240
          by_cases c25 : t123 = true
          ·subst c25
           have H1 : ((zcl.f t119 65536).bind fun bt124 => (if x7_1 = true then (some (([] : List (S62)), 0, false)) else (if bt124.2 = true then (zau.l0 kj7 x5_1 (wrap64 (bt124.1)) true l0 (l0.length : Int) (wrap64 (x19_1 + 1))) else (some (([] : List (S62)), 0, false))))) = some (r1, r2, r3) := by rw [if_pos rfl] at H; exact H
           clear H
           have H := H1
           clear H1
           replace H := Option.bind_eq_some_iff.mp H
           obtain ⟨⟨t124, t125⟩, A260, H⟩ := H
           replace H : (if x7_1 = true then (some (([] : List (S62)), 0, false)) else (if t125 = true then (zau.l0 kj7 x5_1 (wrap64 (t124)) true l0 (l0.length : Int) (wrap64 (x19_1 + 1))) else (some (([] : List (S62)), 0, false)))) = some (r1, r2, r3) := H
           have A26 := Aside0.mk A260
           clear A260
           by_cases c27 : x7_1 = true
           ·subst c27
            have H1 : (some (([] : List (S62)), 0, false)) = some (r1, r2, r3) := by rw [if_pos rfl] at H; exact H
            clear H
            have H := H1
            clear H1
            simp only [Option.some.injEq, Prod.mk.injEq] at H
            obtain ⟨rfl, rfl, rfl⟩ := H
            go_wp2_with (first | ((with_reducible refine zar (f := 43) rfl ?_); refine zbr (some 48) rfl rfl Tryz.func43 (by kernel_rfl) rfl #[.string t116, .string (⟨#[67, 111, 110, 116, 101, 110, 116, 45, 76, 101, 110, 103, 116, 104]⟩ : ByteArray)] rfl (by (try simp only [List.map_toArray, List.map_cons, List.map_nil]); first | done | rfl | (simp only [List.length_drop, List.length_take]; rfl)) ?_; (with_reducible refine (zce.calls t116 (⟨#[67, 111, 110, 116, 101, 110, 116, 45, 76, 101, 110, 103, 116, 104]⟩ : ByteArray) true _ ?side1 A24.out).mono ?_); (case side1 => exact LaidM.below HT.out (by repeat (first | (with_reducible first | exact HB.out | apply zac | apply zaa | apply zab) | exact HB.out))); rintro e w28 ⟨rfl, hb⟩; refine ⟨_, rfl, ?_⟩; have n0_ := Aside0.mk (Kd.zbl (by (with_reducible repeat (first | apply Kd.zbc | apply Kd.zbb | apply Kd.zbg)); exact HO_5.out) hb); have n1_ := Aside0.mk (zam (by repeat (first | (with_reducible first | exact HB.out | apply zac | apply zaa | apply zab) | exact HB.out)) hb); clear HO_5; clear HB; have HO_5 := n0_; have HB := n1_; clear n0_ n1_; (try clear hb); (try clear hb2); (try clear hk); (try clear hi)) | ((with_reducible refine zar (f := 28) rfl ?_); refine zbr (some 58) rfl rfl Tryz.func28 (by kernel_rfl) rfl #[.string t119, .int .u64 65536] rfl (by (try simp only [List.map_toArray, List.map_cons, List.map_nil]); first | done | rfl | (simp only [List.length_drop, List.length_take]; rfl)) ?_; (with_reducible refine (zcl.calls t119 65536 t124 t125 _ ?side1 A26.out).mono ?_); (case side1 => exact LaidM.below HT.out (by repeat (first | (with_reducible first | exact HB.out | apply zac | apply zaa | apply zab) | exact HB.out))); rintro e w29 ⟨rfl, hb⟩; refine ⟨_, rfl, ?_⟩; have n0_ := Aside0.mk (Kd.zbl (by (with_reducible repeat (first | apply Kd.zbc | apply Kd.zbb | apply Kd.zbg)); exact HO_5.out) hb); have n1_ := Aside0.mk (zam (by repeat (first | (with_reducible first | exact HB.out | apply zac | apply zaa | apply zab) | exact HB.out)) hb); clear HO_5; clear HB; have HO_5 := n0_; have HB := n1_; clear n0_ n1_; (try clear hb); (try clear hb2); (try clear hk); (try clear hi)))
            go_ret3
            exact ⟨_, by first | rfl | (simp [zaq, zap] <;> rfl) | (simp [*, zaq, zap] <;> rfl), by first | exact Kd.zee _ _ _ _ _ | exact Kd.zen _ _ _ _ _ | exact Kd.zek _ _ _ _ _ | exact Kd.zem _ _ _ _ _ | exact Kd.zel _ _ _ _ _, by repeat (first | (with_reducible first | exact HB.out | apply zac | apply zaa | apply zab) | exact HB.out)⟩
           ·replace c27 := Bool.eq_false_iff.mpr c27
            subst c27
            have H1 : (if t125 = true then (zau.l0 kj7 x5_1 (wrap64 (t124)) true l0 (l0.length : Int) (wrap64 (x19_1 + 1))) else (some (([] : List (S62)), 0, false))) = some (r1, r2, r3) := by rw [if_neg (show ¬ (false = true) by decide)] at H; exact H
            clear H
            have H := H1
            clear H1
            by_cases c30 : t125 = true
            ·subst c30
             have H1 : (zau.l0 kj7 x5_1 (wrap64 (t124)) true l0 (l0.length : Int) (wrap64 (x19_1 + 1))) = some (r1, r2, r3) := by rw [if_pos rfl] at H; exact H
             clear H
             have H := H1
             clear H1
             have H' := Aside0.mk H
             clear H
             go_wp2_with (first | ((with_reducible refine zar (f := 43) rfl ?_); refine zbr (some 48) rfl rfl Tryz.func43 (by kernel_rfl) rfl #[.string t116, .string (⟨#[67, 111, 110, 116, 101, 110, 116, 45, 76, 101, 110, 103, 116, 104]⟩ : ByteArray)] rfl (by (try simp only [List.map_toArray, List.map_cons, List.map_nil]); first | done | rfl | (simp only [List.length_drop, List.length_take]; rfl)) ?_; (with_reducible refine (zce.calls t116 (⟨#[67, 111, 110, 116, 101, 110, 116, 45, 76, 101, 110, 103, 116, 104]⟩ : ByteArray) true _ ?side1 A24.out).mono ?_); (case side1 => exact LaidM.below HT.out (by repeat (first | (with_reducible first | exact HB.out | apply zac | apply zaa | apply zab) | exact HB.out))); rintro e w31 ⟨rfl, hb⟩; refine ⟨_, rfl, ?_⟩; have n0_ := Aside0.mk (Kd.zbl (by (with_reducible repeat (first | apply Kd.zbc | apply Kd.zbb | apply Kd.zbg)); exact HO_5.out) hb); have n1_ := Aside0.mk (zam (by repeat (first | (with_reducible first | exact HB.out | apply zac | apply zaa | apply zab) | exact HB.out)) hb); clear HO_5; clear HB; have HO_5 := n0_; have HB := n1_; clear n0_ n1_; (try clear hb); (try clear hb2); (try clear hk); (try clear hi)) | ((with_reducible refine zar (f := 28) rfl ?_); refine zbr (some 58) rfl rfl Tryz.func28 (by kernel_rfl) rfl #[.string t119, .int .u64 65536] rfl (by (try simp only [List.map_toArray, List.map_cons, List.map_nil]); first | done | rfl | (simp only [List.length_drop, List.length_take]; rfl)) ?_; (with_reducible refine (zcl.calls t119 65536 t124 true _ ?side1 A26.out).mono ?_); (case side1 => exact LaidM.below HT.out (by repeat (first | (with_reducible first | exact HB.out | apply zac | apply zaa | apply zab) | exact HB.out))); rintro e w32 ⟨rfl, hb⟩; refine ⟨_, rfl, ?_⟩; have n0_ := Aside0.mk (Kd.zbl (by (with_reducible repeat (first | apply Kd.zbc | apply Kd.zbb | apply Kd.zbg)); exact HO_5.out) hb); have n1_ := Aside0.mk (zam (by repeat (first | (with_reducible first | exact HB.out | apply zac | apply zaa | apply zab) | exact HB.out)) hb); clear HO_5; clear HB; have HO_5 := n0_; have HB := n1_; clear n0_ n1_; (try clear hb); (try clear hb2); (try clear hk); (try clear hi)))
             go_roundg kj7
             case measure => have := HK1.out; have := HJ7.out; omega
             case rel => exact ⟨(x5_1), (wrap64 (t124)), (true), (wrap64 (x19_1 + 1)), (by first | rfl | (simp; done) | (simp [*]; done)), (by first | rfl | (simp; done) | (simp [*]; done)), (by first | rfl | (simp; done) | (simp [*]; done)), H', ⟨by have := HK1.out; have := HJ7.out; omega⟩, ⟨by (with_reducible repeat (first | apply Kd.zbc | apply Kd.zbb | apply Kd.zbg)); exact HO_5.out⟩, ⟨by repeat (first | (with_reducible first | exact HB.out | apply zac | apply zaa | apply zab) | exact HB.out)⟩⟩
            ·replace c30 := Bool.eq_false_iff.mpr c30
             subst c30
             have H1 : (some (([] : List (S62)), 0, false)) = some (r1, r2, r3) := by rw [if_neg (show ¬ (false = true) by decide)] at H; exact H
             clear H
             have H := H1
             clear H1
             simp only [Option.some.injEq, Prod.mk.injEq] at H
             obtain ⟨rfl, rfl, rfl⟩ := H
             go_wp2_with (first | ((with_reducible refine zar (f := 43) rfl ?_); refine zbr (some 48) rfl rfl Tryz.func43 (by kernel_rfl) rfl #[.string t116, .string (⟨#[67, 111, 110, 116, 101, 110, 116, 45, 76, 101, 110, 103, 116, 104]⟩ : ByteArray)] rfl (by (try simp only [List.map_toArray, List.map_cons, List.map_nil]); first | done | rfl | (simp only [List.length_drop, List.length_take]; rfl)) ?_; (with_reducible refine (zce.calls t116 (⟨#[67, 111, 110, 116, 101, 110, 116, 45, 76, 101, 110, 103, 116, 104]⟩ : ByteArray) true _ ?side1 A24.out).mono ?_); (case side1 => exact LaidM.below HT.out (by repeat (first | (with_reducible first | exact HB.out | apply zac | apply zaa | apply zab) | exact HB.out))); rintro e w33 ⟨rfl, hb⟩; refine ⟨_, rfl, ?_⟩; have n0_ := Aside0.mk (Kd.zbl (by (with_reducible repeat (first | apply Kd.zbc | apply Kd.zbb | apply Kd.zbg)); exact HO_5.out) hb); have n1_ := Aside0.mk (zam (by repeat (first | (with_reducible first | exact HB.out | apply zac | apply zaa | apply zab) | exact HB.out)) hb); clear HO_5; clear HB; have HO_5 := n0_; have HB := n1_; clear n0_ n1_; (try clear hb); (try clear hb2); (try clear hk); (try clear hi)) | ((with_reducible refine zar (f := 28) rfl ?_); refine zbr (some 58) rfl rfl Tryz.func28 (by kernel_rfl) rfl #[.string t119, .int .u64 65536] rfl (by (try simp only [List.map_toArray, List.map_cons, List.map_nil]); first | done | rfl | (simp only [List.length_drop, List.length_take]; rfl)) ?_; (with_reducible refine (zcl.calls t119 65536 t124 false _ ?side1 A26.out).mono ?_); (case side1 => exact LaidM.below HT.out (by repeat (first | (with_reducible first | exact HB.out | apply zac | apply zaa | apply zab) | exact HB.out))); rintro e w34 ⟨rfl, hb⟩; refine ⟨_, rfl, ?_⟩; have n0_ := Aside0.mk (Kd.zbl (by (with_reducible repeat (first | apply Kd.zbc | apply Kd.zbb | apply Kd.zbg)); exact HO_5.out) hb); have n1_ := Aside0.mk (zam (by repeat (first | (with_reducible first | exact HB.out | apply zac | apply zaa | apply zab) | exact HB.out)) hb); clear HO_5; clear HB; have HO_5 := n0_; have HB := n1_; clear n0_ n1_; (try clear hb); (try clear hb2); (try clear hk); (try clear hi)))
             go_ret3
             exact ⟨_, by first | rfl | (simp [zaq, zap] <;> rfl) | (simp [*, zaq, zap] <;> rfl), by first | exact Kd.zee _ _ _ _ _ | exact Kd.zen _ _ _ _ _ | exact Kd.zek _ _ _ _ _ | exact Kd.zem _ _ _ _ _ | exact Kd.zel _ _ _ _ _, by repeat (first | (with_reducible first | exact HB.out | apply zac | apply zaa | apply zab) | exact HB.out)⟩
          ·replace c25 := Bool.eq_false_iff.mpr c25
           subst c25
           have H1 : (if x5_1.length < 4398046511104 then (zau.l0 kj7 (x5_1 ++ [(⟨t116, t119⟩ : S62)]) x6_1 x7_1 l0 (l0.length : Int) (wrap64 (x19_1 + 1))) else (none)) = some (r1, r2, r3) := by rw [if_neg (show ¬ (false = true) by decide)] at H; exact H
           clear H
           have H := H1
           clear H1
           by_cases c35 : x5_1.length < 4398046511104
           ·rw [if_pos c35] at H
            have LMc35 := Aside0.mk c35
            clear c35
            obtain ⟨y126, hy126⟩ : ∃ y_ : List (S62), y_ = (x5_1 ++ [(⟨t116, t119⟩ : S62)]) := ⟨_, rfl⟩
            replace H : (zau.l0 kj7 y126 x6_1 x7_1 l0 (l0.length : Int) (wrap64 (x19_1 + 1))) = some (r1, r2, r3) := by first | (rw [hy126]; with_reducible exact H) | (have H2_ := (Option.bind_some _ _).symm.trans H; rw [hy126]; with_reducible exact H2_) | (have H2_ := (Option.bind_some _ _).symm.trans H; with_reducible exact H2_) | with_reducible exact H | (rw [hy126]; exact H) | exact H
            have Ny126 := Aside0.mk hy126
            clear hy126
            have H' := Aside0.mk H
            clear H
            go_wp2_with (first | ((with_reducible refine zar (f := 43) rfl ?_); refine zbr (some 48) rfl rfl Tryz.func43 (by kernel_rfl) rfl #[.string t116, .string (⟨#[67, 111, 110, 116, 101, 110, 116, 45, 76, 101, 110, 103, 116, 104]⟩ : ByteArray)] rfl (by (try simp only [List.map_toArray, List.map_cons, List.map_nil]); first | done | rfl | (simp only [List.length_drop, List.length_take]; rfl)) ?_; (with_reducible refine (zce.calls t116 (⟨#[67, 111, 110, 116, 101, 110, 116, 45, 76, 101, 110, 103, 116, 104]⟩ : ByteArray) false _ ?side1 A24.out).mono ?_); (case side1 => exact LaidM.below HT.out (by repeat (first | (with_reducible first | exact HB.out | apply zac | apply zaa | apply zab) | exact HB.out))); rintro e w36 ⟨rfl, hb⟩; refine ⟨_, rfl, ?_⟩; have n0_ := Aside0.mk (Kd.zbl (by (with_reducible repeat (first | apply Kd.zbc | apply Kd.zbb | apply Kd.zbg)); exact HO_5.out) hb); have n1_ := Aside0.mk (zam (by repeat (first | (with_reducible first | exact HB.out | apply zac | apply zaa | apply zab) | exact HB.out)) hb); clear HO_5; clear HB; have HO_5 := n0_; have HB := n1_; clear n0_ n1_; (try clear hb); (try clear hb2); (try clear hk); (try clear hi)) | ((with_reducible refine gate_builtin (b := .append) (xs := #[.tmp 50, .tmp 54]) rfl ?_); at_builtin; refine Kd.R_append k62 (w0 := w) w.heap.size rfl (.tmp 50) (.tmp 54) 23 62 (.agg #[(.string ⟨#[]⟩), (.string ⟨#[]⟩)]) 32 rfl Tryz.underlying23 info62 rfl (by decide) (by omega) u5 x5_1 (⟨t116, t119⟩ : S62) [.string t116, .string t119] (fun _ => True) (fun _ => False) rfl rfl ?aP (fun _ hk => hk.elim) ?aF ?aO ?aB ?aS ?aL ?_; (case aP => exact k62_mkM _ _ _ (⟨t116, t119⟩ : S62)); (case aB => exact (by repeat (first | (with_reducible first | exact HB.out | apply zac | apply zaa | apply zab) | exact HB.out))); (case aF => exact (fun _ _ => trivial)); (case aO => exact (by (with_reducible repeat (first | apply Kd.zbc | apply Kd.zbb | apply Kd.zbg)); exact HO_5.out)); (case aS => exact (zan (by repeat (first | (with_reducible first | exact HB.out | apply zac | apply zaa | apply zab) | exact HB.out)))); (case aL => have := LMc35.out; omega); intro v127 w37 ho hb hg hat; rw [← Ny126.out] at ho; have n0_ := Aside0.mk (hb); have n1_ := Aside0.mk (ho); clear HB; clear HO_5; have HB := n0_; have HO128 := n1_; clear n0_ n1_; clear ho hb hg hat))
            go_roundg kj7
            case measure => have := HK1.out; have := HJ7.out; omega
            case rel => exact ⟨(y126), (x6_1), (x7_1), (wrap64 (x19_1 + 1)), (by first | rfl | (simp; done) | (simp [*]; done)), (by first | rfl | (simp; done) | (simp [*]; done)), (by first | rfl | (simp; done) | (simp [*]; done)), H', ⟨by have := HK1.out; have := HJ7.out; omega⟩, ⟨by (with_reducible repeat (first | apply Kd.zbc | apply Kd.zbb | apply Kd.zbg)); exact HO128.out⟩, ⟨by repeat (first | (with_reducible first | exact HB.out | apply zac | apply zaa | apply zab) | exact HB.out)⟩⟩
           ·rw [if_neg c35] at H
            exact absurd H (by simp)
      ·rw [if_neg c5] at H
       exact absurd H (by simp)
     ·rw [if_neg c4] at H
      exact absurd H (by simp)
    ·rw [if_neg c3] at H
     have c3b0 : decide (x19_1 < (l0.length : Int)) = false := decide_eq_false c3
     clear c3
     simp only [Option.some.injEq, Prod.mk.injEq] at H
     obtain ⟨rfl, rfl, rfl⟩ := H
     go_wp2
     go_ret3
     exact ⟨_, by first | rfl | (simp [zaq, zap] <;> rfl) | (simp [*, zaq, zap] <;> rfl), by (with_reducible repeat (first | apply Kd.zbc | apply Kd.zbb | apply Kd.zbg)); exact HO_5.out, by repeat (first | (with_reducible first | exact HB.out | apply zac | apply zaa | apply zab) | exact HB.out)⟩
end Go.Proofs.YtipfekjmcddelaaGreatDoor.XHttpWrites
