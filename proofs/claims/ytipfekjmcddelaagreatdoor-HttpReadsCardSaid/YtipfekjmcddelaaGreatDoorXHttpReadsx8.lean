-- written by wip/xprint.py: the kit's print with functions walked by hand
import Derived.Test.YtipfekjmcddelaaGreatDoorXHttpReadsx0
import Derived.Test.YtipfekjmcddelaaGreatDoorXHttpReadsx5
import Derived.Test.YtipfekjmcddelaaGreatDoorXHttpReadsx6
import Derived.Test.YtipfekjmcddelaaGreatDoorXHttpReadsx7
namespace Go.Proofs.YtipfekjmcddelaaGreatDoor.XHttpReads
open Go.RowKit Go.Proofs.YtipfekjmcddelaaGreatDoorW.PrintWords Go.Proofs.YtipfekjmcddelaaGreatDoorW.PrintLast Go.Proofs.YtipfekjmcddelaaGreatDoorW.PrintMore
attribute [local go_sem] max2_int min2_int max_two min_two max_three min_three max_four min_four   -- for this text's walks alone
set_option linter.unusedVariables false
set_option linter.unusedSimpArgs false

mutual
def calepinref01_Number.j0 : Nat → ByteArray → Int → Bool → Option (Int × Bool)
 | 0, _, _, _ => none
 | k + 1, x0, x1, x21 => if x21 = true then (some (0, false)) else (calepinref01_Number.l0 k x0 x1 0 0)
def calepinref01_Number.l0 : Nat → ByteArray → Int → Int → Int → Option (Int × Bool)
 | 0, _, _, _, _ => none
 | k + 1, x0, x1, x6, x7 => if x7 < (x0.size : Int) then (if 0 ≤ x7 then (if (bt x0 x7) < 48 then (calepinref01_Number.j2 k x0 x1 x6 x7 true) else (calepinref01_Number.j2 k x0 x1 x6 x7 (decide ((bt x0 x7) > 57)))) else (none)) else (some (x6, true))
def calepinref01_Number.j2 : Nat → ByteArray → Int → Int → Int → Bool → Option (Int × Bool)
 | 0, _, _, _, _, _ => none
 | k + 1, x0, x1, x6, x7, x37 => if x37 = true then (some (0, false)) else (if 0 ≤ x7 then (if x7 < (x0.size : Int) then (if x6 > (IntKind.u64.wrap (Int.tdiv x1 10)) then (some (0, false)) else (if (IntKind.u64.wrap (10 * x6)) > (IntKind.u64.wrap (x1 - (mn x1 (((bt x0 x7) - 48) % 256)))) then (some (0, false)) else (if (((bt x0 x7) - 48) % 256) > x1 then (some (0, false)) else (calepinref01_Number.l0 k x0 x1 (IntKind.u64.wrap ((IntKind.u64.wrap (10 * x6)) + (((bt x0 x7) - 48) % 256))) (wrap64 (x7 + 1)))))) else (none)) else (none))
end
def calepinref01_Number.f (k : Nat) (a0 : ByteArray) (a1 : Int) : Option (Int × Bool) := if (a0.size : Int) = 0 then (calepinref01_Number.j0 k a0 a1 true) else (if (a0.size : Int) > 1 then (if 0 < (a0.size : Int) then (calepinref01_Number.j0 k a0 a1 ((bt a0 0) == 48)) else (none)) else (calepinref01_Number.j0 k a0 a1 false))
set_option maxHeartbeats 8000000 in
set_option maxRecDepth 100000 in
theorem calepinref01_Number.calls (k : Nat) (a0 : ByteArray) (a1 : Int) (r1 : Int) (r2 : Bool) (w : World) (hT : LaidM w) (h : calepinref01_Number.f k a0 a1 = some (r1, r2)) :
  Calls Tryz.prog 38 #[.string a0, .int .u64 a1] w fun e w' => e = .returned (.tuple #[.int .u64 r1, .bool r2]) ∧ Below w.heap.size w w' := by
 have HB := Aside0.mk (Below.refl w.heap.size w)
 have HT := Aside0.mk hT
 clear hT
 have H : (if (a0.size : Int) = 0 then (calepinref01_Number.j0 k a0 a1 true) else (if (a0.size : Int) > 1 then (if 0 < (a0.size : Int) then (calepinref01_Number.j0 k a0 a1 ((bt a0 0) == 48)) else (none)) else (calepinref01_Number.j0 k a0 a1 false))) = some (r1, r2) := h
 clear h
 have HC3 := Aside0.mk H
 clear H
 go_enter Tryz.func38, Tryz.ntmps38
 go_upto_region 1 with (fail)
 go_cut [21] (fun v21 wc => ∃ (kq : Nat) (x21_2 : Bool), v21 = .bool x21_2 ∧ Aside0 (calepinref01_Number.j0 kq a0 a1 x21_2 = some (r1, r2)) ∧ Aside0 (kq ≤ k) ∧ Aside0 (Below w.heap.size w wc))
 case first =>
  have H := HC3.out
  clear HC3
  by_cases c4 : (a0.size : Int) = 0
  ·rw [if_pos c4] at H
   have c4b0 : ((a0.size : Int) == 0) = true := beq_iff_eq.mpr c4
   have c4b1 : ((a0.size : Int) != 0) = false := bne_eq_false_iff_eq.mpr c4
   clear c4
   (first | rw [c4b0] | rw [c4b1] | (simp only [i64_w, i32_w]; rw [c4b0]) | skip)
   have H' := Aside0.mk H
   clear H
   go_wp2
   go_meet
   case rel => exact ⟨_, (true), (by first | rfl | (simp; done) | (simp [*]; done)), H', ⟨by first | omega | exact Nat.le_refl _⟩, ⟨by repeat (first | (with_reducible first | exact HB.out | apply below_alloc | apply pw_below_drewN | apply below_drew1) | exact HB.out)⟩⟩
  ·rw [if_neg c4] at H
   have c4b0 : ((a0.size : Int) == 0) = false := beq_eq_false_iff_ne.mpr c4
   have c4b1 : ((a0.size : Int) != 0) = true := bne_iff_ne.mpr c4
   (first | rw [c4b0] | rw [c4b1] | rw [c4b1] | (simp only [i64_w, i32_w]; rw [c4b0]) | skip)
   by_cases c5 : (a0.size : Int) > 1
   ·rw [if_pos c5] at H
    have c5b0 : decide (1 < (a0.size : Int)) = true := decide_eq_true c5
    have c5b1 : decide (1 < a0.size) = true := decide_eq_true (by omega)
    clear c5
    by_cases c6 : 0 < (a0.size : Int)
    ·rw [if_pos c6] at H
     have c6b0 : decide (0 < (a0.size : Int)) = true := decide_eq_true c6
     have c6b1 : decide (0 < a0.size) = true := decide_eq_true (by omega)
     clear c6
     have H' := Aside0.mk H
     clear H
     have p7 : 0 ≤ (0 : Int) := (by omega)
     have q7 : 0 < a0.size := (by have : (0 : Int) < (a0.size : Int) := of_decide_eq_true (by first | (with_reducible assumption) | assumption); omega)
     have hx7 : ∀ h : 0 < a0.size, ((a0[0]'h).toNat : Int) = bt a0 0 := bt_at a0 0
     clear p7
     have qi7 : (0 < (a0.size : Int)) = True := eq_true (of_decide_eq_true (by first | (with_reducible assumption) | assumption))
     replace q7 := eq_true q7
     go_wp2
     go_meet
     case rel => exact ⟨_, (((bt a0 0) == 48)), (by first | rfl | (simp; done) | (simp [*]; done)), H', ⟨by first | omega | exact Nat.le_refl _⟩, ⟨by repeat (first | (with_reducible first | exact HB.out | apply below_alloc | apply pw_below_drewN | apply below_drew1) | exact HB.out)⟩⟩
    ·rw [if_neg c6] at H
     exact absurd H (by simp)
   ·rw [if_neg c5] at H
    have c5b0 : decide (1 < (a0.size : Int)) = false := decide_eq_false c5
    have c5b1 : decide (1 < a0.size) = false := decide_eq_false (by omega)
    clear c5
    have H' := Aside0.mk H
    clear H
    go_wp2
    go_meet
    case rel => exact ⟨_, (false), (by first | rfl | (simp; done) | (simp [*]; done)), H', ⟨by first | omega | exact Nat.le_refl _⟩, ⟨by repeat (first | (with_reducible first | exact HB.out | apply below_alloc | apply pw_below_drewN | apply below_drew1) | exact HB.out)⟩⟩
 case rest =>
  clear HC3
  try clear p2
  try clear c3
  try clear c4
  try clear c4b0
  try clear c4b1
  try clear c5
  try clear c5b0
  try clear c5b1
  try clear c6
  try clear c6b0
  try clear c6b1
  try clear p7
  try clear q7
  try clear hx7
  try clear qi7
  try clear p7
  try clear q7
  obtain ⟨kq, x21_2, rfl, HA, HJ2, HB⟩ := hcut
  cases kq with
  | zero => exact absurd HA.out (by simp [calepinref01_Number.j0])
  | succ kj2 =>
   have H := HA.out
   clear HA
   simp only [calepinref01_Number.j0] at H
   by_cases c8 : x21_2 = true
   ·subst c8
    have H1 : (some (0, false)) = some (r1, r2) := by rw [if_pos rfl] at H; exact H
    clear H
    have H := H1
    clear H1
    simp only [Option.some.injEq, Prod.mk.injEq] at H
    obtain ⟨rfl, rfl⟩ := H
    go_wp2
    go_ret2
    exact ⟨by first | rfl | (simp [errW_none, errW_some] <;> rfl) | (simp [*, errW_none, errW_some] <;> rfl), by repeat (first | (with_reducible first | exact HB.out | apply below_alloc | apply pw_below_drewN | apply below_drew1) | exact HB.out)⟩
   ·replace c8 := Bool.eq_false_iff.mpr c8
    subst c8
    have H1 : (calepinref01_Number.l0 kj2 a0 a1 0 0) = some (r1, r2) := by rw [if_neg (show ¬ (false = true) by decide)] at H; exact H
    clear H
    have H := H1
    clear H1
    have H' := Aside0.mk H
    clear H
    go_wp2
    go_loopg [6, 7] kj2 (fun kq v6 v7 w' => ∃ (x6_2 : Int) (x7_2 : Int), v6 = .int .u64 x6_2 ∧ v7 = .int .i64 x7_2 ∧ Aside0 (calepinref01_Number.l0 kq a0 a1 x6_2 x7_2 = some (r1, r2)) ∧ Aside0 (kq ≤ kj2) ∧ Aside0 (Below w.heap.size w w'))
    case atStart => exact ⟨(0), (0), (by first | rfl | (simp; done) | (simp [*]; done)), (by first | rfl | (simp; done) | (simp [*]; done)), H', ⟨Nat.le_refl _⟩, ⟨by repeat (first | (with_reducible first | exact HB.out | apply below_alloc | apply pw_below_drewN | apply below_drew1) | exact HB.out)⟩⟩
    case round =>
     clear H'
     try clear p2
     try clear c3
     try clear c4
     try clear c4b0
     try clear c4b1
     try clear c5
     try clear c5b0
     try clear c5b1
     try clear c6
     try clear c6b0
     try clear c6b1
     try clear p7
     try clear q7
     try clear hx7
     try clear qi7
     try clear c8
     try clear p2
     try clear p7
     try clear q7
     obtain ⟨x6_2, x7_2, rfl, rfl, HA, HK2, HB⟩ := hrel
     cases gk with
     | zero => exact absurd HA.out (by simp [calepinref01_Number.l0])
     | succ k2 =>
      have H := HA.out
      clear HA
      simp only [calepinref01_Number.l0] at H
      by_cases c9 : x7_2 < (a0.size : Int)
      ·rw [if_pos c9] at H
       have c9b0 : decide (x7_2 < (a0.size : Int)) = true := decide_eq_true c9
       clear c9
       have HC10 := Aside0.mk H
       clear H
       go_upto_region 7 with (fail)
       go_cut [37] (fun v37 wc => ∃ (kq : Nat) (x37_9 : Bool), v37 = .bool x37_9 ∧ Aside0 (calepinref01_Number.j2 kq a0 a1 x6_2 x7_2 x37_9 = some (r1, r2)) ∧ Aside0 (kq ≤ k2) ∧ Aside0 (Below w.heap.size w wc))
       case first =>
        have H := HC10.out
        clear HC10
        by_cases c11 : 0 ≤ x7_2
        ·rw [if_pos c11] at H
         have c11b0 : decide (0 ≤ x7_2) = true := decide_eq_true c11
         clear c11
         (first | rw [c11b0] | (simp only [i64_w, i32_w]; rw [c11b0]) | skip)
         by_cases c13 : (bt a0 x7_2) < 48
         ·rw [if_pos c13] at H
          have c13b0 : decide ((bt a0 x7_2) < 48) = true := decide_eq_true c13
          clear c13
          have H' := Aside0.mk H
          clear H
          have p12 : 0 ≤ (x7_2 : Int) := of_decide_eq_true (by first | (with_reducible assumption) | assumption)
          have q12 : x7_2 < (a0.size : Int) := of_decide_eq_true (by first | (with_reducible assumption) | assumption)
          have hx12 := bt_at a0 x7_2
          replace p12 := eq_true p12
          replace q12 := eq_true q12
          go_wp2
          go_meet
          case rel => exact ⟨_, (true), (by first | rfl | (simp; done) | (simp [*]; done)), H', ⟨by have := HJ2.out; have := HK2.out; first | omega | exact Nat.le_refl _⟩, ⟨by repeat (first | (with_reducible first | exact HB.out | apply below_alloc | apply pw_below_drewN | apply below_drew1) | exact HB.out)⟩⟩
         ·rw [if_neg c13] at H
          have c13b0 : decide ((bt a0 x7_2) < 48) = false := decide_eq_false c13
          clear c13
          have H' := Aside0.mk H
          clear H
          have p12 : 0 ≤ (x7_2 : Int) := of_decide_eq_true (by first | (with_reducible assumption) | assumption)
          have q12 : x7_2 < (a0.size : Int) := of_decide_eq_true (by first | (with_reducible assumption) | assumption)
          have hx12 := bt_at a0 x7_2
          replace p12 := eq_true p12
          replace q12 := eq_true q12
          have p14 : 0 ≤ (x7_2 : Int) := of_decide_eq_true (by first | (with_reducible assumption) | assumption)
          have q14 : x7_2 < (a0.size : Int) := of_decide_eq_true (by first | (with_reducible assumption) | assumption)
          have hx14 := bt_at a0 x7_2
          replace p14 := eq_true p14
          replace q14 := eq_true q14
          go_wp2
          go_meet
          case rel => exact ⟨_, (decide ((bt a0 x7_2) > 57)), (by first | rfl | (simp; done) | (simp [*]; done)), H', ⟨by have := HJ2.out; have := HK2.out; first | omega | exact Nat.le_refl _⟩, ⟨by repeat (first | (with_reducible first | exact HB.out | apply below_alloc | apply pw_below_drewN | apply below_drew1) | exact HB.out)⟩⟩
        ·rw [if_neg c11] at H
         exact absurd H (by simp)
       case rest =>
        clear HC10
        try clear c1
        try clear p1
        try clear q1
        try clear hx1
        try clear p2
        try clear c3
        try clear c4
        try clear c4b0
        try clear c4b1
        try clear c5
        try clear c5b0
        try clear c5b1
        try clear c6
        try clear c6b0
        try clear c6b1
        try clear p7
        try clear q7
        try clear hx7
        try clear qi7
        try clear c8
        try clear c9
        try clear c9b0
        try clear c11
        try clear c11b0
        try clear p12
        try clear q12
        try clear hx12
        try clear c13
        try clear c13b0
        try clear p14
        try clear q14
        try clear hx14
        try clear p12
        try clear p14
        try clear p2
        try clear p7
        try clear q12
        try clear q14
        try clear q7
        obtain ⟨kq, x37_9, rfl, HA, HJ9, HB⟩ := hcut
        cases kq with
        | zero => exact absurd HA.out (by simp [calepinref01_Number.j2])
        | succ kj9 =>
         have H := HA.out
         clear HA
         simp only [calepinref01_Number.j2] at H
         by_cases c15 : x37_9 = true
         ·subst c15
          have H1 : (some (0, false)) = some (r1, r2) := by rw [if_pos rfl] at H; exact H
          clear H
          have H := H1
          clear H1
          simp only [Option.some.injEq, Prod.mk.injEq] at H
          obtain ⟨rfl, rfl⟩ := H
          go_wp2
          go_ret2
          exact ⟨by first | rfl | (simp [errW_none, errW_some] <;> rfl) | (simp [*, errW_none, errW_some] <;> rfl), by repeat (first | (with_reducible first | exact HB.out | apply below_alloc | apply pw_below_drewN | apply below_drew1) | exact HB.out)⟩
         ·replace c15 := Bool.eq_false_iff.mpr c15
          subst c15
          have H1 : (if 0 ≤ x7_2 then (if x7_2 < (a0.size : Int) then (if x6_2 > (IntKind.u64.wrap (Int.tdiv a1 10)) then (some (0, false)) else (if (IntKind.u64.wrap (10 * x6_2)) > (IntKind.u64.wrap (a1 - (mn a1 (((bt a0 x7_2) - 48) % 256)))) then (some (0, false)) else (if (((bt a0 x7_2) - 48) % 256) > a1 then (some (0, false)) else (calepinref01_Number.l0 kj9 a0 a1 (IntKind.u64.wrap ((IntKind.u64.wrap (10 * x6_2)) + (((bt a0 x7_2) - 48) % 256))) (wrap64 (x7_2 + 1)))))) else (none)) else (none)) = some (r1, r2) := by rw [if_neg (show ¬ (false = true) by decide)] at H; exact H
          clear H
          have H := H1
          clear H1
          by_cases c16 : 0 ≤ x7_2
          ·rw [if_pos c16] at H
           have c16b0 : decide (0 ≤ x7_2) = true := decide_eq_true c16
           clear c16
           by_cases c17 : x7_2 < (a0.size : Int)
           ·rw [if_pos c17] at H
            have c17b0 : decide (x7_2 < (a0.size : Int)) = true := decide_eq_true c17
            clear c17
            by_cases c19 : x6_2 > (IntKind.u64.wrap (Int.tdiv a1 10))
            ·rw [if_pos c19] at H
             have c19b0 : decide ((IntKind.u64.wrap (Int.tdiv a1 10)) < x6_2) = true := decide_eq_true c19
             clear c19
             simp only [Option.some.injEq, Prod.mk.injEq] at H
             obtain ⟨rfl, rfl⟩ := H
             have p18 : 0 ≤ (x7_2 : Int) := of_decide_eq_true (by first | (with_reducible assumption) | assumption)
             have q18 : x7_2 < (a0.size : Int) := of_decide_eq_true (by first | (with_reducible assumption) | assumption)
             have hx18 := bt_at a0 x7_2
             replace p18 := eq_true p18
             replace q18 := eq_true q18
             go_wp2
             go_ret2
             exact ⟨by first | rfl | (simp [errW_none, errW_some] <;> rfl) | (simp [*, errW_none, errW_some] <;> rfl), by repeat (first | (with_reducible first | exact HB.out | apply below_alloc | apply pw_below_drewN | apply below_drew1) | exact HB.out)⟩
            ·rw [if_neg c19] at H
             have c19b0 : decide ((IntKind.u64.wrap (Int.tdiv a1 10)) < x6_2) = false := decide_eq_false c19
             clear c19
             obtain ⟨ji20, hji20⟩ : ∃ j_ : Int, (mn a1 (((bt a0 x7_2) - 48) % 256)) = j_ := ⟨_, rfl⟩
             replace H : (if (IntKind.u64.wrap (10 * x6_2)) > (IntKind.u64.wrap (a1 - (ji20))) then (some (0, false)) else (if (((bt a0 x7_2) - 48) % 256) > a1 then (some (0, false)) else (calepinref01_Number.l0 kj9 a0 a1 (IntKind.u64.wrap ((IntKind.u64.wrap (10 * x6_2)) + (((bt a0 x7_2) - 48) % 256))) (wrap64 (x7_2 + 1))))) = some (r1, r2) := by first | (rw [hji20] at H; exact H) | (simp only [hji20] at H ⊢; exact H)
             have hji20_ : (if (((bt a0 x7_2) - 48) % 256) < a1 then (((bt a0 x7_2) - 48) % 256) else a1) = ji20 := hji20
             by_cases c21 : (IntKind.u64.wrap (10 * x6_2)) > (IntKind.u64.wrap (a1 - (ji20)))
             ·rw [if_pos c21] at H
              have c21b0 : decide ((IntKind.u64.wrap (a1 - (ji20))) < (IntKind.u64.wrap (10 * x6_2))) = true := decide_eq_true c21
              clear c21
              simp only [Option.some.injEq, Prod.mk.injEq] at H
              obtain ⟨rfl, rfl⟩ := H
              have p18 : 0 ≤ (x7_2 : Int) := of_decide_eq_true (by first | (with_reducible assumption) | assumption)
              have q18 : x7_2 < (a0.size : Int) := of_decide_eq_true (by first | (with_reducible assumption) | assumption)
              have hx18 := bt_at a0 x7_2
              replace p18 := eq_true p18
              replace q18 := eq_true q18
              go_wp2
              go_ret2
              exact ⟨by first | rfl | (simp [errW_none, errW_some] <;> rfl) | (simp only [← hji20]; first | rfl | (simp [errW_none, errW_some] <;> rfl)) | (simp [*, errW_none, errW_some] <;> rfl), by repeat (first | (with_reducible first | exact HB.out | apply below_alloc | apply pw_below_drewN | apply below_drew1) | exact HB.out)⟩
             ·rw [if_neg c21] at H
              have c21b0 : decide ((IntKind.u64.wrap (a1 - (ji20))) < (IntKind.u64.wrap (10 * x6_2))) = false := decide_eq_false c21
              clear c21
              by_cases c22 : (((bt a0 x7_2) - 48) % 256) > a1
              ·rw [if_pos c22] at H
               have c22b0 : decide (a1 < (((bt a0 x7_2) - 48) % 256)) = true := decide_eq_true c22
               clear c22
               simp only [Option.some.injEq, Prod.mk.injEq] at H
               obtain ⟨rfl, rfl⟩ := H
               have p18 : 0 ≤ (x7_2 : Int) := of_decide_eq_true (by first | (with_reducible assumption) | assumption)
               have q18 : x7_2 < (a0.size : Int) := of_decide_eq_true (by first | (with_reducible assumption) | assumption)
               have hx18 := bt_at a0 x7_2
               replace p18 := eq_true p18
               replace q18 := eq_true q18
               go_wp2
               go_ret2
               exact ⟨by first | rfl | (simp [errW_none, errW_some] <;> rfl) | (simp only [← hji20]; first | rfl | (simp [errW_none, errW_some] <;> rfl)) | (simp [*, errW_none, errW_some] <;> rfl), by repeat (first | (with_reducible first | exact HB.out | apply below_alloc | apply pw_below_drewN | apply below_drew1) | exact HB.out)⟩
              ·rw [if_neg c22] at H
               have c22b0 : decide (a1 < (((bt a0 x7_2) - 48) % 256)) = false := decide_eq_false c22
               clear c22
               have H' := Aside0.mk H
               clear H
               have p18 : 0 ≤ (x7_2 : Int) := of_decide_eq_true (by first | (with_reducible assumption) | assumption)
               have q18 : x7_2 < (a0.size : Int) := of_decide_eq_true (by first | (with_reducible assumption) | assumption)
               have hx18 := bt_at a0 x7_2
               replace p18 := eq_true p18
               replace q18 := eq_true q18
               go_wp2
               go_roundg kj9
               case measure => have := HJ2.out; have := HK2.out; have := HJ9.out; omega
               case rel => exact ⟨(IntKind.u64.wrap ((IntKind.u64.wrap (10 * x6_2)) + (((bt a0 x7_2) - 48) % 256))), (wrap64 (x7_2 + 1)), (by first | rfl | (simp; done) | (simp [*]; done)), (by first | rfl | (simp; done) | (simp [*]; done)), H', ⟨by have := HJ2.out; have := HK2.out; have := HJ9.out; omega⟩, ⟨by repeat (first | (with_reducible first | exact HB.out | apply below_alloc | apply pw_below_drewN | apply below_drew1) | exact HB.out)⟩⟩
           ·rw [if_neg c17] at H
            exact absurd H (by simp)
          ·rw [if_neg c16] at H
           exact absurd H (by simp)
      ·rw [if_neg c9] at H
       have c9b0 : decide (x7_2 < (a0.size : Int)) = false := decide_eq_false c9
       clear c9
       simp only [Option.some.injEq, Prod.mk.injEq] at H
       obtain ⟨rfl, rfl⟩ := H
       go_wp2
       go_ret2
       exact ⟨by first | rfl | (simp [errW_none, errW_some] <;> rfl) | (simp [*, errW_none, errW_some] <;> rfl), by repeat (first | (with_reducible first | exact HB.out | apply below_alloc | apply pw_below_drewN | apply below_drew1) | exact HB.out)⟩

mutual
def calepinref08_Fields.l0 : Nat → List ByteArray → List (S62) → Int → List ByteArray → Int → Int → Option ((List (S62)) × Int × Bool)
 | 0, _, _, _, _, _, _ => none
 | k + 1, x0, x5, x6, x15, x16, x17 => if x17 < x16 then (if 0 ≤ x17 then (if x17 < (x15.length : Int) then ((calepinref08_Cut.f k (rdOf ByteArray.empty x15 x17) 58).bind fun bt209 => ((calepinref08_Trim.f k bt209.2.1).bind fun t212 => ((calepinref01_Lower.f k bt209.1).bind fun t213 => (if bt209.2.2 = true then ((calepinref08_Name.f k bt209.1).bind fun t214 => (if t214 = true then ((calepinref08_Range.f k t212 32 126 true).bind fun t215 => (if t215 = true then (calepinref08_Fields.j1 k x0 x5 x6 bt209.1 t212 t213 x15 x16 x17 (t213.toList == ([116, 114, 97, 110, 115, 102, 101, 114, 45, 101, 110, 99, 111, 100, 105, 110, 103] : List UInt8))) else (calepinref08_Fields.j1 k x0 x5 x6 bt209.1 t212 t213 x15 x16 x17 true))) else (calepinref08_Fields.j1 k x0 x5 x6 bt209.1 t212 t213 x15 x16 x17 true))) else (calepinref08_Fields.j1 k x0 x5 x6 bt209.1 t212 t213 x15 x16 x17 true))))) else (none)) else (none)) else (some (x5, mx x6 0, decide ((x0.length : Int) ≤ 32)))
def calepinref08_Fields.j1 : Nat → List ByteArray → List (S62) → Int → ByteArray → ByteArray → ByteArray → List ByteArray → Int → Int → Bool → Option ((List (S62)) × Int × Bool)
 | 0, _, _, _, _, _, _, _, _, _, _ => none
 | k + 1, x0, x5, x6, x9, x10, x12, x15, x16, x17, x46 => if x46 = true then (some (([] : List (S62)), 0, false)) else (if x12.toList = ([99, 111, 110, 116, 101, 110, 116, 45, 108, 101, 110, 103, 116, 104] : List UInt8) then ((calepinref01_Number.f k x10 65536).bind fun bt216 => (if bt216.2 = true then (if x6 ≥ 0 then (some (([] : List (S62)), 0, false)) else (calepinref08_Fields.l0 k x0 x5 (wrap64 (bt216.1)) x15 x16 (wrap64 (x17 + 1)))) else (some (([] : List (S62)), 0, false)))) else (if x5.length < 4398046511104 then (calepinref08_Fields.l0 k x0 (x5 ++ [(⟨x9, x10⟩ : S62)]) x6 x15 x16 (wrap64 (x17 + 1))) else (none)))
end
def calepinref08_Fields.f (k : Nat) (l0 : List ByteArray) : Option ((List (S62)) × Int × Bool) := calepinref08_Fields.l0 k l0 ([] : List (S62)) (-1) l0 (l0.length : Int) 0
set_option maxHeartbeats 8000000 in
set_option maxRecDepth 100000 in
theorem calepinref08_Fields.calls (k : Nat) (A0 : Option Addr) (c0 : Nat) (l0 : List ByteArray) (r1 : List (S62)) (r2 : Int) (r3 : Bool) (w : World) (hr0 : Kd.C Kd.string w A0 l0.length l0) (hc0 : l0.length ≤ c0) (hT : LaidM w) (h : calepinref08_Fields.f k l0 = some (r1, r2, r3)) :
  Calls Tryz.prog 24 #[.slice A0 l0.length c0] w fun e w' => ∃ v0_ : Value, e = .returned (.tuple #[v0_, .int .i64 r2, .bool r3]) ∧ Kd.R k62 62 w' w.heap.size (fun _ => True) v0_ r1 ∧ Below w.heap.size w w' := by
 have hu62 := Tryz.underlying62
 have HR0 := Aside0.mk hr0
 have HC0 := Aside0.mk hc0
 clear hr0 hc0
 have HB := Aside0.mk (Below.refl w.heap.size w)
 have HT := Aside0.mk hT
 clear hT
 have H : (calepinref08_Fields.l0 k l0 ([] : List (S62)) (-1) l0 (l0.length : Int) 0) = some (r1, r2, r3) := h
 clear h
 have H' := Aside0.mk H
 clear H
 go_enter Tryz.func24, Tryz.ntmps24
 go_wp2
 go_loopg [5, 6, 17] k (fun kq v5 v6 v17 w' => ∃ (x5_1 : List (S62)) (x6_1 : Int) (x17_1 : Int), v6 = .int .i64 x6_1 ∧ v17 = .int .i64 x17_1 ∧ Aside0 (calepinref08_Fields.l0 kq l0 x5_1 x6_1 l0 (l0.length : Int) x17_1 = some (r1, r2, r3)) ∧ Aside0 (kq ≤ k) ∧ Aside0 (Kd.R k62 62 w' w.heap.size (fun _ => True) v5 x5_1) ∧ Aside0 (Below w.heap.size w w'))
 case atStart => exact ⟨(([] : List (S62))), ((-1)), (0), (by first | rfl | (simp; done) | (simp [*]; done)), (by first | rfl | (simp; done) | (simp [*]; done)), H', ⟨Nat.le_refl _⟩, ⟨by first | exact Kd.R_nil _ _ _ _ _ | exact Kd.N_nil _ _ _ _ _ | exact Kd.V_nil _ _ _ _ _ | exact Kd.Q_nil _ _ _ _ _ | exact Kd.S_nil _ _ _ _ _⟩, ⟨by repeat (first | (with_reducible first | exact HB.out | apply below_alloc | apply pw_below_drewN | apply below_drew1) | exact HB.out)⟩⟩
 case round =>
  clear H'
  obtain ⟨x5_1, x6_1, x17_1, rfl, rfl, HA, HK1, HO_5, HB⟩ := hrel
  cases gk with
  | zero => exact absurd HA.out (by simp [calepinref08_Fields.l0])
  | succ k1 =>
   have H := HA.out
   clear HA
   simp only [calepinref08_Fields.l0] at H
   by_cases c2 : x17_1 < (l0.length : Int)
   ·rw [if_pos c2] at H
    have c2b0 : decide (x17_1 < (l0.length : Int)) = true := decide_eq_true c2
    clear c2
    by_cases c3 : 0 ≤ x17_1
    ·rw [if_pos c3] at H
     have c3b0 : decide (0 ≤ x17_1) = true := decide_eq_true c3
     clear c3
     by_cases c4 : x17_1 < (l0.length : Int)
     ·rw [if_pos c4] at H
      have c4b0 : decide (x17_1 < (l0.length : Int)) = true := decide_eq_true c4
      clear c4
      replace H := Option.bind_eq_some_iff.mp H
      obtain ⟨⟨t209, t210, t211⟩, A50, H⟩ := H
      replace H : ((calepinref08_Trim.f k1 t210).bind fun t212 => ((calepinref01_Lower.f k1 t209).bind fun t213 => (if t211 = true then ((calepinref08_Name.f k1 t209).bind fun t214 => (if t214 = true then ((calepinref08_Range.f k1 t212 32 126 true).bind fun t215 => (if t215 = true then (calepinref08_Fields.j1 k1 l0 x5_1 x6_1 t209 t212 t213 l0 (l0.length : Int) x17_1 (t213.toList == ([116, 114, 97, 110, 115, 102, 101, 114, 45, 101, 110, 99, 111, 100, 105, 110, 103] : List UInt8))) else (calepinref08_Fields.j1 k1 l0 x5_1 x6_1 t209 t212 t213 l0 (l0.length : Int) x17_1 true))) else (calepinref08_Fields.j1 k1 l0 x5_1 x6_1 t209 t212 t213 l0 (l0.length : Int) x17_1 true))) else (calepinref08_Fields.j1 k1 l0 x5_1 x6_1 t209 t212 t213 l0 (l0.length : Int) x17_1 true)))) = some (r1, r2, r3) := H
      have A5 := Aside0.mk A50
      clear A50
      replace H := Option.bind_eq_some_iff.mp H
      obtain ⟨t212, A60, H⟩ := H
      replace H : ((calepinref01_Lower.f k1 t209).bind fun t213 => (if t211 = true then ((calepinref08_Name.f k1 t209).bind fun t214 => (if t214 = true then ((calepinref08_Range.f k1 t212 32 126 true).bind fun t215 => (if t215 = true then (calepinref08_Fields.j1 k1 l0 x5_1 x6_1 t209 t212 t213 l0 (l0.length : Int) x17_1 (t213.toList == ([116, 114, 97, 110, 115, 102, 101, 114, 45, 101, 110, 99, 111, 100, 105, 110, 103] : List UInt8))) else (calepinref08_Fields.j1 k1 l0 x5_1 x6_1 t209 t212 t213 l0 (l0.length : Int) x17_1 true))) else (calepinref08_Fields.j1 k1 l0 x5_1 x6_1 t209 t212 t213 l0 (l0.length : Int) x17_1 true))) else (calepinref08_Fields.j1 k1 l0 x5_1 x6_1 t209 t212 t213 l0 (l0.length : Int) x17_1 true))) = some (r1, r2, r3) := H
      have A6 := Aside0.mk A60
      clear A60
      replace H := Option.bind_eq_some_iff.mp H
      obtain ⟨t213, A70, H⟩ := H
      replace H : (if t211 = true then ((calepinref08_Name.f k1 t209).bind fun t214 => (if t214 = true then ((calepinref08_Range.f k1 t212 32 126 true).bind fun t215 => (if t215 = true then (calepinref08_Fields.j1 k1 l0 x5_1 x6_1 t209 t212 t213 l0 (l0.length : Int) x17_1 (t213.toList == ([116, 114, 97, 110, 115, 102, 101, 114, 45, 101, 110, 99, 111, 100, 105, 110, 103] : List UInt8))) else (calepinref08_Fields.j1 k1 l0 x5_1 x6_1 t209 t212 t213 l0 (l0.length : Int) x17_1 true))) else (calepinref08_Fields.j1 k1 l0 x5_1 x6_1 t209 t212 t213 l0 (l0.length : Int) x17_1 true))) else (calepinref08_Fields.j1 k1 l0 x5_1 x6_1 t209 t212 t213 l0 (l0.length : Int) x17_1 true)) = some (r1, r2, r3) := H
      have A7 := Aside0.mk A70
      clear A70
      have HC8 := Aside0.mk H
      clear H
      have p208 : 0 ≤ (x17_1 : Int) := of_decide_eq_true (by first | (with_reducible assumption) | assumption)
      have q208 : x17_1 < (l0.length : Int) := of_decide_eq_true (by first | (with_reducible assumption) | assumption)
      obtain ⟨ad208, e208, hx208_0⟩ := Kd.at_string HR0.out x17_1 p208 q208
      cases e208
      replace hx208_0 := (HB.out.cell (World.block_lt_of_cell? w _ hx208_0)).trans hx208_0
      replace p208 := eq_true p208
      replace q208 := eq_true q208
      go_upto_region 9 with (first | ((with_reducible refine gate_callee (f := 23) rfl ?_); refine goesL_ (some 23) rfl rfl Tryz.func23 (by kernel_rfl) rfl #[.string (rdOf ByteArray.empty l0 x17_1), .int .u8 58] rfl (by (try simp only [List.map_toArray, List.map_cons, List.map_nil]); first | done | rfl | (simp only [List.length_drop, List.length_take]; rfl)) ?_; (with_reducible refine (calepinref08_Cut.calls k1 (rdOf ByteArray.empty l0 x17_1) 58 t209 t210 t211 _ A5.out).mono ?_); rintro e w' ⟨rfl, ⟨nd, rfl⟩⟩; refine ⟨_, rfl, ?_⟩) | ((with_reducible refine gate_callee (f := 33) rfl ?_); refine goesL_ (some 28) rfl rfl Tryz.func33 (by kernel_rfl) rfl #[.string t210] rfl (by (try simp only [List.map_toArray, List.map_cons, List.map_nil]); first | done | rfl | (simp only [List.length_drop, List.length_take]; rfl)) ?_; (with_reducible refine (calepinref08_Trim.calls k1 t210 t212 _ A6.out).mono ?_); rintro e w' ⟨rfl, ⟨nd, rfl⟩⟩; refine ⟨_, rfl, ?_⟩) | ((with_reducible refine gate_callee (f := 31) rfl ?_); refine goesL_ (some 30) rfl rfl Tryz.func31 (by kernel_rfl) rfl #[.string t209] rfl (by (try simp only [List.map_toArray, List.map_cons, List.map_nil]); first | done | rfl | (simp only [List.length_drop, List.length_take]; rfl)) ?_; (with_reducible refine (calepinref01_Lower.calls k1 t209 t213 _ ?side1 A7.out).mono ?_); (case side1 => exact LaidM.below HT.out (by repeat (first | (with_reducible first | exact HB.out | apply below_alloc | apply pw_below_drewN | apply below_drew1) | exact HB.out))); rintro e w9 ⟨rfl, hb⟩; refine ⟨_, rfl, ?_⟩; have n0_ := Aside0.mk (Kd.R_below (by (with_reducible repeat (first | apply Kd.R_alloc | apply Kd.R_drewN | apply Kd.R_drew)); exact HO_5.out) hb); have n1_ := Aside0.mk (below_step (by repeat (first | (with_reducible first | exact HB.out | apply below_alloc | apply pw_below_drewN | apply below_drew1) | exact HB.out)) hb); clear HO_5; clear HB; have HO_5 := n0_; have HB := n1_; clear n0_ n1_; (try clear hb); (try clear hb2); (try clear hk); (try clear hi)))
      (try simp only [Act.put, List.setIfInBounds_toArray, List.set_cons_zero, List.set_cons_succ])
      go_cut [46] (fun v46 wc => ∃ (kq : Nat) (x46_7 : Bool), v46 = .bool x46_7 ∧ Aside0 (calepinref08_Fields.j1 kq l0 x5_1 x6_1 t209 t212 t213 l0 (l0.length : Int) x17_1 x46_7 = some (r1, r2, r3)) ∧ Aside0 (kq ≤ k1) ∧ Aside0 (Kd.R k62 62 wc w.heap.size (fun _ => True) u5 x5_1) ∧ Aside0 (Below w.heap.size w wc))
      case first =>
       have H := HC8.out
       clear HC8
       by_cases c10 : t211 = true
       ·subst c10
        have H1 : ((calepinref08_Name.f k1 t209).bind fun t214 => (if t214 = true then ((calepinref08_Range.f k1 t212 32 126 true).bind fun t215 => (if t215 = true then (calepinref08_Fields.j1 k1 l0 x5_1 x6_1 t209 t212 t213 l0 (l0.length : Int) x17_1 (t213.toList == ([116, 114, 97, 110, 115, 102, 101, 114, 45, 101, 110, 99, 111, 100, 105, 110, 103] : List UInt8))) else (calepinref08_Fields.j1 k1 l0 x5_1 x6_1 t209 t212 t213 l0 (l0.length : Int) x17_1 true))) else (calepinref08_Fields.j1 k1 l0 x5_1 x6_1 t209 t212 t213 l0 (l0.length : Int) x17_1 true))) = some (r1, r2, r3) := by rw [if_pos rfl] at H; exact H
        clear H
        have H := H1
        clear H1
        replace H := Option.bind_eq_some_iff.mp H
        obtain ⟨t214, A110, H⟩ := H
        replace H : (if t214 = true then ((calepinref08_Range.f k1 t212 32 126 true).bind fun t215 => (if t215 = true then (calepinref08_Fields.j1 k1 l0 x5_1 x6_1 t209 t212 t213 l0 (l0.length : Int) x17_1 (t213.toList == ([116, 114, 97, 110, 115, 102, 101, 114, 45, 101, 110, 99, 111, 100, 105, 110, 103] : List UInt8))) else (calepinref08_Fields.j1 k1 l0 x5_1 x6_1 t209 t212 t213 l0 (l0.length : Int) x17_1 true))) else (calepinref08_Fields.j1 k1 l0 x5_1 x6_1 t209 t212 t213 l0 (l0.length : Int) x17_1 true)) = some (r1, r2, r3) := H
        have A11 := Aside0.mk A110
        clear A110
        by_cases c12 : t214 = true
        ·subst c12
         have H1 : ((calepinref08_Range.f k1 t212 32 126 true).bind fun t215 => (if t215 = true then (calepinref08_Fields.j1 k1 l0 x5_1 x6_1 t209 t212 t213 l0 (l0.length : Int) x17_1 (t213.toList == ([116, 114, 97, 110, 115, 102, 101, 114, 45, 101, 110, 99, 111, 100, 105, 110, 103] : List UInt8))) else (calepinref08_Fields.j1 k1 l0 x5_1 x6_1 t209 t212 t213 l0 (l0.length : Int) x17_1 true))) = some (r1, r2, r3) := by rw [if_pos rfl] at H; exact H
         clear H
         have H := H1
         clear H1
         replace H := Option.bind_eq_some_iff.mp H
         obtain ⟨t215, A130, H⟩ := H
         replace H : (if t215 = true then (calepinref08_Fields.j1 k1 l0 x5_1 x6_1 t209 t212 t213 l0 (l0.length : Int) x17_1 (t213.toList == ([116, 114, 97, 110, 115, 102, 101, 114, 45, 101, 110, 99, 111, 100, 105, 110, 103] : List UInt8))) else (calepinref08_Fields.j1 k1 l0 x5_1 x6_1 t209 t212 t213 l0 (l0.length : Int) x17_1 true)) = some (r1, r2, r3) := H
         have A13 := Aside0.mk A130
         clear A130
         by_cases c14 : t215 = true
         ·subst c14
          have H1 : (calepinref08_Fields.j1 k1 l0 x5_1 x6_1 t209 t212 t213 l0 (l0.length : Int) x17_1 (t213.toList == ([116, 114, 97, 110, 115, 102, 101, 114, 45, 101, 110, 99, 111, 100, 105, 110, 103] : List UInt8))) = some (r1, r2, r3) := by rw [if_pos rfl] at H; exact H
          clear H
          have H := H1
          clear H1
          have H' := Aside0.mk H
          clear H
          go_wp2_with (first | (go_at_call 32; (with_reducible refine (calepinref08_Name.calls k1 t209 true _ A11.out).mono ?_); rintro e w' ⟨rfl, ⟨nd, rfl⟩⟩) | (go_at_call 29; (with_reducible refine (calepinref08_Range.calls k1 t212 32 126 true true _ A13.out).mono ?_); rintro e w' ⟨rfl, ⟨nd, rfl⟩⟩))
          go_meet
          case rel => exact ⟨_, ((t213.toList == ([116, 114, 97, 110, 115, 102, 101, 114, 45, 101, 110, 99, 111, 100, 105, 110, 103] : List UInt8))), (by first | rfl | (simp; done) | (simp [*]; done)), H', ⟨by have := HK1.out; first | omega | exact Nat.le_refl _⟩, ⟨by (with_reducible repeat (first | apply Kd.R_alloc | apply Kd.R_drewN | apply Kd.R_drew)); exact HO_5.out⟩, ⟨by repeat (first | (with_reducible first | exact HB.out | apply below_alloc | apply pw_below_drewN | apply below_drew1) | exact HB.out)⟩⟩
         ·replace c14 := Bool.eq_false_iff.mpr c14
          subst c14
          have H1 : (calepinref08_Fields.j1 k1 l0 x5_1 x6_1 t209 t212 t213 l0 (l0.length : Int) x17_1 true) = some (r1, r2, r3) := by rw [if_neg (show ¬ (false = true) by decide)] at H; exact H
          clear H
          have H := H1
          clear H1
          have H' := Aside0.mk H
          clear H
          go_wp2_with (first | (go_at_call 32; (with_reducible refine (calepinref08_Name.calls k1 t209 true _ A11.out).mono ?_); rintro e w' ⟨rfl, ⟨nd, rfl⟩⟩) | (go_at_call 29; (with_reducible refine (calepinref08_Range.calls k1 t212 32 126 true false _ A13.out).mono ?_); rintro e w' ⟨rfl, ⟨nd, rfl⟩⟩))
          go_meet
          case rel => exact ⟨_, (true), (by first | rfl | (simp; done) | (simp [*]; done)), H', ⟨by have := HK1.out; first | omega | exact Nat.le_refl _⟩, ⟨by (with_reducible repeat (first | apply Kd.R_alloc | apply Kd.R_drewN | apply Kd.R_drew)); exact HO_5.out⟩, ⟨by repeat (first | (with_reducible first | exact HB.out | apply below_alloc | apply pw_below_drewN | apply below_drew1) | exact HB.out)⟩⟩
        ·replace c12 := Bool.eq_false_iff.mpr c12
         subst c12
         have H1 : (calepinref08_Fields.j1 k1 l0 x5_1 x6_1 t209 t212 t213 l0 (l0.length : Int) x17_1 true) = some (r1, r2, r3) := by rw [if_neg (show ¬ (false = true) by decide)] at H; exact H
         clear H
         have H := H1
         clear H1
         have H' := Aside0.mk H
         clear H
         go_wp2_with (first | (go_at_call 32; (with_reducible refine (calepinref08_Name.calls k1 t209 false _ A11.out).mono ?_); rintro e w' ⟨rfl, ⟨nd, rfl⟩⟩))
         go_meet
         case rel => exact ⟨_, (true), (by first | rfl | (simp; done) | (simp [*]; done)), H', ⟨by have := HK1.out; first | omega | exact Nat.le_refl _⟩, ⟨by (with_reducible repeat (first | apply Kd.R_alloc | apply Kd.R_drewN | apply Kd.R_drew)); exact HO_5.out⟩, ⟨by repeat (first | (with_reducible first | exact HB.out | apply below_alloc | apply pw_below_drewN | apply below_drew1) | exact HB.out)⟩⟩
       ·replace c10 := Bool.eq_false_iff.mpr c10
        subst c10
        have H1 : (calepinref08_Fields.j1 k1 l0 x5_1 x6_1 t209 t212 t213 l0 (l0.length : Int) x17_1 true) = some (r1, r2, r3) := by rw [if_neg (show ¬ (false = true) by decide)] at H; exact H
        clear H
        have H := H1
        clear H1
        have H' := Aside0.mk H
        clear H
        go_wp2
        go_meet
        case rel => exact ⟨_, (true), (by first | rfl | (simp; done) | (simp [*]; done)), H', ⟨by have := HK1.out; first | omega | exact Nat.le_refl _⟩, ⟨by (with_reducible repeat (first | apply Kd.R_alloc | apply Kd.R_drewN | apply Kd.R_drew)); exact HO_5.out⟩, ⟨by repeat (first | (with_reducible first | exact HB.out | apply below_alloc | apply pw_below_drewN | apply below_drew1) | exact HB.out)⟩⟩
      case rest =>
       clear HC8
       try clear c1
       try clear c2
       try clear c2b0
       try clear p2
       try clear q2
       try clear hx2
       try clear c3
       try clear c3b0
       try clear c4
       try clear c4b0
       try clear c10
       try clear c12
       try clear c14
       try clear hx208_0
       try clear p208
       try clear q208
       obtain ⟨kq, x46_7, rfl, HA, HJ7, HO_5, HB⟩ := hcut
       cases kq with
       | zero => exact absurd HA.out (by simp [calepinref08_Fields.j1])
       | succ kj7 =>
        have H := HA.out
        clear HA
        simp only [calepinref08_Fields.j1] at H
        by_cases c15 : x46_7 = true
        ·subst c15
         have H1 : (some (([] : List (S62)), 0, false)) = some (r1, r2, r3) := by rw [if_pos rfl] at H; exact H
         clear H
         have H := H1
         clear H1
         simp only [Option.some.injEq, Prod.mk.injEq] at H
         obtain ⟨rfl, rfl, rfl⟩ := H
         go_wp2
         go_ret3
         exact ⟨_, by first | rfl | (simp [errW_none, errW_some] <;> rfl) | (simp [*, errW_none, errW_some] <;> rfl), by first | exact Kd.R_nil _ _ _ _ _ | exact Kd.N_nil _ _ _ _ _ | exact Kd.V_nil _ _ _ _ _ | exact Kd.Q_nil _ _ _ _ _ | exact Kd.S_nil _ _ _ _ _, by repeat (first | (with_reducible first | exact HB.out | apply below_alloc | apply pw_below_drewN | apply below_drew1) | exact HB.out)⟩
        ·replace c15 := Bool.eq_false_iff.mpr c15
         subst c15
         have H1 : (if t213.toList = ([99, 111, 110, 116, 101, 110, 116, 45, 108, 101, 110, 103, 116, 104] : List UInt8) then ((calepinref01_Number.f kj7 t212 65536).bind fun bt216 => (if bt216.2 = true then (if x6_1 ≥ 0 then (some (([] : List (S62)), 0, false)) else (calepinref08_Fields.l0 kj7 l0 x5_1 (wrap64 (bt216.1)) l0 (l0.length : Int) (wrap64 (x17_1 + 1)))) else (some (([] : List (S62)), 0, false)))) else (if x5_1.length < 4398046511104 then (calepinref08_Fields.l0 kj7 l0 (x5_1 ++ [(⟨t209, t212⟩ : S62)]) x6_1 l0 (l0.length : Int) (wrap64 (x17_1 + 1))) else (none))) = some (r1, r2, r3) := by rw [if_neg (show ¬ (false = true) by decide)] at H; exact H
         clear H
         have H := H1
         clear H1
         by_cases c16 : t213.toList = ([99, 111, 110, 116, 101, 110, 116, 45, 108, 101, 110, 103, 116, 104] : List UInt8)
         ·rw [if_pos c16] at H
          have c16b0 : (t213.toList == ([99, 111, 110, 116, 101, 110, 116, 45, 108, 101, 110, 103, 116, 104] : List UInt8)) = true := beq_iff_eq.mpr c16
          have c16b1 : (t213.toList != ([99, 111, 110, 116, 101, 110, 116, 45, 108, 101, 110, 103, 116, 104] : List UInt8)) = false := bne_eq_false_iff_eq.mpr c16
          clear c16
          replace H := Option.bind_eq_some_iff.mp H
          obtain ⟨⟨t216, t217⟩, A170, H⟩ := H
          replace H : (if t217 = true then (if x6_1 ≥ 0 then (some (([] : List (S62)), 0, false)) else (calepinref08_Fields.l0 kj7 l0 x5_1 (wrap64 (t216)) l0 (l0.length : Int) (wrap64 (x17_1 + 1)))) else (some (([] : List (S62)), 0, false))) = some (r1, r2, r3) := H
          have A17 := Aside0.mk A170
          clear A170
          by_cases c18 : t217 = true
          ·subst c18
           have H1 : (if x6_1 ≥ 0 then (some (([] : List (S62)), 0, false)) else (calepinref08_Fields.l0 kj7 l0 x5_1 (wrap64 (t216)) l0 (l0.length : Int) (wrap64 (x17_1 + 1)))) = some (r1, r2, r3) := by rw [if_pos rfl] at H; exact H
           clear H
           have H := H1
           clear H1
           by_cases c19 : x6_1 ≥ 0
           ·rw [if_pos c19] at H
            have c19b0 : decide (0 ≤ x6_1) = true := decide_eq_true c19
            clear c19
            simp only [Option.some.injEq, Prod.mk.injEq] at H
            obtain ⟨rfl, rfl, rfl⟩ := H
            go_wp2_with (first | ((with_reducible refine gate_callee (f := 38) rfl ?_); refine goesL_ (some 57) rfl rfl Tryz.func38 (by kernel_rfl) rfl #[.string t212, .int .u64 65536] rfl (by (try simp only [List.map_toArray, List.map_cons, List.map_nil]); first | done | rfl | (simp only [List.length_drop, List.length_take]; rfl)) ?_; (with_reducible refine (calepinref01_Number.calls kj7 t212 65536 t216 true _ ?side1 A17.out).mono ?_); (case side1 => exact LaidM.below HT.out (by repeat (first | (with_reducible first | exact HB.out | apply below_alloc | apply pw_below_drewN | apply below_drew1) | exact HB.out))); rintro e w20 ⟨rfl, hb⟩; refine ⟨_, rfl, ?_⟩; have n0_ := Aside0.mk (Kd.R_below (by (with_reducible repeat (first | apply Kd.R_alloc | apply Kd.R_drewN | apply Kd.R_drew)); exact HO_5.out) hb); have n1_ := Aside0.mk (below_step (by repeat (first | (with_reducible first | exact HB.out | apply below_alloc | apply pw_below_drewN | apply below_drew1) | exact HB.out)) hb); clear HO_5; clear HB; have HO_5 := n0_; have HB := n1_; clear n0_ n1_; (try clear hb); (try clear hb2); (try clear hk); (try clear hi)))
            go_ret3
            exact ⟨_, by first | rfl | (simp [errW_none, errW_some] <;> rfl) | (simp [*, errW_none, errW_some] <;> rfl), by first | exact Kd.R_nil _ _ _ _ _ | exact Kd.N_nil _ _ _ _ _ | exact Kd.V_nil _ _ _ _ _ | exact Kd.Q_nil _ _ _ _ _ | exact Kd.S_nil _ _ _ _ _, by repeat (first | (with_reducible first | exact HB.out | apply below_alloc | apply pw_below_drewN | apply below_drew1) | exact HB.out)⟩
           ·rw [if_neg c19] at H
            have c19b0 : decide (0 ≤ x6_1) = false := decide_eq_false c19
            clear c19
            have H' := Aside0.mk H
            clear H
            go_wp2_with (first | ((with_reducible refine gate_callee (f := 38) rfl ?_); refine goesL_ (some 57) rfl rfl Tryz.func38 (by kernel_rfl) rfl #[.string t212, .int .u64 65536] rfl (by (try simp only [List.map_toArray, List.map_cons, List.map_nil]); first | done | rfl | (simp only [List.length_drop, List.length_take]; rfl)) ?_; (with_reducible refine (calepinref01_Number.calls kj7 t212 65536 t216 true _ ?side1 A17.out).mono ?_); (case side1 => exact LaidM.below HT.out (by repeat (first | (with_reducible first | exact HB.out | apply below_alloc | apply pw_below_drewN | apply below_drew1) | exact HB.out))); rintro e w21 ⟨rfl, hb⟩; refine ⟨_, rfl, ?_⟩; have n0_ := Aside0.mk (Kd.R_below (by (with_reducible repeat (first | apply Kd.R_alloc | apply Kd.R_drewN | apply Kd.R_drew)); exact HO_5.out) hb); have n1_ := Aside0.mk (below_step (by repeat (first | (with_reducible first | exact HB.out | apply below_alloc | apply pw_below_drewN | apply below_drew1) | exact HB.out)) hb); clear HO_5; clear HB; have HO_5 := n0_; have HB := n1_; clear n0_ n1_; (try clear hb); (try clear hb2); (try clear hk); (try clear hi)))
            go_roundg kj7
            case measure => have := HK1.out; have := HJ7.out; omega
            case rel => exact ⟨(x5_1), (wrap64 (t216)), (wrap64 (x17_1 + 1)), (by first | rfl | (simp; done) | (simp [*]; done)), (by first | rfl | (simp; done) | (simp [*]; done)), H', ⟨by have := HK1.out; have := HJ7.out; omega⟩, ⟨by (with_reducible repeat (first | apply Kd.R_alloc | apply Kd.R_drewN | apply Kd.R_drew)); exact HO_5.out⟩, ⟨by repeat (first | (with_reducible first | exact HB.out | apply below_alloc | apply pw_below_drewN | apply below_drew1) | exact HB.out)⟩⟩
          ·replace c18 := Bool.eq_false_iff.mpr c18
           subst c18
           have H1 : (some (([] : List (S62)), 0, false)) = some (r1, r2, r3) := by rw [if_neg (show ¬ (false = true) by decide)] at H; exact H
           clear H
           have H := H1
           clear H1
           simp only [Option.some.injEq, Prod.mk.injEq] at H
           obtain ⟨rfl, rfl, rfl⟩ := H
           go_wp2_with (first | ((with_reducible refine gate_callee (f := 38) rfl ?_); refine goesL_ (some 57) rfl rfl Tryz.func38 (by kernel_rfl) rfl #[.string t212, .int .u64 65536] rfl (by (try simp only [List.map_toArray, List.map_cons, List.map_nil]); first | done | rfl | (simp only [List.length_drop, List.length_take]; rfl)) ?_; (with_reducible refine (calepinref01_Number.calls kj7 t212 65536 t216 false _ ?side1 A17.out).mono ?_); (case side1 => exact LaidM.below HT.out (by repeat (first | (with_reducible first | exact HB.out | apply below_alloc | apply pw_below_drewN | apply below_drew1) | exact HB.out))); rintro e w22 ⟨rfl, hb⟩; refine ⟨_, rfl, ?_⟩; have n0_ := Aside0.mk (Kd.R_below (by (with_reducible repeat (first | apply Kd.R_alloc | apply Kd.R_drewN | apply Kd.R_drew)); exact HO_5.out) hb); have n1_ := Aside0.mk (below_step (by repeat (first | (with_reducible first | exact HB.out | apply below_alloc | apply pw_below_drewN | apply below_drew1) | exact HB.out)) hb); clear HO_5; clear HB; have HO_5 := n0_; have HB := n1_; clear n0_ n1_; (try clear hb); (try clear hb2); (try clear hk); (try clear hi)))
           go_ret3
           exact ⟨_, by first | rfl | (simp [errW_none, errW_some] <;> rfl) | (simp [*, errW_none, errW_some] <;> rfl), by first | exact Kd.R_nil _ _ _ _ _ | exact Kd.N_nil _ _ _ _ _ | exact Kd.V_nil _ _ _ _ _ | exact Kd.Q_nil _ _ _ _ _ | exact Kd.S_nil _ _ _ _ _, by repeat (first | (with_reducible first | exact HB.out | apply below_alloc | apply pw_below_drewN | apply below_drew1) | exact HB.out)⟩
         ·rw [if_neg c16] at H
          have c16b0 : (t213.toList == ([99, 111, 110, 116, 101, 110, 116, 45, 108, 101, 110, 103, 116, 104] : List UInt8)) = false := beq_eq_false_iff_ne.mpr c16
          have c16b1 : (t213.toList != ([99, 111, 110, 116, 101, 110, 116, 45, 108, 101, 110, 103, 116, 104] : List UInt8)) = true := bne_iff_ne.mpr c16
          by_cases c23 : x5_1.length < 4398046511104
          ·rw [if_pos c23] at H
           have LMc23 := Aside0.mk c23
           clear c23
           obtain ⟨y218, hy218⟩ : ∃ y_ : List (S62), y_ = (x5_1 ++ [(⟨t209, t212⟩ : S62)]) := ⟨_, rfl⟩
           replace H : (calepinref08_Fields.l0 kj7 l0 y218 x6_1 l0 (l0.length : Int) (wrap64 (x17_1 + 1))) = some (r1, r2, r3) := by first | (rw [hy218]; with_reducible exact H) | (have H2_ := (Option.bind_some _ _).symm.trans H; rw [hy218]; with_reducible exact H2_) | (have H2_ := (Option.bind_some _ _).symm.trans H; with_reducible exact H2_) | with_reducible exact H | (rw [hy218]; exact H) | exact H
           have Ny218 := Aside0.mk hy218
           clear hy218
           have H' := Aside0.mk H
           clear H
           go_wp2_with (first | ((with_reducible refine gate_builtin (b := .append) (xs := #[.tmp 49, .tmp 53]) rfl ?_); at_builtin; refine Kd.R_append k62 (w0 := w) w.heap.size rfl (.tmp 49) (.tmp 53) 23 62 (.agg #[(.string ⟨#[]⟩), (.string ⟨#[]⟩)]) 32 rfl Tryz.underlying23 info62 rfl (by decide) (by omega) u5 x5_1 (⟨t209, t212⟩ : S62) [.string t209, .string t212] (fun _ => True) (fun _ => False) rfl rfl ?aP (fun _ hk => hk.elim) ?aF ?aO ?aB ?aS ?aL ?_; (case aP => exact k62_mkM _ _ _ (⟨t209, t212⟩ : S62)); (case aB => exact (by repeat (first | (with_reducible first | exact HB.out | apply below_alloc | apply pw_below_drewN | apply below_drew1) | exact HB.out))); (case aF => exact (fun _ _ => trivial)); (case aO => exact (by (with_reducible repeat (first | apply Kd.R_alloc | apply Kd.R_drewN | apply Kd.R_drew)); exact HO_5.out)); (case aS => exact (below_size (by repeat (first | (with_reducible first | exact HB.out | apply below_alloc | apply pw_below_drewN | apply below_drew1) | exact HB.out)))); (case aL => have := LMc23.out; omega); intro v219 w24 ho hb hg hat; rw [← Ny218.out] at ho; have n0_ := Aside0.mk (hb); have n1_ := Aside0.mk (ho); clear HB; clear HO_5; have HB := n0_; have HO220 := n1_; clear n0_ n1_; clear ho hb hg hat))
           go_roundg kj7
           case measure => have := HK1.out; have := HJ7.out; omega
           case rel => exact ⟨(y218), (x6_1), (wrap64 (x17_1 + 1)), (by first | rfl | (simp; done) | (simp [*]; done)), (by first | rfl | (simp; done) | (simp [*]; done)), H', ⟨by have := HK1.out; have := HJ7.out; omega⟩, ⟨by (with_reducible repeat (first | apply Kd.R_alloc | apply Kd.R_drewN | apply Kd.R_drew)); exact HO220.out⟩, ⟨by repeat (first | (with_reducible first | exact HB.out | apply below_alloc | apply pw_below_drewN | apply below_drew1) | exact HB.out)⟩⟩
          ·rw [if_neg c23] at H
           exact absurd H (by simp)
     ·rw [if_neg c4] at H
      exact absurd H (by simp)
    ·rw [if_neg c3] at H
     exact absurd H (by simp)
   ·rw [if_neg c2] at H
    have c2b0 : decide (x17_1 < (l0.length : Int)) = false := decide_eq_false c2
    clear c2
    obtain ⟨ji25, hji25⟩ : ∃ j_ : Int, (mx x6_1 0) = j_ := ⟨_, rfl⟩
    replace H : (some (x5_1, ji25, decide ((l0.length : Int) ≤ 32))) = some (r1, r2, r3) := by first | (rw [hji25] at H; exact H) | (simp only [hji25] at H ⊢; exact H)
    have hji25_ : (if x6_1 < 0 then 0 else x6_1) = ji25 := hji25
    simp only [Option.some.injEq, Prod.mk.injEq] at H
    obtain ⟨rfl, rfl, rfl⟩ := H
    go_wp2
    go_ret3
    exact ⟨_, by first | rfl | (simp [errW_none, errW_some] <;> rfl) | (simp only [← hji25]; first | rfl | (simp [errW_none, errW_some] <;> rfl)) | (simp [*, errW_none, errW_some] <;> rfl), by (with_reducible repeat (first | apply Kd.R_alloc | apply Kd.R_drewN | apply Kd.R_drew)); exact HO_5.out, by repeat (first | (with_reducible first | exact HB.out | apply below_alloc | apply pw_below_drewN | apply below_drew1) | exact HB.out)⟩

end Go.Proofs.YtipfekjmcddelaaGreatDoor.XHttpReads
