-- written by wip/xprint.py: the kit's print with functions walked by hand
import Derived.Test.YtipfekjmcddelaaGreatDoorPk
import Derived.Test.YtipfekjmcddelaaGreatDoorXHttpWritesx0
import Derived.Test.YtipfekjmcddelaaGreatDoorXHttpWritesx7
import Derived.Test.YtipfekjmcddelaaGreatDoorXHttpWritesx8
namespace Go.Proofs.YtipfekjmcddelaaGreatDoor.XHttpWrites
open Go.RowKit Go.Proofs.YtipfekjmcddelaaGreatDoorW.zgo Go.Proofs.YtipfekjmcddelaaGreatDoorW.zgp Go.Proofs.YtipfekjmcddelaaGreatDoorW.zgq
attribute [local go_sem] zdk zdi zdx zdw zdc zdb zdj zdh   -- for this text's walks alone
set_option linter.unusedVariables false
set_option linter.unusedSimpArgs false
def zal.l0 : Nat → ByteArray → ByteArray → Bool → List (S62) → Int → Int → Option (ByteArray × Int)
 | 0, _, _, _, _, _, _ => none
 | k + 1, x2, x8, x9, x18, x19, x20 => if x20 < x19 then (if 0 ≤ x20 then (if x20 < (x18.length : Int) then ((zba.f k ((zak x18 x20).f0)).bind fun t255 => (if x9 = true then (if (x8.size : Int) ≤ 8192 then (if ((zak x18 x20).f0).size + 2 ≤ 9223372036854775807 then (if (((zak x18 x20).f0) ++ (⟨#[58, 32]⟩ : ByteArray)).size + ((zak x18 x20).f1).size ≤ 9223372036854775807 then (if ((((zak x18 x20).f0) ++ (⟨#[58, 32]⟩ : ByteArray)) ++ ((zak x18 x20).f1)).size + 2 ≤ 9223372036854775807 then (if x8.size + (((((zak x18 x20).f0) ++ (⟨#[58, 32]⟩ : ByteArray)) ++ ((zak x18 x20).f1)) ++ (⟨#[13, 10]⟩ : ByteArray)).size ≤ 9223372036854775807 then (zal.l0 k x2 (x8 ++ (((((zak x18 x20).f0) ++ (⟨#[58, 32]⟩ : ByteArray)) ++ ((zak x18 x20).f1)) ++ (⟨#[13, 10]⟩ : ByteArray))) true x18 x19 (wrap64 (x20 + 1))) else (none)) else (none)) else (none)) else (none)) else (zal.l0 k x2 x8 true x18 x19 (wrap64 (x20 + 1)))) else ((zay.f k ((zak x18 x20).f0)).bind fun t256 => (if t256 = true then ((zaw.f k ((zak x18 x20).f1) 32 126 true).bind fun t257 => (if t257 = true then ((zax.f k ((zak x18 x20).f1)).bind fun t258 => (if t258.toList = ((zak x18 x20).f1).toList then (if t255.toList = ([99, 111, 110, 116, 101, 110, 116, 45, 108, 101, 110, 103, 116, 104] : List UInt8) then (if (x8.size : Int) ≤ 8192 then (if ((zak x18 x20).f0).size + 2 ≤ 9223372036854775807 then (if (((zak x18 x20).f0) ++ (⟨#[58, 32]⟩ : ByteArray)).size + ((zak x18 x20).f1).size ≤ 9223372036854775807 then (if ((((zak x18 x20).f0) ++ (⟨#[58, 32]⟩ : ByteArray)) ++ ((zak x18 x20).f1)).size + 2 ≤ 9223372036854775807 then (if x8.size + (((((zak x18 x20).f0) ++ (⟨#[58, 32]⟩ : ByteArray)) ++ ((zak x18 x20).f1)) ++ (⟨#[13, 10]⟩ : ByteArray)).size ≤ 9223372036854775807 then (zal.l0 k x2 (x8 ++ (((((zak x18 x20).f0) ++ (⟨#[58, 32]⟩ : ByteArray)) ++ ((zak x18 x20).f1)) ++ (⟨#[13, 10]⟩ : ByteArray))) true x18 x19 (wrap64 (x20 + 1))) else (none)) else (none)) else (none)) else (none)) else (zal.l0 k x2 x8 true x18 x19 (wrap64 (x20 + 1)))) else (if (x8.size : Int) ≤ 8192 then (if ((zak x18 x20).f0).size + 2 ≤ 9223372036854775807 then (if (((zak x18 x20).f0) ++ (⟨#[58, 32]⟩ : ByteArray)).size + ((zak x18 x20).f1).size ≤ 9223372036854775807 then (if ((((zak x18 x20).f0) ++ (⟨#[58, 32]⟩ : ByteArray)) ++ ((zak x18 x20).f1)).size + 2 ≤ 9223372036854775807 then (if x8.size + (((((zak x18 x20).f0) ++ (⟨#[58, 32]⟩ : ByteArray)) ++ ((zak x18 x20).f1)) ++ (⟨#[13, 10]⟩ : ByteArray)).size ≤ 9223372036854775807 then (zal.l0 k x2 (x8 ++ (((((zak x18 x20).f0) ++ (⟨#[58, 32]⟩ : ByteArray)) ++ ((zak x18 x20).f1)) ++ (⟨#[13, 10]⟩ : ByteArray))) (t255.toList == ([116, 114, 97, 110, 115, 102, 101, 114, 45, 101, 110, 99, 111, 100, 105, 110, 103] : List UInt8)) x18 x19 (wrap64 (x20 + 1))) else (none)) else (none)) else (none)) else (none)) else (zal.l0 k x2 x8 (t255.toList == ([116, 114, 97, 110, 115, 102, 101, 114, 45, 101, 110, 99, 111, 100, 105, 110, 103] : List UInt8)) x18 x19 (wrap64 (x20 + 1))))) else (if (x8.size : Int) ≤ 8192 then (if ((zak x18 x20).f0).size + 2 ≤ 9223372036854775807 then (if (((zak x18 x20).f0) ++ (⟨#[58, 32]⟩ : ByteArray)).size + ((zak x18 x20).f1).size ≤ 9223372036854775807 then (if ((((zak x18 x20).f0) ++ (⟨#[58, 32]⟩ : ByteArray)) ++ ((zak x18 x20).f1)).size + 2 ≤ 9223372036854775807 then (if x8.size + (((((zak x18 x20).f0) ++ (⟨#[58, 32]⟩ : ByteArray)) ++ ((zak x18 x20).f1)) ++ (⟨#[13, 10]⟩ : ByteArray)).size ≤ 9223372036854775807 then (zal.l0 k x2 (x8 ++ (((((zak x18 x20).f0) ++ (⟨#[58, 32]⟩ : ByteArray)) ++ ((zak x18 x20).f1)) ++ (⟨#[13, 10]⟩ : ByteArray))) true x18 x19 (wrap64 (x20 + 1))) else (none)) else (none)) else (none)) else (none)) else (zal.l0 k x2 x8 true x18 x19 (wrap64 (x20 + 1)))))) else (if (x8.size : Int) ≤ 8192 then (if ((zak x18 x20).f0).size + 2 ≤ 9223372036854775807 then (if (((zak x18 x20).f0) ++ (⟨#[58, 32]⟩ : ByteArray)).size + ((zak x18 x20).f1).size ≤ 9223372036854775807 then (if ((((zak x18 x20).f0) ++ (⟨#[58, 32]⟩ : ByteArray)) ++ ((zak x18 x20).f1)).size + 2 ≤ 9223372036854775807 then (if x8.size + (((((zak x18 x20).f0) ++ (⟨#[58, 32]⟩ : ByteArray)) ++ ((zak x18 x20).f1)) ++ (⟨#[13, 10]⟩ : ByteArray)).size ≤ 9223372036854775807 then (zal.l0 k x2 (x8 ++ (((((zak x18 x20).f0) ++ (⟨#[58, 32]⟩ : ByteArray)) ++ ((zak x18 x20).f1)) ++ (⟨#[13, 10]⟩ : ByteArray))) true x18 x19 (wrap64 (x20 + 1))) else (none)) else (none)) else (none)) else (none)) else (zal.l0 k x2 x8 true x18 x19 (wrap64 (x20 + 1)))))) else (if (x8.size : Int) ≤ 8192 then (if ((zak x18 x20).f0).size + 2 ≤ 9223372036854775807 then (if (((zak x18 x20).f0) ++ (⟨#[58, 32]⟩ : ByteArray)).size + ((zak x18 x20).f1).size ≤ 9223372036854775807 then (if ((((zak x18 x20).f0) ++ (⟨#[58, 32]⟩ : ByteArray)) ++ ((zak x18 x20).f1)).size + 2 ≤ 9223372036854775807 then (if x8.size + (((((zak x18 x20).f0) ++ (⟨#[58, 32]⟩ : ByteArray)) ++ ((zak x18 x20).f1)) ++ (⟨#[13, 10]⟩ : ByteArray)).size ≤ 9223372036854775807 then (zal.l0 k x2 (x8 ++ (((((zak x18 x20).f0) ++ (⟨#[58, 32]⟩ : ByteArray)) ++ ((zak x18 x20).f1)) ++ (⟨#[13, 10]⟩ : ByteArray))) true x18 x19 (wrap64 (x20 + 1))) else (none)) else (none)) else (none)) else (none)) else (zal.l0 k x2 x8 true x18 x19 (wrap64 (x20 + 1)))))))) else (none)) else (none)) else (if x9 = true then (some ((⟨#[]⟩ : ByteArray), 80)) else ((zbh.f k (IntKind.u64.wrap ((x2.size : Int)))).bind fun t259 => (if 16 + t259.size ≤ 9223372036854775807 then (if ((⟨#[67, 111, 110, 116, 101, 110, 116, 45, 76, 101, 110, 103, 116, 104, 58, 32]⟩ : ByteArray) ++ t259).size + 4 ≤ 9223372036854775807 then (if x8.size + (((⟨#[67, 111, 110, 116, 101, 110, 116, 45, 76, 101, 110, 103, 116, 104, 58, 32]⟩ : ByteArray) ++ t259) ++ (⟨#[13, 10, 13, 10]⟩ : ByteArray)).size ≤ 9223372036854775807 then (if ((x8 ++ (((⟨#[67, 111, 110, 116, 101, 110, 116, 45, 76, 101, 110, 103, 116, 104, 58, 32]⟩ : ByteArray) ++ t259) ++ (⟨#[13, 10, 13, 10]⟩ : ByteArray))).size : Int) > 8192 then (some ((⟨#[]⟩ : ByteArray), 11)) else (if (x2.size : Int) > 65536 then (some ((⟨#[]⟩ : ByteArray), 11)) else (if (x8 ++ (((⟨#[67, 111, 110, 116, 101, 110, 116, 45, 76, 101, 110, 103, 116, 104, 58, 32]⟩ : ByteArray) ++ t259) ++ (⟨#[13, 10, 13, 10]⟩ : ByteArray))).size + x2.size ≤ 9223372036854775807 then (some ((x8 ++ (((⟨#[67, 111, 110, 116, 101, 110, 116, 45, 76, 101, 110, 103, 116, 104, 58, 32]⟩ : ByteArray) ++ t259) ++ (⟨#[13, 10, 13, 10]⟩ : ByteArray))) ++ x2, 0)) else (none)))) else (none)) else (none)) else (none))))
def zal.f (k : Nat) (a0 : ByteArray) (l1 : List (S62)) (a2 : ByteArray) : Option (ByteArray × Int) := if a0.size + 2 ≤ 9223372036854775807 then (zal.l0 k a2 (a0 ++ (⟨#[13, 10]⟩ : ByteArray)) (decide ((l1.length : Int) > 31)) l1 (l1.length : Int) 0) else (none)
def zal.T7 : Bool × List (List Nat × List Nat) := (true, [([], []), ([0], [0]), ([1], [1]), ([2, 1], [1, 2]), ([3, 1, 1], [1, 3]), ([4, 1], [1, 4]), ([1, 5], [1, 5]), ([6, 4], [6]), ([7], [7]), ([8, 7], [7, 8]), ([9, 7, 7], [7, 9]), ([10, 7], [7, 10]), ([7, 11], [7, 11]), ([12, 10], [12]), ([13], [13]), ([14, 13], [13, 14]), ([15, 13, 13], [13, 15]), ([13], [13]), ([17, 13], [13, 17]), ([16, 18, 13], [13, 16, 18]), ([13, 19], [13, 19]), ([20, 16], [20]), ([21], [21]), ([22, 21], [21, 22]), ([21, 23], [21, 23]), ([24, 21], [24]), ([25], [25]), ([26, 25], [25, 26]), ([25, 27], [25, 27]), ([28, 25, 0, 1, 2, 3, 4, 5, 6, 7, 8, 9, 10, 11, 12, 13, 14, 15, 16, 17, 18, 19, 20, 21, 22, 23, 24, 25, 26, 27, 28], [0, 28])])
def zal.B7 : List Nat := [0, 1, 3, 7, 15, 31, 63, 127, 255, 511, 1023, 2047, 4095, 8191, 16383, 32767, 65535, 16383, 147455, 524287, 1048575, 2097151, 4194303, 8388607, 16777215, 33554431, 67108863, 134217727, 268435455, 536870911]
theorem zal.tab7 : rtab .any (opsOf Tryz.f13 7) = zal.T7 := by kernel_rfl
theorem zal.bits7 : waitsOk zal.T7.2 zal.B7 = true := by kernel_rfl
set_option maxHeartbeats 8000000 in
set_option maxRecDepth 100000 in
theorem zal.calls (k : Nat) (a0 : ByteArray) (A1 : Option Addr) (c1 : Nat) (l1 : List (S62)) (a2 : ByteArray) (r1 : ByteArray) (r2 : Int) (w : World) (hr1 : Kd.C k62 w A1 l1.length l1) (hc1 : l1.length ≤ c1) (hT : LaidM w) (h : zal.f k a0 l1 a2 = some (r1, r2)) :
  Calls Tryz.prog 13 #[.string a0, .slice A1 l1.length c1, .string a2] w fun e w' => e = .returned (.tuple #[.string r1, .int .i64 r2]) ∧ Below w.heap.size w w' := by
 have hu62 := Tryz.underlying62
 have HR1 := Aside0.mk hr1
 have HC1 := Aside0.mk hc1
 clear hr1 hc1
 have HB := Aside0.mk (Below.refl w.heap.size w)
 have HT := Aside0.mk hT
 clear hT
 have H : (if a0.size + 2 ≤ 9223372036854775807 then (zal.l0 k a2 (a0 ++ (⟨#[13, 10]⟩ : ByteArray)) (decide ((l1.length : Int) > 31)) l1 (l1.length : Int) 0) else (none)) = some (r1, r2) := h
 clear h
 by_cases c4 : a0.size + 2 ≤ 9223372036854775807
 ·rw [if_pos c4] at H
  have c4b0 := eq_true c4
  have c4b1 := decide_eq_true c4
  try have c4b2 := eq_false (Nat.not_lt.2 c4)
  have H' := Aside0.mk H
  clear H
  go_enter Tryz.func13, Tryz.ntmps13
  go_wp2
  go_loopg [8, 9, 20] k (fun kq v8 v9 v20 w' => ∃ (x8_1 : ByteArray) (x9_1 : Bool) (x20_1 : Int), v8 = .string x8_1 ∧ v9 = .bool x9_1 ∧ v20 = .int .i64 x20_1 ∧ Aside0 (zal.l0 kq a2 x8_1 x9_1 l1 (l1.length : Int) x20_1 = some (r1, r2)) ∧ Aside0 (kq ≤ k) ∧ Aside0 (Below w.heap.size w w'))
  case atStart => exact ⟨(a0 ++ (⟨#[13, 10]⟩ : ByteArray)), (decide ((l1.length : Int) > 31)), (0), (by first | rfl | (simp; done) | (simp [*]; done)), (by first | rfl | (simp; done) | (simp [*]; done)), (by first | rfl | (simp; done) | (simp [*]; done)), H', ⟨Nat.le_refl _⟩, ⟨by repeat (first | (with_reducible first | exact HB.out | apply zac | apply zaa | apply zab) | exact HB.out)⟩⟩
  case round =>
   clear H'
   try clear c1
   try clear p2
   try clear c4
   try clear c4b0
   try clear c4b1
   try clear c4b2
   obtain ⟨x8_1, x9_1, x20_1, rfl, rfl, rfl, HA, HK1, HB⟩ := hrel
   cases gk with
   | zero => exact absurd HA.out (by simp [zal.l0])
   | succ k1 =>
    have H := HA.out
    clear HA
    simp only [zal.l0] at H
    by_cases c5 : x20_1 < (l1.length : Int)
    ·rw [if_pos c5] at H
     have c5b0 := decide_eq_true c5
     clear c5
     by_cases c6 : 0 ≤ x20_1
     ·rw [if_pos c6] at H
      have c6b0 := decide_eq_true c6
      clear c6
      by_cases c7 : x20_1 < (l1.length : Int)
      ·rw [if_pos c7] at H
       have c7b0 := decide_eq_true c7
       clear c7
       replace H := Option.bind_eq_some_iff.mp H
       obtain ⟨t255, A80, H⟩ := H
       try dsimp only at H
       have A8 := Aside0.mk A80
       clear A80
       by_cases c9 : x9_1 = true
       ·subst c9
        have H1 : (if (x8_1.size : Int) ≤ 8192 then (if ((zak l1 x20_1).f0).size + 2 ≤ 9223372036854775807 then (if (((zak l1 x20_1).f0) ++ (⟨#[58, 32]⟩ : ByteArray)).size + ((zak l1 x20_1).f1).size ≤ 9223372036854775807 then (if ((((zak l1 x20_1).f0) ++ (⟨#[58, 32]⟩ : ByteArray)) ++ ((zak l1 x20_1).f1)).size + 2 ≤ 9223372036854775807 then (if x8_1.size + (((((zak l1 x20_1).f0) ++ (⟨#[58, 32]⟩ : ByteArray)) ++ ((zak l1 x20_1).f1)) ++ (⟨#[13, 10]⟩ : ByteArray)).size ≤ 9223372036854775807 then (zal.l0 k1 a2 (x8_1 ++ (((((zak l1 x20_1).f0) ++ (⟨#[58, 32]⟩ : ByteArray)) ++ ((zak l1 x20_1).f1)) ++ (⟨#[13, 10]⟩ : ByteArray))) true l1 (l1.length : Int) (wrap64 (x20_1 + 1))) else (none)) else (none)) else (none)) else (none)) else (zal.l0 k1 a2 x8_1 true l1 (l1.length : Int) (wrap64 (x20_1 + 1)))) = some (r1, r2) := by rw [if_pos rfl] at H; exact H
        clear H
        have H := H1
        clear H1
        by_cases c10 : (x8_1.size : Int) ≤ 8192
        ·rw [if_pos c10] at H
         have c10b0 := decide_eq_true c10
         have c10b1 : decide (x8_1.size ≤ 8192) = true := decide_eq_true (by omega)
         clear c10
         by_cases c11 : ((zak l1 x20_1).f0).size + 2 ≤ 9223372036854775807
         ·rw [if_pos c11] at H
          have c11b0 := eq_true c11
          have c11b1 := decide_eq_true c11
          try have c11b2 := eq_false (Nat.not_lt.2 c11)
          by_cases c12 : (((zak l1 x20_1).f0) ++ (⟨#[58, 32]⟩ : ByteArray)).size + ((zak l1 x20_1).f1).size ≤ 9223372036854775807
          ·rw [if_pos c12] at H
           have c12e := c12
           (try simp only [ByteArray.size_append, gt_iff_lt, ge_iff_le, show (⟨#[58, 32]⟩ : ByteArray).size = 2 from rfl] at c12e)
           (try simp only [Int.natCast_add, Int.cast_ofNat_Int] at c12e)
           (try (have c12e2 := decide_eq_true c12e))
           (try replace c12e := eq_true c12e)
           have c12b0 := eq_true c12
           have c12b1 := decide_eq_true c12
           try have c12b2 := eq_false (Nat.not_lt.2 c12)
           have c12b8 : (9223372036854775807 < ((zak l1 x20_1).f0).size + 2 + ((zak l1 x20_1).f1).size) = False := by have h_ := c12; simp only [ByteArray.size_append] at h_; exact eq_false (Nat.not_lt.2 h_)
           by_cases c13 : ((((zak l1 x20_1).f0) ++ (⟨#[58, 32]⟩ : ByteArray)) ++ ((zak l1 x20_1).f1)).size + 2 ≤ 9223372036854775807
           ·rw [if_pos c13] at H
            have c13e := c13
            (try simp only [ByteArray.size_append, gt_iff_lt, ge_iff_le, show (⟨#[58, 32]⟩ : ByteArray).size = 2 from rfl] at c13e)
            (try simp only [Int.natCast_add, Int.cast_ofNat_Int] at c13e)
            (try (have c13e2 := decide_eq_true c13e))
            (try replace c13e := eq_true c13e)
            have c13b0 := eq_true c13
            have c13b1 := decide_eq_true c13
            try have c13b2 := eq_false (Nat.not_lt.2 c13)
            have c13b8 : (9223372036854775807 < ((zak l1 x20_1).f0).size + 2 + ((zak l1 x20_1).f1).size + 2) = False := by have h_ := c13; simp only [ByteArray.size_append] at h_; exact eq_false (Nat.not_lt.2 h_)
            by_cases c14 : x8_1.size + (((((zak l1 x20_1).f0) ++ (⟨#[58, 32]⟩ : ByteArray)) ++ ((zak l1 x20_1).f1)) ++ (⟨#[13, 10]⟩ : ByteArray)).size ≤ 9223372036854775807
            ·rw [if_pos c14] at H
             have c14e := c14
             (try simp only [ByteArray.size_append, gt_iff_lt, ge_iff_le, show (⟨#[13, 10]⟩ : ByteArray).size = 2 from rfl, show (⟨#[58, 32]⟩ : ByteArray).size = 2 from rfl] at c14e)
             (try simp only [Int.natCast_add, Int.cast_ofNat_Int] at c14e)
             (try (have c14e2 := decide_eq_true c14e))
             (try replace c14e := eq_true c14e)
             have c14b0 := eq_true c14
             have c14b1 := decide_eq_true c14
             try have c14b2 := eq_false (Nat.not_lt.2 c14)
             have c14b8 : (9223372036854775807 < x8_1.size + (((zak l1 x20_1).f0).size + 2 + ((zak l1 x20_1).f1).size + 2)) = False := by have h_ := c14; simp only [ByteArray.size_append] at h_; exact eq_false (Nat.not_lt.2 h_)
             have H' := Aside0.mk H
             clear H
             have p253 : 0 ≤ (x20_1 : Int) := of_decide_eq_true (by first | (with_reducible assumption) | assumption)
             have q253 : x20_1 < (l1.length : Int) := of_decide_eq_true (by first | (with_reducible assumption) | assumption)
             obtain ⟨ad253, e253, hx253_0, hx253_1⟩ := zdg HR1.out x20_1 p253 q253
             cases e253
             replace hx253_0 := (HB.out.cell (World.block_lt_of_cell? w _ hx253_0)).trans hx253_0
             replace hx253_1 := (HB.out.cell (World.block_lt_of_cell? w _ hx253_1)).trans hx253_1
             replace p253 := eq_true p253
             replace q253 := eq_true q253
             try go_wp2_with (first | ((with_reducible refine zbj (N := 11) rfl ?_); (try (refine zbi (by rfl) ?_; dsimp only)); refine zbf ?hg (N := 11) ?hd (cs := #[.string ⟨#[]⟩, .string ⟨#[]⟩]) (t := 62) ?hr ?_; (case hd => rfl); (case hg => rfl); (case hr => first | (go_simp; done) | (go_simp; rfl)); intro gb254 hg w15 hbox hb; have n0_ := Aside0.mk (zam (by repeat (first | (with_reducible first | exact HB.out | apply zac | apply zaa | apply zab) | exact HB.out)) hb); have n1_ := Aside0.mk (hbox); have n2_ := Aside0.mk ((by rw [hg]; exact (zan (by repeat (first | (with_reducible first | exact HB.out | apply zac | apply zaa | apply zab) | exact HB.out))) : w.heap.size ≤ gb254)); have n3_ := Aside0.mk ((by rw [hg]; exact (zan (by repeat (first | (with_reducible first | exact HB.out | apply zac | apply zaa | apply zab) | exact HB.out))) : w.heap.size ≤ gb254)); clear HB; have HB := n0_; have BK254 := n1_; have GW254 := n2_; have GE254 := n3_; clear n0_ n1_ n2_ n3_; clear hb hbox hg; have hcz16_0 : w15.cell? ⟨gb254, 0, none⟩ = some (.string ⟨#[]⟩) := (zah BK254.out 0).trans rfl; have hcz16_1 : w15.cell? ⟨gb254, 1, none⟩ = some (.string ⟨#[]⟩) := (zah BK254.out 1).trans rfl; have hfz16_0 := zai BK254.out 0; have hfz16_1 := zai BK254.out 1) | ((with_reducible refine zar (f := 31) rfl ?_); refine zbr (some 26) rfl rfl Tryz.func31 (by kernel_rfl) rfl #[.string ((zak l1 x20_1).f0)] rfl (by (try simp only [List.map_toArray, List.map_cons, List.map_nil]); first | done | rfl | (simp only [List.length_drop, List.length_take]; rfl)) ?_; (with_reducible refine (zba.calls k1 ((zak l1 x20_1).f0) t255 _ ?side1 A8.out).mono ?_); (case side1 => exact LaidM.below HT.out (by repeat (first | (with_reducible first | exact HB.out | apply zac | apply zaa | apply zab | refine zad ?_ GE254.out) | exact HB.out))); rintro e w17 ⟨rfl, hb⟩; refine ⟨_, rfl, ?_⟩; have n0_ := Aside0.mk (zao (g := gb254) (o := .cells #[.string ((zak l1 x20_1).f0), .string ((zak l1 x20_1).f1)] 62 (0, 0)) (by (with_reducible repeat (first | refine zae ?_ _ | refine zag ?_ | refine zaf ?_ _)); refine zav (cs := #[.string ((zak l1 x20_1).f0), .string ⟨#[]⟩]) ?_ 1 _ rfl; (with_reducible repeat (first | refine zae ?_ _ | refine zag ?_ | refine zaf ?_ _)); refine zav (cs := #[.string ⟨#[]⟩, .string ⟨#[]⟩]) ?_ 0 _ rfl; (with_reducible repeat (first | refine zae ?_ _ | refine zag ?_ | refine zaf ?_ _)); exact BK254.out) hb); have n1_ := Aside0.mk (zam (by repeat (first | (with_reducible first | exact HB.out | apply zac | apply zaa | apply zab | refine zad ?_ GE254.out) | exact HB.out)) hb); clear BK254; clear HB; have BK254 := n0_; have HB := n1_; clear n0_ n1_; (try clear hb); (try clear hb2); (try clear hk); (try clear hi)))
             have n0_ := Aside0.mk (zag BK254.out)
             have n1_ := Aside0.mk (zab HB.out)
             clear BK254
             clear HB
             have BK254 := n0_
             have HB := n1_
             clear n0_ n1_
             refine zda (n := 30) (S := fun w' => True) (ds := []) (bm 30 0) (by kernel_rfl) rfl rfl trivial (fun hHeld => ?_); refine zci zal.tab7 zal.bits7 (fun HT_ HW_ => ?_)
             generalize w17.drew = w18 at BK254 HB hHeld ⊢
             refine pv_ HT_ 0 (bm 30 1) ?_
             refine pv_ HT_ 1 (bm 30 3) ?_
             refine pu_ HT_ 2 (bm 30 7) ?_
             refine pu_ HT_ 3 (bm 30 15) ?_
             refine pu_ HT_ 4 (bm 30 31) ?_
             refine pu_ HT_ 5 (bm 30 63) ?_
             refine pv_ HT_ 6 (bm 30 127) ?_
             refine pv_ HT_ 7 (bm 30 255) ?_
             refine pu_ HT_ 8 (bm 30 511) ?_
             refine pu_ HT_ 9 (bm 30 1023) ?_
             refine pu_ HT_ 10 (bm 30 2047) ?_
             refine pu_ HT_ 11 (bm 30 4095) ?_
             refine pv_ HT_ 12 (bm 30 8191) ?_
             refine pv_ HT_ 13 (bm 30 16383) ?_
             refine pu_ HT_ 14 (bm 30 32767) ?_
             refine pu_ HT_ 15 (bm 30 65535) ?_
             refine pu_ HT_ 16 (bm 30 131071) ?_
             refine pu_ HT_ 17 (bm 30 262143) ?_
             refine pu_ HT_ 18 (bm 30 524287) ?_
             refine pu_ HT_ 19 (bm 30 1048575) ?_
             refine pv_ HT_ 20 (bm 30 2097151) ?_
             refine pv_ HT_ 21 (bm 30 4194303) ?_
             refine pu_ HT_ 22 (bm 30 8388607) ?_
             refine pu_ HT_ 23 (bm 30 16777215) ?_
             refine pv_ HT_ 24 (bm 30 33554431) ?_
             refine pv_ HT_ 25 (bm 30 67108863) ?_
             refine pu_ HT_ 26 (bm 30 134217727) ?_
             refine pu_ HT_ 27 (bm 30 268435455) ?_
             refine pv_ HT_ 28 (bm 30 536870911) ?_
             refine pv_ HT_ 29 (bm 30 1073741823) ?_
             refine zdu (zcu HT_.out (by kernel_rfl)) ?_
             have hcz19_0 : w18.cell? ⟨gb254, 0, none⟩ = some (.string ((zak l1 x20_1).f0)) := (zah BK254.out 0).trans rfl
             have hcz19_1 : w18.cell? ⟨gb254, 1, none⟩ = some (.string ((zak l1 x20_1).f1)) := (zah BK254.out 1).trans rfl
             have hfz19_0 := zai BK254.out 0
             have hfz19_1 := zai BK254.out 1
             try go_wp2
             go_roundg k1
             case measure => have := HK1.out; omega
             case rel => exact ⟨(x8_1 ++ (((((zak l1 x20_1).f0) ++ (⟨#[58, 32]⟩ : ByteArray)) ++ ((zak l1 x20_1).f1)) ++ (⟨#[13, 10]⟩ : ByteArray))), (true), (wrap64 (x20_1 + 1)), (by first | rfl | (simp; done) | (simp [*]; done)), (by first | rfl | (simp; done) | (simp [*]; done)), (by first | rfl | (simp; done) | (simp [*]; done)), H', ⟨by have := HK1.out; omega⟩, ⟨by repeat (first | (with_reducible first | exact HB.out | apply zac | apply zaa | apply zab | refine zad ?_ GE254.out) | exact HB.out)⟩⟩
            ·rw [if_neg c14] at H
             have c14e := c14
             (try simp only [ByteArray.size_append, gt_iff_lt, ge_iff_le, show (⟨#[13, 10]⟩ : ByteArray).size = 2 from rfl, show (⟨#[58, 32]⟩ : ByteArray).size = 2 from rfl] at c14e)
             (try simp only [Int.natCast_add, Int.cast_ofNat_Int] at c14e)
             (try (have c14e2 := decide_eq_false c14e))
             (try replace c14e := eq_false c14e)
             exact absurd H (by simp)
           ·rw [if_neg c13] at H
            have c13e := c13
            (try simp only [ByteArray.size_append, gt_iff_lt, ge_iff_le, show (⟨#[58, 32]⟩ : ByteArray).size = 2 from rfl] at c13e)
            (try simp only [Int.natCast_add, Int.cast_ofNat_Int] at c13e)
            (try (have c13e2 := decide_eq_false c13e))
            (try replace c13e := eq_false c13e)
            exact absurd H (by simp)
          ·rw [if_neg c12] at H
           have c12e := c12
           (try simp only [ByteArray.size_append, gt_iff_lt, ge_iff_le, show (⟨#[58, 32]⟩ : ByteArray).size = 2 from rfl] at c12e)
           (try simp only [Int.natCast_add, Int.cast_ofNat_Int] at c12e)
           (try (have c12e2 := decide_eq_false c12e))
           (try replace c12e := eq_false c12e)
           exact absurd H (by simp)
         ·rw [if_neg c11] at H
          exact absurd H (by simp)
        ·rw [if_neg c10] at H
         have c10b0 : decide ((x8_1.size : Int) ≤ 8192) = false := decide_eq_false c10
         have c10b1 : decide (x8_1.size ≤ 8192) = false := decide_eq_false (by omega)
         clear c10
         have H' := Aside0.mk H
         clear H
         have p253 : 0 ≤ (x20_1 : Int) := of_decide_eq_true (by first | (with_reducible assumption) | assumption)
         have q253 : x20_1 < (l1.length : Int) := of_decide_eq_true (by first | (with_reducible assumption) | assumption)
         obtain ⟨ad253, e253, hx253_0, hx253_1⟩ := zdg HR1.out x20_1 p253 q253
         cases e253
         replace hx253_0 := (HB.out.cell (World.block_lt_of_cell? w _ hx253_0)).trans hx253_0
         replace hx253_1 := (HB.out.cell (World.block_lt_of_cell? w _ hx253_1)).trans hx253_1
         replace p253 := eq_true p253
         replace q253 := eq_true q253
         try go_wp2_with (first | ((with_reducible refine zbj (N := 11) rfl ?_); (try (refine zbi (by rfl) ?_; dsimp only)); refine zbf ?hg (N := 11) ?hd (cs := #[.string ⟨#[]⟩, .string ⟨#[]⟩]) (t := 62) ?hr ?_; (case hd => rfl); (case hg => rfl); (case hr => first | (go_simp; done) | (go_simp; rfl)); intro gb254 hg w20 hbox hb; have n0_ := Aside0.mk (zam (by repeat (first | (with_reducible first | exact HB.out | apply zac | apply zaa | apply zab) | exact HB.out)) hb); have n1_ := Aside0.mk (hbox); have n2_ := Aside0.mk ((by rw [hg]; exact (zan (by repeat (first | (with_reducible first | exact HB.out | apply zac | apply zaa | apply zab) | exact HB.out))) : w.heap.size ≤ gb254)); have n3_ := Aside0.mk ((by rw [hg]; exact (zan (by repeat (first | (with_reducible first | exact HB.out | apply zac | apply zaa | apply zab) | exact HB.out))) : w.heap.size ≤ gb254)); clear HB; have HB := n0_; have BK254 := n1_; have GW254 := n2_; have GE254 := n3_; clear n0_ n1_ n2_ n3_; clear hb hbox hg; have hcz21_0 : w20.cell? ⟨gb254, 0, none⟩ = some (.string ⟨#[]⟩) := (zah BK254.out 0).trans rfl; have hcz21_1 : w20.cell? ⟨gb254, 1, none⟩ = some (.string ⟨#[]⟩) := (zah BK254.out 1).trans rfl; have hfz21_0 := zai BK254.out 0; have hfz21_1 := zai BK254.out 1) | ((with_reducible refine zar (f := 31) rfl ?_); refine zbr (some 26) rfl rfl Tryz.func31 (by kernel_rfl) rfl #[.string ((zak l1 x20_1).f0)] rfl (by (try simp only [List.map_toArray, List.map_cons, List.map_nil]); first | done | rfl | (simp only [List.length_drop, List.length_take]; rfl)) ?_; (with_reducible refine (zba.calls k1 ((zak l1 x20_1).f0) t255 _ ?side1 A8.out).mono ?_); (case side1 => exact LaidM.below HT.out (by repeat (first | (with_reducible first | exact HB.out | apply zac | apply zaa | apply zab | refine zad ?_ GE254.out) | exact HB.out))); rintro e w22 ⟨rfl, hb⟩; refine ⟨_, rfl, ?_⟩; have n0_ := Aside0.mk (zao (g := gb254) (o := .cells #[.string ((zak l1 x20_1).f0), .string ((zak l1 x20_1).f1)] 62 (0, 0)) (by (with_reducible repeat (first | refine zae ?_ _ | refine zag ?_ | refine zaf ?_ _)); refine zav (cs := #[.string ((zak l1 x20_1).f0), .string ⟨#[]⟩]) ?_ 1 _ rfl; (with_reducible repeat (first | refine zae ?_ _ | refine zag ?_ | refine zaf ?_ _)); refine zav (cs := #[.string ⟨#[]⟩, .string ⟨#[]⟩]) ?_ 0 _ rfl; (with_reducible repeat (first | refine zae ?_ _ | refine zag ?_ | refine zaf ?_ _)); exact BK254.out) hb); have n1_ := Aside0.mk (zam (by repeat (first | (with_reducible first | exact HB.out | apply zac | apply zaa | apply zab | refine zad ?_ GE254.out) | exact HB.out)) hb); clear BK254; clear HB; have BK254 := n0_; have HB := n1_; clear n0_ n1_; (try clear hb); (try clear hb2); (try clear hk); (try clear hi)))
         have n0_ := Aside0.mk (zag BK254.out)
         have n1_ := Aside0.mk (zab HB.out)
         clear BK254
         clear HB
         have BK254 := n0_
         have HB := n1_
         clear n0_ n1_
         refine zda (n := 30) (S := fun w' => True) (ds := []) (bm 30 0) (by kernel_rfl) rfl rfl trivial (fun hHeld => ?_); refine zci zal.tab7 zal.bits7 (fun HT_ HW_ => ?_)
         generalize w22.drew = w23 at BK254 HB hHeld ⊢
         refine pv_ HT_ 0 (bm 30 1) ?_
         refine pv_ HT_ 1 (bm 30 3) ?_
         refine pu_ HT_ 2 (bm 30 7) ?_
         refine pu_ HT_ 3 (bm 30 15) ?_
         refine pu_ HT_ 4 (bm 30 31) ?_
         refine pu_ HT_ 5 (bm 30 63) ?_
         refine pv_ HT_ 6 (bm 30 127) ?_
         refine pv_ HT_ 7 (bm 30 255) ?_
         refine pu_ HT_ 8 (bm 30 511) ?_
         refine pu_ HT_ 9 (bm 30 1023) ?_
         refine pu_ HT_ 10 (bm 30 2047) ?_
         refine pu_ HT_ 11 (bm 30 4095) ?_
         refine pv_ HT_ 12 (bm 30 8191) ?_
         refine pv_ HT_ 13 (bm 30 16383) ?_
         refine pu_ HT_ 14 (bm 30 32767) ?_
         refine pu_ HT_ 15 (bm 30 65535) ?_
         refine pu_ HT_ 16 (bm 30 131071) ?_
         refine pu_ HT_ 17 (bm 30 262143) ?_
         refine pu_ HT_ 18 (bm 30 524287) ?_
         refine pu_ HT_ 19 (bm 30 1048575) ?_
         refine pv_ HT_ 20 (bm 30 2097151) ?_
         refine pv_ HT_ 21 (bm 30 4194303) ?_
         refine pu_ HT_ 22 (bm 30 8388607) ?_
         refine pu_ HT_ 23 (bm 30 16777215) ?_
         refine pv_ HT_ 24 (bm 30 33554431) ?_
         refine pv_ HT_ 25 (bm 30 67108863) ?_
         refine pu_ HT_ 26 (bm 30 134217727) ?_
         refine pu_ HT_ 27 (bm 30 268435455) ?_
         refine pv_ HT_ 28 (bm 30 536870911) ?_
         refine pv_ HT_ 29 (bm 30 1073741823) ?_
         refine zdu (zcu HT_.out (by kernel_rfl)) ?_
         try go_wp2
         go_roundg k1
         case measure => have := HK1.out; omega
         case rel => exact ⟨(x8_1), (true), (wrap64 (x20_1 + 1)), (by first | rfl | (simp; done) | (simp [*]; done)), (by first | rfl | (simp; done) | (simp [*]; done)), (by first | rfl | (simp; done) | (simp [*]; done)), H', ⟨by have := HK1.out; omega⟩, ⟨by repeat (first | (with_reducible first | exact HB.out | apply zac | apply zaa | apply zab | refine zad ?_ GE254.out) | exact HB.out)⟩⟩
       ·replace c9 := Bool.eq_false_iff.mpr c9
        subst c9
        have H1 : ((zay.f k1 ((zak l1 x20_1).f0)).bind fun t256 => (if t256 = true then ((zaw.f k1 ((zak l1 x20_1).f1) 32 126 true).bind fun t257 => (if t257 = true then ((zax.f k1 ((zak l1 x20_1).f1)).bind fun t258 => (if t258.toList = ((zak l1 x20_1).f1).toList then (if t255.toList = ([99, 111, 110, 116, 101, 110, 116, 45, 108, 101, 110, 103, 116, 104] : List UInt8) then (if (x8_1.size : Int) ≤ 8192 then (if ((zak l1 x20_1).f0).size + 2 ≤ 9223372036854775807 then (if (((zak l1 x20_1).f0) ++ (⟨#[58, 32]⟩ : ByteArray)).size + ((zak l1 x20_1).f1).size ≤ 9223372036854775807 then (if ((((zak l1 x20_1).f0) ++ (⟨#[58, 32]⟩ : ByteArray)) ++ ((zak l1 x20_1).f1)).size + 2 ≤ 9223372036854775807 then (if x8_1.size + (((((zak l1 x20_1).f0) ++ (⟨#[58, 32]⟩ : ByteArray)) ++ ((zak l1 x20_1).f1)) ++ (⟨#[13, 10]⟩ : ByteArray)).size ≤ 9223372036854775807 then (zal.l0 k1 a2 (x8_1 ++ (((((zak l1 x20_1).f0) ++ (⟨#[58, 32]⟩ : ByteArray)) ++ ((zak l1 x20_1).f1)) ++ (⟨#[13, 10]⟩ : ByteArray))) true l1 (l1.length : Int) (wrap64 (x20_1 + 1))) else (none)) else (none)) else (none)) else (none)) else (zal.l0 k1 a2 x8_1 true l1 (l1.length : Int) (wrap64 (x20_1 + 1)))) else (if (x8_1.size : Int) ≤ 8192 then (if ((zak l1 x20_1).f0).size + 2 ≤ 9223372036854775807 then (if (((zak l1 x20_1).f0) ++ (⟨#[58, 32]⟩ : ByteArray)).size + ((zak l1 x20_1).f1).size ≤ 9223372036854775807 then (if ((((zak l1 x20_1).f0) ++ (⟨#[58, 32]⟩ : ByteArray)) ++ ((zak l1 x20_1).f1)).size + 2 ≤ 9223372036854775807 then (if x8_1.size + (((((zak l1 x20_1).f0) ++ (⟨#[58, 32]⟩ : ByteArray)) ++ ((zak l1 x20_1).f1)) ++ (⟨#[13, 10]⟩ : ByteArray)).size ≤ 9223372036854775807 then (zal.l0 k1 a2 (x8_1 ++ (((((zak l1 x20_1).f0) ++ (⟨#[58, 32]⟩ : ByteArray)) ++ ((zak l1 x20_1).f1)) ++ (⟨#[13, 10]⟩ : ByteArray))) (t255.toList == ([116, 114, 97, 110, 115, 102, 101, 114, 45, 101, 110, 99, 111, 100, 105, 110, 103] : List UInt8)) l1 (l1.length : Int) (wrap64 (x20_1 + 1))) else (none)) else (none)) else (none)) else (none)) else (zal.l0 k1 a2 x8_1 (t255.toList == ([116, 114, 97, 110, 115, 102, 101, 114, 45, 101, 110, 99, 111, 100, 105, 110, 103] : List UInt8)) l1 (l1.length : Int) (wrap64 (x20_1 + 1))))) else (if (x8_1.size : Int) ≤ 8192 then (if ((zak l1 x20_1).f0).size + 2 ≤ 9223372036854775807 then (if (((zak l1 x20_1).f0) ++ (⟨#[58, 32]⟩ : ByteArray)).size + ((zak l1 x20_1).f1).size ≤ 9223372036854775807 then (if ((((zak l1 x20_1).f0) ++ (⟨#[58, 32]⟩ : ByteArray)) ++ ((zak l1 x20_1).f1)).size + 2 ≤ 9223372036854775807 then (if x8_1.size + (((((zak l1 x20_1).f0) ++ (⟨#[58, 32]⟩ : ByteArray)) ++ ((zak l1 x20_1).f1)) ++ (⟨#[13, 10]⟩ : ByteArray)).size ≤ 9223372036854775807 then (zal.l0 k1 a2 (x8_1 ++ (((((zak l1 x20_1).f0) ++ (⟨#[58, 32]⟩ : ByteArray)) ++ ((zak l1 x20_1).f1)) ++ (⟨#[13, 10]⟩ : ByteArray))) true l1 (l1.length : Int) (wrap64 (x20_1 + 1))) else (none)) else (none)) else (none)) else (none)) else (zal.l0 k1 a2 x8_1 true l1 (l1.length : Int) (wrap64 (x20_1 + 1)))))) else (if (x8_1.size : Int) ≤ 8192 then (if ((zak l1 x20_1).f0).size + 2 ≤ 9223372036854775807 then (if (((zak l1 x20_1).f0) ++ (⟨#[58, 32]⟩ : ByteArray)).size + ((zak l1 x20_1).f1).size ≤ 9223372036854775807 then (if ((((zak l1 x20_1).f0) ++ (⟨#[58, 32]⟩ : ByteArray)) ++ ((zak l1 x20_1).f1)).size + 2 ≤ 9223372036854775807 then (if x8_1.size + (((((zak l1 x20_1).f0) ++ (⟨#[58, 32]⟩ : ByteArray)) ++ ((zak l1 x20_1).f1)) ++ (⟨#[13, 10]⟩ : ByteArray)).size ≤ 9223372036854775807 then (zal.l0 k1 a2 (x8_1 ++ (((((zak l1 x20_1).f0) ++ (⟨#[58, 32]⟩ : ByteArray)) ++ ((zak l1 x20_1).f1)) ++ (⟨#[13, 10]⟩ : ByteArray))) true l1 (l1.length : Int) (wrap64 (x20_1 + 1))) else (none)) else (none)) else (none)) else (none)) else (zal.l0 k1 a2 x8_1 true l1 (l1.length : Int) (wrap64 (x20_1 + 1)))))) else (if (x8_1.size : Int) ≤ 8192 then (if ((zak l1 x20_1).f0).size + 2 ≤ 9223372036854775807 then (if (((zak l1 x20_1).f0) ++ (⟨#[58, 32]⟩ : ByteArray)).size + ((zak l1 x20_1).f1).size ≤ 9223372036854775807 then (if ((((zak l1 x20_1).f0) ++ (⟨#[58, 32]⟩ : ByteArray)) ++ ((zak l1 x20_1).f1)).size + 2 ≤ 9223372036854775807 then (if x8_1.size + (((((zak l1 x20_1).f0) ++ (⟨#[58, 32]⟩ : ByteArray)) ++ ((zak l1 x20_1).f1)) ++ (⟨#[13, 10]⟩ : ByteArray)).size ≤ 9223372036854775807 then (zal.l0 k1 a2 (x8_1 ++ (((((zak l1 x20_1).f0) ++ (⟨#[58, 32]⟩ : ByteArray)) ++ ((zak l1 x20_1).f1)) ++ (⟨#[13, 10]⟩ : ByteArray))) true l1 (l1.length : Int) (wrap64 (x20_1 + 1))) else (none)) else (none)) else (none)) else (none)) else (zal.l0 k1 a2 x8_1 true l1 (l1.length : Int) (wrap64 (x20_1 + 1)))))) = some (r1, r2) := by rw [if_neg (show ¬ (false = true) by decide)] at H; exact H
        clear H
        have H := H1
        clear H1
        replace H := Option.bind_eq_some_iff.mp H
        obtain ⟨t256, A240, H⟩ := H
        try dsimp only at H
        have A24 := Aside0.mk A240
        clear A240
        by_cases c25 : t256 = true
        ·subst c25
         have H1 : ((zaw.f k1 ((zak l1 x20_1).f1) 32 126 true).bind fun t257 => (if t257 = true then ((zax.f k1 ((zak l1 x20_1).f1)).bind fun t258 => (if t258.toList = ((zak l1 x20_1).f1).toList then (if t255.toList = ([99, 111, 110, 116, 101, 110, 116, 45, 108, 101, 110, 103, 116, 104] : List UInt8) then (if (x8_1.size : Int) ≤ 8192 then (if ((zak l1 x20_1).f0).size + 2 ≤ 9223372036854775807 then (if (((zak l1 x20_1).f0) ++ (⟨#[58, 32]⟩ : ByteArray)).size + ((zak l1 x20_1).f1).size ≤ 9223372036854775807 then (if ((((zak l1 x20_1).f0) ++ (⟨#[58, 32]⟩ : ByteArray)) ++ ((zak l1 x20_1).f1)).size + 2 ≤ 9223372036854775807 then (if x8_1.size + (((((zak l1 x20_1).f0) ++ (⟨#[58, 32]⟩ : ByteArray)) ++ ((zak l1 x20_1).f1)) ++ (⟨#[13, 10]⟩ : ByteArray)).size ≤ 9223372036854775807 then (zal.l0 k1 a2 (x8_1 ++ (((((zak l1 x20_1).f0) ++ (⟨#[58, 32]⟩ : ByteArray)) ++ ((zak l1 x20_1).f1)) ++ (⟨#[13, 10]⟩ : ByteArray))) true l1 (l1.length : Int) (wrap64 (x20_1 + 1))) else (none)) else (none)) else (none)) else (none)) else (zal.l0 k1 a2 x8_1 true l1 (l1.length : Int) (wrap64 (x20_1 + 1)))) else (if (x8_1.size : Int) ≤ 8192 then (if ((zak l1 x20_1).f0).size + 2 ≤ 9223372036854775807 then (if (((zak l1 x20_1).f0) ++ (⟨#[58, 32]⟩ : ByteArray)).size + ((zak l1 x20_1).f1).size ≤ 9223372036854775807 then (if ((((zak l1 x20_1).f0) ++ (⟨#[58, 32]⟩ : ByteArray)) ++ ((zak l1 x20_1).f1)).size + 2 ≤ 9223372036854775807 then (if x8_1.size + (((((zak l1 x20_1).f0) ++ (⟨#[58, 32]⟩ : ByteArray)) ++ ((zak l1 x20_1).f1)) ++ (⟨#[13, 10]⟩ : ByteArray)).size ≤ 9223372036854775807 then (zal.l0 k1 a2 (x8_1 ++ (((((zak l1 x20_1).f0) ++ (⟨#[58, 32]⟩ : ByteArray)) ++ ((zak l1 x20_1).f1)) ++ (⟨#[13, 10]⟩ : ByteArray))) (t255.toList == ([116, 114, 97, 110, 115, 102, 101, 114, 45, 101, 110, 99, 111, 100, 105, 110, 103] : List UInt8)) l1 (l1.length : Int) (wrap64 (x20_1 + 1))) else (none)) else (none)) else (none)) else (none)) else (zal.l0 k1 a2 x8_1 (t255.toList == ([116, 114, 97, 110, 115, 102, 101, 114, 45, 101, 110, 99, 111, 100, 105, 110, 103] : List UInt8)) l1 (l1.length : Int) (wrap64 (x20_1 + 1))))) else (if (x8_1.size : Int) ≤ 8192 then (if ((zak l1 x20_1).f0).size + 2 ≤ 9223372036854775807 then (if (((zak l1 x20_1).f0) ++ (⟨#[58, 32]⟩ : ByteArray)).size + ((zak l1 x20_1).f1).size ≤ 9223372036854775807 then (if ((((zak l1 x20_1).f0) ++ (⟨#[58, 32]⟩ : ByteArray)) ++ ((zak l1 x20_1).f1)).size + 2 ≤ 9223372036854775807 then (if x8_1.size + (((((zak l1 x20_1).f0) ++ (⟨#[58, 32]⟩ : ByteArray)) ++ ((zak l1 x20_1).f1)) ++ (⟨#[13, 10]⟩ : ByteArray)).size ≤ 9223372036854775807 then (zal.l0 k1 a2 (x8_1 ++ (((((zak l1 x20_1).f0) ++ (⟨#[58, 32]⟩ : ByteArray)) ++ ((zak l1 x20_1).f1)) ++ (⟨#[13, 10]⟩ : ByteArray))) true l1 (l1.length : Int) (wrap64 (x20_1 + 1))) else (none)) else (none)) else (none)) else (none)) else (zal.l0 k1 a2 x8_1 true l1 (l1.length : Int) (wrap64 (x20_1 + 1)))))) else (if (x8_1.size : Int) ≤ 8192 then (if ((zak l1 x20_1).f0).size + 2 ≤ 9223372036854775807 then (if (((zak l1 x20_1).f0) ++ (⟨#[58, 32]⟩ : ByteArray)).size + ((zak l1 x20_1).f1).size ≤ 9223372036854775807 then (if ((((zak l1 x20_1).f0) ++ (⟨#[58, 32]⟩ : ByteArray)) ++ ((zak l1 x20_1).f1)).size + 2 ≤ 9223372036854775807 then (if x8_1.size + (((((zak l1 x20_1).f0) ++ (⟨#[58, 32]⟩ : ByteArray)) ++ ((zak l1 x20_1).f1)) ++ (⟨#[13, 10]⟩ : ByteArray)).size ≤ 9223372036854775807 then (zal.l0 k1 a2 (x8_1 ++ (((((zak l1 x20_1).f0) ++ (⟨#[58, 32]⟩ : ByteArray)) ++ ((zak l1 x20_1).f1)) ++ (⟨#[13, 10]⟩ : ByteArray))) true l1 (l1.length : Int) (wrap64 (x20_1 + 1))) else (none)) else (none)) else (none)) else (none)) else (zal.l0 k1 a2 x8_1 true l1 (l1.length : Int) (wrap64 (x20_1 + 1)))))) = some (r1, r2) := by rw [if_pos rfl] at H; exact H
         clear H
         have H := H1
         clear H1
         replace H := Option.bind_eq_some_iff.mp H
         obtain ⟨t257, A260, H⟩ := H
         try dsimp only at H
         have A26 := Aside0.mk A260
         clear A260
         by_cases c27 : t257 = true
         ·subst c27
          have H1 : ((zax.f k1 ((zak l1 x20_1).f1)).bind fun t258 => (if t258.toList = ((zak l1 x20_1).f1).toList then (if t255.toList = ([99, 111, 110, 116, 101, 110, 116, 45, 108, 101, 110, 103, 116, 104] : List UInt8) then (if (x8_1.size : Int) ≤ 8192 then (if ((zak l1 x20_1).f0).size + 2 ≤ 9223372036854775807 then (if (((zak l1 x20_1).f0) ++ (⟨#[58, 32]⟩ : ByteArray)).size + ((zak l1 x20_1).f1).size ≤ 9223372036854775807 then (if ((((zak l1 x20_1).f0) ++ (⟨#[58, 32]⟩ : ByteArray)) ++ ((zak l1 x20_1).f1)).size + 2 ≤ 9223372036854775807 then (if x8_1.size + (((((zak l1 x20_1).f0) ++ (⟨#[58, 32]⟩ : ByteArray)) ++ ((zak l1 x20_1).f1)) ++ (⟨#[13, 10]⟩ : ByteArray)).size ≤ 9223372036854775807 then (zal.l0 k1 a2 (x8_1 ++ (((((zak l1 x20_1).f0) ++ (⟨#[58, 32]⟩ : ByteArray)) ++ ((zak l1 x20_1).f1)) ++ (⟨#[13, 10]⟩ : ByteArray))) true l1 (l1.length : Int) (wrap64 (x20_1 + 1))) else (none)) else (none)) else (none)) else (none)) else (zal.l0 k1 a2 x8_1 true l1 (l1.length : Int) (wrap64 (x20_1 + 1)))) else (if (x8_1.size : Int) ≤ 8192 then (if ((zak l1 x20_1).f0).size + 2 ≤ 9223372036854775807 then (if (((zak l1 x20_1).f0) ++ (⟨#[58, 32]⟩ : ByteArray)).size + ((zak l1 x20_1).f1).size ≤ 9223372036854775807 then (if ((((zak l1 x20_1).f0) ++ (⟨#[58, 32]⟩ : ByteArray)) ++ ((zak l1 x20_1).f1)).size + 2 ≤ 9223372036854775807 then (if x8_1.size + (((((zak l1 x20_1).f0) ++ (⟨#[58, 32]⟩ : ByteArray)) ++ ((zak l1 x20_1).f1)) ++ (⟨#[13, 10]⟩ : ByteArray)).size ≤ 9223372036854775807 then (zal.l0 k1 a2 (x8_1 ++ (((((zak l1 x20_1).f0) ++ (⟨#[58, 32]⟩ : ByteArray)) ++ ((zak l1 x20_1).f1)) ++ (⟨#[13, 10]⟩ : ByteArray))) (t255.toList == ([116, 114, 97, 110, 115, 102, 101, 114, 45, 101, 110, 99, 111, 100, 105, 110, 103] : List UInt8)) l1 (l1.length : Int) (wrap64 (x20_1 + 1))) else (none)) else (none)) else (none)) else (none)) else (zal.l0 k1 a2 x8_1 (t255.toList == ([116, 114, 97, 110, 115, 102, 101, 114, 45, 101, 110, 99, 111, 100, 105, 110, 103] : List UInt8)) l1 (l1.length : Int) (wrap64 (x20_1 + 1))))) else (if (x8_1.size : Int) ≤ 8192 then (if ((zak l1 x20_1).f0).size + 2 ≤ 9223372036854775807 then (if (((zak l1 x20_1).f0) ++ (⟨#[58, 32]⟩ : ByteArray)).size + ((zak l1 x20_1).f1).size ≤ 9223372036854775807 then (if ((((zak l1 x20_1).f0) ++ (⟨#[58, 32]⟩ : ByteArray)) ++ ((zak l1 x20_1).f1)).size + 2 ≤ 9223372036854775807 then (if x8_1.size + (((((zak l1 x20_1).f0) ++ (⟨#[58, 32]⟩ : ByteArray)) ++ ((zak l1 x20_1).f1)) ++ (⟨#[13, 10]⟩ : ByteArray)).size ≤ 9223372036854775807 then (zal.l0 k1 a2 (x8_1 ++ (((((zak l1 x20_1).f0) ++ (⟨#[58, 32]⟩ : ByteArray)) ++ ((zak l1 x20_1).f1)) ++ (⟨#[13, 10]⟩ : ByteArray))) true l1 (l1.length : Int) (wrap64 (x20_1 + 1))) else (none)) else (none)) else (none)) else (none)) else (zal.l0 k1 a2 x8_1 true l1 (l1.length : Int) (wrap64 (x20_1 + 1)))))) = some (r1, r2) := by rw [if_pos rfl] at H; exact H
          clear H
          have H := H1
          clear H1
          replace H := Option.bind_eq_some_iff.mp H
          obtain ⟨t258, A280, H⟩ := H
          try dsimp only at H
          have A28 := Aside0.mk A280
          clear A280
          by_cases c29 : t258.toList = ((zak l1 x20_1).f1).toList
          ·rw [if_pos c29] at H
           have c29b0 : (t258.toList == ((zak l1 x20_1).f1).toList) = true := beq_iff_eq.mpr c29
           have c29b1 : (t258.toList != ((zak l1 x20_1).f1).toList) = false := bne_eq_false_iff_eq.mpr c29
           clear c29
           by_cases c30 : t255.toList = ([99, 111, 110, 116, 101, 110, 116, 45, 108, 101, 110, 103, 116, 104] : List UInt8)
           ·rw [if_pos c30] at H
            have c30b0 : (t255.toList == ([99, 111, 110, 116, 101, 110, 116, 45, 108, 101, 110, 103, 116, 104] : List UInt8)) = true := beq_iff_eq.mpr c30
            have c30b1 : (t255.toList != ([99, 111, 110, 116, 101, 110, 116, 45, 108, 101, 110, 103, 116, 104] : List UInt8)) = false := bne_eq_false_iff_eq.mpr c30
            clear c30
            by_cases c31 : (x8_1.size : Int) ≤ 8192
            ·rw [if_pos c31] at H
             have c31b0 := decide_eq_true c31
             have c31b1 : decide (x8_1.size ≤ 8192) = true := decide_eq_true (by omega)
             clear c31
             by_cases c32 : ((zak l1 x20_1).f0).size + 2 ≤ 9223372036854775807
             ·rw [if_pos c32] at H
              have c32b0 := eq_true c32
              have c32b1 := decide_eq_true c32
              try have c32b2 := eq_false (Nat.not_lt.2 c32)
              by_cases c33 : (((zak l1 x20_1).f0) ++ (⟨#[58, 32]⟩ : ByteArray)).size + ((zak l1 x20_1).f1).size ≤ 9223372036854775807
              ·rw [if_pos c33] at H
               have c33e := c33
               (try simp only [ByteArray.size_append, gt_iff_lt, ge_iff_le, show (⟨#[58, 32]⟩ : ByteArray).size = 2 from rfl] at c33e)
               (try simp only [Int.natCast_add, Int.cast_ofNat_Int] at c33e)
               (try (have c33e2 := decide_eq_true c33e))
               (try replace c33e := eq_true c33e)
               have c33b0 := eq_true c33
               have c33b1 := decide_eq_true c33
               try have c33b2 := eq_false (Nat.not_lt.2 c33)
               have c33b8 : (9223372036854775807 < ((zak l1 x20_1).f0).size + 2 + ((zak l1 x20_1).f1).size) = False := by have h_ := c33; simp only [ByteArray.size_append] at h_; exact eq_false (Nat.not_lt.2 h_)
               by_cases c34 : ((((zak l1 x20_1).f0) ++ (⟨#[58, 32]⟩ : ByteArray)) ++ ((zak l1 x20_1).f1)).size + 2 ≤ 9223372036854775807
               ·rw [if_pos c34] at H
                have c34e := c34
                (try simp only [ByteArray.size_append, gt_iff_lt, ge_iff_le, show (⟨#[58, 32]⟩ : ByteArray).size = 2 from rfl] at c34e)
                (try simp only [Int.natCast_add, Int.cast_ofNat_Int] at c34e)
                (try (have c34e2 := decide_eq_true c34e))
                (try replace c34e := eq_true c34e)
                have c34b0 := eq_true c34
                have c34b1 := decide_eq_true c34
                try have c34b2 := eq_false (Nat.not_lt.2 c34)
                have c34b8 : (9223372036854775807 < ((zak l1 x20_1).f0).size + 2 + ((zak l1 x20_1).f1).size + 2) = False := by have h_ := c34; simp only [ByteArray.size_append] at h_; exact eq_false (Nat.not_lt.2 h_)
                by_cases c35 : x8_1.size + (((((zak l1 x20_1).f0) ++ (⟨#[58, 32]⟩ : ByteArray)) ++ ((zak l1 x20_1).f1)) ++ (⟨#[13, 10]⟩ : ByteArray)).size ≤ 9223372036854775807
                ·rw [if_pos c35] at H
                 have c35e := c35
                 (try simp only [ByteArray.size_append, gt_iff_lt, ge_iff_le, show (⟨#[13, 10]⟩ : ByteArray).size = 2 from rfl, show (⟨#[58, 32]⟩ : ByteArray).size = 2 from rfl] at c35e)
                 (try simp only [Int.natCast_add, Int.cast_ofNat_Int] at c35e)
                 (try (have c35e2 := decide_eq_true c35e))
                 (try replace c35e := eq_true c35e)
                 have c35b0 := eq_true c35
                 have c35b1 := decide_eq_true c35
                 try have c35b2 := eq_false (Nat.not_lt.2 c35)
                 have c35b8 : (9223372036854775807 < x8_1.size + (((zak l1 x20_1).f0).size + 2 + ((zak l1 x20_1).f1).size + 2)) = False := by have h_ := c35; simp only [ByteArray.size_append] at h_; exact eq_false (Nat.not_lt.2 h_)
                 have H' := Aside0.mk H
                 clear H
                 have p253 : 0 ≤ (x20_1 : Int) := of_decide_eq_true (by first | (with_reducible assumption) | assumption)
                 have q253 : x20_1 < (l1.length : Int) := of_decide_eq_true (by first | (with_reducible assumption) | assumption)
                 obtain ⟨ad253, e253, hx253_0, hx253_1⟩ := zdg HR1.out x20_1 p253 q253
                 cases e253
                 replace hx253_0 := (HB.out.cell (World.block_lt_of_cell? w _ hx253_0)).trans hx253_0
                 replace hx253_1 := (HB.out.cell (World.block_lt_of_cell? w _ hx253_1)).trans hx253_1
                 replace p253 := eq_true p253
                 replace q253 := eq_true q253
                 try go_wp2_with (first | ((with_reducible refine zbj (N := 11) rfl ?_); (try (refine zbi (by rfl) ?_; dsimp only)); refine zbf ?hg (N := 11) ?hd (cs := #[.string ⟨#[]⟩, .string ⟨#[]⟩]) (t := 62) ?hr ?_; (case hd => rfl); (case hg => rfl); (case hr => first | (go_simp; done) | (go_simp; rfl)); intro gb254 hg w36 hbox hb; have n0_ := Aside0.mk (zam (by repeat (first | (with_reducible first | exact HB.out | apply zac | apply zaa | apply zab) | exact HB.out)) hb); have n1_ := Aside0.mk (hbox); have n2_ := Aside0.mk ((by rw [hg]; exact (zan (by repeat (first | (with_reducible first | exact HB.out | apply zac | apply zaa | apply zab) | exact HB.out))) : w.heap.size ≤ gb254)); have n3_ := Aside0.mk ((by rw [hg]; exact (zan (by repeat (first | (with_reducible first | exact HB.out | apply zac | apply zaa | apply zab) | exact HB.out))) : w.heap.size ≤ gb254)); clear HB; have HB := n0_; have BK254 := n1_; have GW254 := n2_; have GE254 := n3_; clear n0_ n1_ n2_ n3_; clear hb hbox hg; have hcz37_0 : w36.cell? ⟨gb254, 0, none⟩ = some (.string ⟨#[]⟩) := (zah BK254.out 0).trans rfl; have hcz37_1 : w36.cell? ⟨gb254, 1, none⟩ = some (.string ⟨#[]⟩) := (zah BK254.out 1).trans rfl; have hfz37_0 := zai BK254.out 0; have hfz37_1 := zai BK254.out 1) | ((with_reducible refine zar (f := 31) rfl ?_); refine zbr (some 26) rfl rfl Tryz.func31 (by kernel_rfl) rfl #[.string ((zak l1 x20_1).f0)] rfl (by (try simp only [List.map_toArray, List.map_cons, List.map_nil]); first | done | rfl | (simp only [List.length_drop, List.length_take]; rfl)) ?_; (with_reducible refine (zba.calls k1 ((zak l1 x20_1).f0) t255 _ ?side1 A8.out).mono ?_); (case side1 => exact LaidM.below HT.out (by repeat (first | (with_reducible first | exact HB.out | apply zac | apply zaa | apply zab | refine zad ?_ GE254.out) | exact HB.out))); rintro e w38 ⟨rfl, hb⟩; refine ⟨_, rfl, ?_⟩; have n0_ := Aside0.mk (zao (g := gb254) (o := .cells #[.string ((zak l1 x20_1).f0), .string ((zak l1 x20_1).f1)] 62 (0, 0)) (by (with_reducible repeat (first | refine zae ?_ _ | refine zag ?_ | refine zaf ?_ _)); refine zav (cs := #[.string ((zak l1 x20_1).f0), .string ⟨#[]⟩]) ?_ 1 _ rfl; (with_reducible repeat (first | refine zae ?_ _ | refine zag ?_ | refine zaf ?_ _)); refine zav (cs := #[.string ⟨#[]⟩, .string ⟨#[]⟩]) ?_ 0 _ rfl; (with_reducible repeat (first | refine zae ?_ _ | refine zag ?_ | refine zaf ?_ _)); exact BK254.out) hb); have n1_ := Aside0.mk (zam (by repeat (first | (with_reducible first | exact HB.out | apply zac | apply zaa | apply zab | refine zad ?_ GE254.out) | exact HB.out)) hb); clear BK254; clear HB; have BK254 := n0_; have HB := n1_; clear n0_ n1_; (try clear hb); (try clear hb2); (try clear hk); (try clear hi)))
                 have n0_ := Aside0.mk (zag BK254.out)
                 have n1_ := Aside0.mk (zab HB.out)
                 clear BK254
                 clear HB
                 have BK254 := n0_
                 have HB := n1_
                 clear n0_ n1_
                 refine zda (n := 30) (S := fun w' => w'.cell? ⟨gb254, 0, none⟩ = some (.string ((zak l1 x20_1).f0)) ∧ w'.cell? ⟨gb254, 1, none⟩ = some (.string ((zak l1 x20_1).f1))) (ds := []) (bm 30 0) (by kernel_rfl) rfl rfl ⟨(zah BK254.out 0).trans rfl, (zah BK254.out 1).trans rfl⟩ (fun hHeld => ?_); refine zci zal.tab7 zal.bits7 (fun HT_ HW_ => ?_)
                 generalize w38.drew = w39 at BK254 HB hHeld ⊢
                 refine pv_ HT_ 0 (bm 30 1) ?_
                 refine pv_ HT_ 1 (bm 30 3) ?_
                 refine pv_ HT_ 2 (bm 30 7) ?_
                 refine zcn (i := 3) (N := some 30) (v := ?_) (a' := ?_) (bm 30 15) rfl rfl (zbk HT_.out HW_.out (by kernel_rfl)) (fun _ _ _ h => h) (Or.inl ⟨by rfl, ?_⟩) hHeld ?_ ?_
                 rotate_left
                 ·rintro w' ⟨s0, s1⟩
                  go_simp
                  with_reducible rfl
                 rotate_left
                 ·simp only [Act.put, List.setIfInBounds_toArray, List.set_cons_zero, List.set_cons_succ, zbq, zbs]
                  rfl
                 refine one_ (i := 4) (N := some 31) (bm 30 31) rfl rfl (zcg HT_.out (by kernel_rfl)) (by decide) (fun K hK => ?_)
                 refine zcw Tryz.func32 (by kernel_rfl) rfl #[.string ((zak l1 x20_1).f0)] (by rfl) rfl rfl (by (try simp only [List.map_toArray, List.map_cons, List.map_nil]); first | done | rfl | (simp only [List.length_drop, List.length_take]; rfl)) ?_
                 with_reducible refine (zay.calls k1 ((zak l1 x20_1).f0) true _ A24.out).mono ?_
                 rintro e w' ⟨rfl, ⟨nd, rfl⟩⟩
                 refine ⟨_, rfl, ?_⟩
                 refine hK.out _ _ ⟨(zah BK254.out 0).trans rfl, (zah BK254.out 1).trans rfl⟩ (fun hHeld => ?_)
                 clear hK K
                 refine zcv (a' := ?_) ?_ ?_
                 rotate_left
                 ·show Act.put _ (some 31) _ = _
                  simp only [Act.put, List.setIfInBounds_toArray, List.set_cons_zero, List.set_cons_succ, zbq, zbs]
                  rfl
                 refine pv_ HT_ 5 (bm 30 63) ?_
                 refine pv_ HT_ 6 (bm 30 127) ?_
                 refine pv_ HT_ 7 (bm 30 255) ?_
                 refine pv_ HT_ 8 (bm 30 511) ?_
                 refine zcn (i := 9) (N := some 36) (v := ?_) (a' := ?_) (bm 30 1023) rfl rfl (zbk HT_.out HW_.out (by kernel_rfl)) (fun _ _ _ h => h) (Or.inl ⟨by rfl, ?_⟩) hHeld ?_ ?_
                 rotate_left
                 ·rintro w' ⟨s0, s1⟩
                  go_simp
                  with_reducible rfl
                 rotate_left
                 ·simp only [Act.put, List.setIfInBounds_toArray, List.set_cons_zero, List.set_cons_succ, zbq, zbs]
                  rfl
                 refine one_ (i := 10) (N := some 37) (bm 30 2047) rfl rfl (zcg HT_.out (by kernel_rfl)) (by decide) (fun K hK => ?_)
                 refine zcw Tryz.func29 (by kernel_rfl) rfl #[.string ((zak l1 x20_1).f1), .int .u8 32, .int .u8 126, .bool true] (by rfl) rfl rfl (by (try simp only [List.map_toArray, List.map_cons, List.map_nil]); first | done | rfl | (simp only [List.length_drop, List.length_take]; rfl)) ?_
                 with_reducible refine (zaw.calls k1 ((zak l1 x20_1).f1) 32 126 true true _ A26.out).mono ?_
                 rintro e w' ⟨rfl, ⟨nd, rfl⟩⟩
                 refine ⟨_, rfl, ?_⟩
                 refine hK.out _ _ ⟨(zah BK254.out 0).trans rfl, (zah BK254.out 1).trans rfl⟩ (fun hHeld => ?_)
                 clear hK K
                 refine zcv (a' := ?_) ?_ ?_
                 rotate_left
                 ·show Act.put _ (some 37) _ = _
                  simp only [Act.put, List.setIfInBounds_toArray, List.set_cons_zero, List.set_cons_succ, zbq, zbs]
                  rfl
                 refine pv_ HT_ 11 (bm 30 4095) ?_
                 refine pv_ HT_ 12 (bm 30 8191) ?_
                 refine pv_ HT_ 13 (bm 30 16383) ?_
                 refine pv_ HT_ 14 (bm 30 32767) ?_
                 refine pv_ HT_ 17 (bm 30 163839) ?_
                 refine zcn (i := 15) (N := some 42) (v := ?_) (a' := ?_) (bm 30 196607) rfl rfl (zbk HT_.out HW_.out (by kernel_rfl)) (fun _ _ _ h => h) (Or.inl ⟨by rfl, ?_⟩) hHeld ?_ ?_
                 rotate_left
                 ·rintro w' ⟨s0, s1⟩
                  go_simp
                  with_reducible rfl
                 rotate_left
                 ·simp only [Act.put, List.setIfInBounds_toArray, List.set_cons_zero, List.set_cons_succ, zbq, zbs]
                  rfl
                 refine zcn (i := 18) (N := some 45) (v := ?_) (a' := ?_) (bm 30 458751) rfl rfl (zbk HT_.out HW_.out (by kernel_rfl)) (fun _ _ _ h => h) (Or.inl ⟨by rfl, ?_⟩) hHeld ?_ ?_
                 rotate_left
                 ·rintro w' ⟨s0, s1⟩
                  go_simp
                  with_reducible rfl
                 rotate_left
                 ·simp only [Act.put, List.setIfInBounds_toArray, List.set_cons_zero, List.set_cons_succ, zbq, zbs]
                  rfl
                 refine one_ (i := 16) (N := some 43) (bm 30 524287) rfl rfl (zcg HT_.out (by kernel_rfl)) (by decide) (fun K hK => ?_)
                 refine zcw Tryz.func33 (by kernel_rfl) rfl #[.string ((zak l1 x20_1).f1)] (by rfl) rfl rfl (by (try simp only [List.map_toArray, List.map_cons, List.map_nil]); first | done | rfl | (simp only [List.length_drop, List.length_take]; rfl)) ?_
                 with_reducible refine (zax.calls k1 ((zak l1 x20_1).f1) t258 _ A28.out).mono ?_
                 rintro e w' ⟨rfl, ⟨nd, rfl⟩⟩
                 refine ⟨_, rfl, ?_⟩
                 refine hK.out _ _ ⟨(zah BK254.out 0).trans rfl, (zah BK254.out 1).trans rfl⟩ (fun hHeld => ?_)
                 clear hK K
                 refine zcv (a' := ?_) ?_ ?_
                 rotate_left
                 ·show Act.put _ (some 43) _ = _
                  simp only [Act.put, List.setIfInBounds_toArray, List.set_cons_zero, List.set_cons_succ, zbq, zbs]
                  rfl
                 refine pv_ HT_ 19 (bm 30 1048575) ?_
                 refine pv_ HT_ 20 (bm 30 2097151) ?_
                 refine pv_ HT_ 21 (bm 30 4194303) ?_
                 refine pv_ HT_ 22 (bm 30 8388607) ?_
                 refine pv_ HT_ 23 (bm 30 16777215) ?_
                 refine pv_ HT_ 24 (bm 30 33554431) ?_
                 refine pv_ HT_ 25 (bm 30 67108863) ?_
                 refine pu_ HT_ 26 (bm 30 134217727) ?_
                 refine pu_ HT_ 27 (bm 30 268435455) ?_
                 refine pv_ HT_ 28 (bm 30 536870911) ?_
                 refine pv_ HT_ 29 (bm 30 1073741823) ?_
                 refine zdu (zcu HT_.out (by kernel_rfl)) ?_
                 have hcz40_0 : w39.cell? ⟨gb254, 0, none⟩ = some (.string ((zak l1 x20_1).f0)) := (zah BK254.out 0).trans rfl
                 have hcz40_1 : w39.cell? ⟨gb254, 1, none⟩ = some (.string ((zak l1 x20_1).f1)) := (zah BK254.out 1).trans rfl
                 have hfz40_0 := zai BK254.out 0
                 have hfz40_1 := zai BK254.out 1
                 try go_wp2
                 go_roundg k1
                 case measure => have := HK1.out; omega
                 case rel => exact ⟨(x8_1 ++ (((((zak l1 x20_1).f0) ++ (⟨#[58, 32]⟩ : ByteArray)) ++ ((zak l1 x20_1).f1)) ++ (⟨#[13, 10]⟩ : ByteArray))), (true), (wrap64 (x20_1 + 1)), (by first | rfl | (simp; done) | (simp [*]; done)), (by first | rfl | (simp; done) | (simp [*]; done)), (by first | rfl | (simp; done) | (simp [*]; done)), H', ⟨by have := HK1.out; omega⟩, ⟨by repeat (first | (with_reducible first | exact HB.out | apply zac | apply zaa | apply zab | refine zad ?_ GE254.out) | exact HB.out)⟩⟩
                ·rw [if_neg c35] at H
                 have c35e := c35
                 (try simp only [ByteArray.size_append, gt_iff_lt, ge_iff_le, show (⟨#[13, 10]⟩ : ByteArray).size = 2 from rfl, show (⟨#[58, 32]⟩ : ByteArray).size = 2 from rfl] at c35e)
                 (try simp only [Int.natCast_add, Int.cast_ofNat_Int] at c35e)
                 (try (have c35e2 := decide_eq_false c35e))
                 (try replace c35e := eq_false c35e)
                 exact absurd H (by simp)
               ·rw [if_neg c34] at H
                have c34e := c34
                (try simp only [ByteArray.size_append, gt_iff_lt, ge_iff_le, show (⟨#[58, 32]⟩ : ByteArray).size = 2 from rfl] at c34e)
                (try simp only [Int.natCast_add, Int.cast_ofNat_Int] at c34e)
                (try (have c34e2 := decide_eq_false c34e))
                (try replace c34e := eq_false c34e)
                exact absurd H (by simp)
              ·rw [if_neg c33] at H
               have c33e := c33
               (try simp only [ByteArray.size_append, gt_iff_lt, ge_iff_le, show (⟨#[58, 32]⟩ : ByteArray).size = 2 from rfl] at c33e)
               (try simp only [Int.natCast_add, Int.cast_ofNat_Int] at c33e)
               (try (have c33e2 := decide_eq_false c33e))
               (try replace c33e := eq_false c33e)
               exact absurd H (by simp)
             ·rw [if_neg c32] at H
              exact absurd H (by simp)
            ·rw [if_neg c31] at H
             have c31b0 : decide ((x8_1.size : Int) ≤ 8192) = false := decide_eq_false c31
             have c31b1 : decide (x8_1.size ≤ 8192) = false := decide_eq_false (by omega)
             clear c31
             have H' := Aside0.mk H
             clear H
             have p253 : 0 ≤ (x20_1 : Int) := of_decide_eq_true (by first | (with_reducible assumption) | assumption)
             have q253 : x20_1 < (l1.length : Int) := of_decide_eq_true (by first | (with_reducible assumption) | assumption)
             obtain ⟨ad253, e253, hx253_0, hx253_1⟩ := zdg HR1.out x20_1 p253 q253
             cases e253
             replace hx253_0 := (HB.out.cell (World.block_lt_of_cell? w _ hx253_0)).trans hx253_0
             replace hx253_1 := (HB.out.cell (World.block_lt_of_cell? w _ hx253_1)).trans hx253_1
             replace p253 := eq_true p253
             replace q253 := eq_true q253
             try go_wp2_with (first | ((with_reducible refine zbj (N := 11) rfl ?_); (try (refine zbi (by rfl) ?_; dsimp only)); refine zbf ?hg (N := 11) ?hd (cs := #[.string ⟨#[]⟩, .string ⟨#[]⟩]) (t := 62) ?hr ?_; (case hd => rfl); (case hg => rfl); (case hr => first | (go_simp; done) | (go_simp; rfl)); intro gb254 hg w41 hbox hb; have n0_ := Aside0.mk (zam (by repeat (first | (with_reducible first | exact HB.out | apply zac | apply zaa | apply zab) | exact HB.out)) hb); have n1_ := Aside0.mk (hbox); have n2_ := Aside0.mk ((by rw [hg]; exact (zan (by repeat (first | (with_reducible first | exact HB.out | apply zac | apply zaa | apply zab) | exact HB.out))) : w.heap.size ≤ gb254)); have n3_ := Aside0.mk ((by rw [hg]; exact (zan (by repeat (first | (with_reducible first | exact HB.out | apply zac | apply zaa | apply zab) | exact HB.out))) : w.heap.size ≤ gb254)); clear HB; have HB := n0_; have BK254 := n1_; have GW254 := n2_; have GE254 := n3_; clear n0_ n1_ n2_ n3_; clear hb hbox hg; have hcz42_0 : w41.cell? ⟨gb254, 0, none⟩ = some (.string ⟨#[]⟩) := (zah BK254.out 0).trans rfl; have hcz42_1 : w41.cell? ⟨gb254, 1, none⟩ = some (.string ⟨#[]⟩) := (zah BK254.out 1).trans rfl; have hfz42_0 := zai BK254.out 0; have hfz42_1 := zai BK254.out 1) | ((with_reducible refine zar (f := 31) rfl ?_); refine zbr (some 26) rfl rfl Tryz.func31 (by kernel_rfl) rfl #[.string ((zak l1 x20_1).f0)] rfl (by (try simp only [List.map_toArray, List.map_cons, List.map_nil]); first | done | rfl | (simp only [List.length_drop, List.length_take]; rfl)) ?_; (with_reducible refine (zba.calls k1 ((zak l1 x20_1).f0) t255 _ ?side1 A8.out).mono ?_); (case side1 => exact LaidM.below HT.out (by repeat (first | (with_reducible first | exact HB.out | apply zac | apply zaa | apply zab | refine zad ?_ GE254.out) | exact HB.out))); rintro e w43 ⟨rfl, hb⟩; refine ⟨_, rfl, ?_⟩; have n0_ := Aside0.mk (zao (g := gb254) (o := .cells #[.string ((zak l1 x20_1).f0), .string ((zak l1 x20_1).f1)] 62 (0, 0)) (by (with_reducible repeat (first | refine zae ?_ _ | refine zag ?_ | refine zaf ?_ _)); refine zav (cs := #[.string ((zak l1 x20_1).f0), .string ⟨#[]⟩]) ?_ 1 _ rfl; (with_reducible repeat (first | refine zae ?_ _ | refine zag ?_ | refine zaf ?_ _)); refine zav (cs := #[.string ⟨#[]⟩, .string ⟨#[]⟩]) ?_ 0 _ rfl; (with_reducible repeat (first | refine zae ?_ _ | refine zag ?_ | refine zaf ?_ _)); exact BK254.out) hb); have n1_ := Aside0.mk (zam (by repeat (first | (with_reducible first | exact HB.out | apply zac | apply zaa | apply zab | refine zad ?_ GE254.out) | exact HB.out)) hb); clear BK254; clear HB; have BK254 := n0_; have HB := n1_; clear n0_ n1_; (try clear hb); (try clear hb2); (try clear hk); (try clear hi)))
             have n0_ := Aside0.mk (zag BK254.out)
             have n1_ := Aside0.mk (zab HB.out)
             clear BK254
             clear HB
             have BK254 := n0_
             have HB := n1_
             clear n0_ n1_
             refine zda (n := 30) (S := fun w' => w'.cell? ⟨gb254, 0, none⟩ = some (.string ((zak l1 x20_1).f0)) ∧ w'.cell? ⟨gb254, 1, none⟩ = some (.string ((zak l1 x20_1).f1))) (ds := []) (bm 30 0) (by kernel_rfl) rfl rfl ⟨(zah BK254.out 0).trans rfl, (zah BK254.out 1).trans rfl⟩ (fun hHeld => ?_); refine zci zal.tab7 zal.bits7 (fun HT_ HW_ => ?_)
             generalize w43.drew = w44 at BK254 HB hHeld ⊢
             refine pv_ HT_ 0 (bm 30 1) ?_
             refine pv_ HT_ 1 (bm 30 3) ?_
             refine pv_ HT_ 2 (bm 30 7) ?_
             refine zcn (i := 3) (N := some 30) (v := ?_) (a' := ?_) (bm 30 15) rfl rfl (zbk HT_.out HW_.out (by kernel_rfl)) (fun _ _ _ h => h) (Or.inl ⟨by rfl, ?_⟩) hHeld ?_ ?_
             rotate_left
             ·rintro w' ⟨s0, s1⟩
              go_simp
              with_reducible rfl
             rotate_left
             ·simp only [Act.put, List.setIfInBounds_toArray, List.set_cons_zero, List.set_cons_succ, zbq, zbs]
              rfl
             refine one_ (i := 4) (N := some 31) (bm 30 31) rfl rfl (zcg HT_.out (by kernel_rfl)) (by decide) (fun K hK => ?_)
             refine zcw Tryz.func32 (by kernel_rfl) rfl #[.string ((zak l1 x20_1).f0)] (by rfl) rfl rfl (by (try simp only [List.map_toArray, List.map_cons, List.map_nil]); first | done | rfl | (simp only [List.length_drop, List.length_take]; rfl)) ?_
             with_reducible refine (zay.calls k1 ((zak l1 x20_1).f0) true _ A24.out).mono ?_
             rintro e w' ⟨rfl, ⟨nd, rfl⟩⟩
             refine ⟨_, rfl, ?_⟩
             refine hK.out _ _ ⟨(zah BK254.out 0).trans rfl, (zah BK254.out 1).trans rfl⟩ (fun hHeld => ?_)
             clear hK K
             refine zcv (a' := ?_) ?_ ?_
             rotate_left
             ·show Act.put _ (some 31) _ = _
              simp only [Act.put, List.setIfInBounds_toArray, List.set_cons_zero, List.set_cons_succ, zbq, zbs]
              rfl
             refine pv_ HT_ 5 (bm 30 63) ?_
             refine pv_ HT_ 6 (bm 30 127) ?_
             refine pv_ HT_ 7 (bm 30 255) ?_
             refine pv_ HT_ 8 (bm 30 511) ?_
             refine zcn (i := 9) (N := some 36) (v := ?_) (a' := ?_) (bm 30 1023) rfl rfl (zbk HT_.out HW_.out (by kernel_rfl)) (fun _ _ _ h => h) (Or.inl ⟨by rfl, ?_⟩) hHeld ?_ ?_
             rotate_left
             ·rintro w' ⟨s0, s1⟩
              go_simp
              with_reducible rfl
             rotate_left
             ·simp only [Act.put, List.setIfInBounds_toArray, List.set_cons_zero, List.set_cons_succ, zbq, zbs]
              rfl
             refine one_ (i := 10) (N := some 37) (bm 30 2047) rfl rfl (zcg HT_.out (by kernel_rfl)) (by decide) (fun K hK => ?_)
             refine zcw Tryz.func29 (by kernel_rfl) rfl #[.string ((zak l1 x20_1).f1), .int .u8 32, .int .u8 126, .bool true] (by rfl) rfl rfl (by (try simp only [List.map_toArray, List.map_cons, List.map_nil]); first | done | rfl | (simp only [List.length_drop, List.length_take]; rfl)) ?_
             with_reducible refine (zaw.calls k1 ((zak l1 x20_1).f1) 32 126 true true _ A26.out).mono ?_
             rintro e w' ⟨rfl, ⟨nd, rfl⟩⟩
             refine ⟨_, rfl, ?_⟩
             refine hK.out _ _ ⟨(zah BK254.out 0).trans rfl, (zah BK254.out 1).trans rfl⟩ (fun hHeld => ?_)
             clear hK K
             refine zcv (a' := ?_) ?_ ?_
             rotate_left
             ·show Act.put _ (some 37) _ = _
              simp only [Act.put, List.setIfInBounds_toArray, List.set_cons_zero, List.set_cons_succ, zbq, zbs]
              rfl
             refine pv_ HT_ 11 (bm 30 4095) ?_
             refine pv_ HT_ 12 (bm 30 8191) ?_
             refine pv_ HT_ 13 (bm 30 16383) ?_
             refine pv_ HT_ 14 (bm 30 32767) ?_
             refine pv_ HT_ 17 (bm 30 163839) ?_
             refine zcn (i := 15) (N := some 42) (v := ?_) (a' := ?_) (bm 30 196607) rfl rfl (zbk HT_.out HW_.out (by kernel_rfl)) (fun _ _ _ h => h) (Or.inl ⟨by rfl, ?_⟩) hHeld ?_ ?_
             rotate_left
             ·rintro w' ⟨s0, s1⟩
              go_simp
              with_reducible rfl
             rotate_left
             ·simp only [Act.put, List.setIfInBounds_toArray, List.set_cons_zero, List.set_cons_succ, zbq, zbs]
              rfl
             refine zcn (i := 18) (N := some 45) (v := ?_) (a' := ?_) (bm 30 458751) rfl rfl (zbk HT_.out HW_.out (by kernel_rfl)) (fun _ _ _ h => h) (Or.inl ⟨by rfl, ?_⟩) hHeld ?_ ?_
             rotate_left
             ·rintro w' ⟨s0, s1⟩
              go_simp
              with_reducible rfl
             rotate_left
             ·simp only [Act.put, List.setIfInBounds_toArray, List.set_cons_zero, List.set_cons_succ, zbq, zbs]
              rfl
             refine one_ (i := 16) (N := some 43) (bm 30 524287) rfl rfl (zcg HT_.out (by kernel_rfl)) (by decide) (fun K hK => ?_)
             refine zcw Tryz.func33 (by kernel_rfl) rfl #[.string ((zak l1 x20_1).f1)] (by rfl) rfl rfl (by (try simp only [List.map_toArray, List.map_cons, List.map_nil]); first | done | rfl | (simp only [List.length_drop, List.length_take]; rfl)) ?_
             with_reducible refine (zax.calls k1 ((zak l1 x20_1).f1) t258 _ A28.out).mono ?_
             rintro e w' ⟨rfl, ⟨nd, rfl⟩⟩
             refine ⟨_, rfl, ?_⟩
             refine hK.out _ _ ⟨(zah BK254.out 0).trans rfl, (zah BK254.out 1).trans rfl⟩ (fun hHeld => ?_)
             clear hK K
             refine zcv (a' := ?_) ?_ ?_
             rotate_left
             ·show Act.put _ (some 43) _ = _
              simp only [Act.put, List.setIfInBounds_toArray, List.set_cons_zero, List.set_cons_succ, zbq, zbs]
              rfl
             refine pv_ HT_ 19 (bm 30 1048575) ?_
             refine pv_ HT_ 20 (bm 30 2097151) ?_
             refine pv_ HT_ 21 (bm 30 4194303) ?_
             refine pv_ HT_ 22 (bm 30 8388607) ?_
             refine pv_ HT_ 23 (bm 30 16777215) ?_
             refine pv_ HT_ 24 (bm 30 33554431) ?_
             refine pv_ HT_ 25 (bm 30 67108863) ?_
             refine pu_ HT_ 26 (bm 30 134217727) ?_
             refine pu_ HT_ 27 (bm 30 268435455) ?_
             refine pv_ HT_ 28 (bm 30 536870911) ?_
             refine pv_ HT_ 29 (bm 30 1073741823) ?_
             refine zdu (zcu HT_.out (by kernel_rfl)) ?_
             try go_wp2
             go_roundg k1
             case measure => have := HK1.out; omega
             case rel => exact ⟨(x8_1), (true), (wrap64 (x20_1 + 1)), (by first | rfl | (simp; done) | (simp [*]; done)), (by first | rfl | (simp; done) | (simp [*]; done)), (by first | rfl | (simp; done) | (simp [*]; done)), H', ⟨by have := HK1.out; omega⟩, ⟨by repeat (first | (with_reducible first | exact HB.out | apply zac | apply zaa | apply zab | refine zad ?_ GE254.out) | exact HB.out)⟩⟩
           ·rw [if_neg c30] at H
            have c30b0 : (t255.toList == ([99, 111, 110, 116, 101, 110, 116, 45, 108, 101, 110, 103, 116, 104] : List UInt8)) = false := beq_eq_false_iff_ne.mpr c30
            have c30b1 : (t255.toList != ([99, 111, 110, 116, 101, 110, 116, 45, 108, 101, 110, 103, 116, 104] : List UInt8)) = true := bne_iff_ne.mpr c30
            by_cases c45 : (x8_1.size : Int) ≤ 8192
            ·rw [if_pos c45] at H
             have c45b0 := decide_eq_true c45
             have c45b1 : decide (x8_1.size ≤ 8192) = true := decide_eq_true (by omega)
             clear c45
             by_cases c46 : ((zak l1 x20_1).f0).size + 2 ≤ 9223372036854775807
             ·rw [if_pos c46] at H
              have c46b0 := eq_true c46
              have c46b1 := decide_eq_true c46
              try have c46b2 := eq_false (Nat.not_lt.2 c46)
              by_cases c47 : (((zak l1 x20_1).f0) ++ (⟨#[58, 32]⟩ : ByteArray)).size + ((zak l1 x20_1).f1).size ≤ 9223372036854775807
              ·rw [if_pos c47] at H
               have c47e := c47
               (try simp only [ByteArray.size_append, gt_iff_lt, ge_iff_le, show (⟨#[58, 32]⟩ : ByteArray).size = 2 from rfl] at c47e)
               (try simp only [Int.natCast_add, Int.cast_ofNat_Int] at c47e)
               (try (have c47e2 := decide_eq_true c47e))
               (try replace c47e := eq_true c47e)
               have c47b0 := eq_true c47
               have c47b1 := decide_eq_true c47
               try have c47b2 := eq_false (Nat.not_lt.2 c47)
               have c47b8 : (9223372036854775807 < ((zak l1 x20_1).f0).size + 2 + ((zak l1 x20_1).f1).size) = False := by have h_ := c47; simp only [ByteArray.size_append] at h_; exact eq_false (Nat.not_lt.2 h_)
               by_cases c48 : ((((zak l1 x20_1).f0) ++ (⟨#[58, 32]⟩ : ByteArray)) ++ ((zak l1 x20_1).f1)).size + 2 ≤ 9223372036854775807
               ·rw [if_pos c48] at H
                have c48e := c48
                (try simp only [ByteArray.size_append, gt_iff_lt, ge_iff_le, show (⟨#[58, 32]⟩ : ByteArray).size = 2 from rfl] at c48e)
                (try simp only [Int.natCast_add, Int.cast_ofNat_Int] at c48e)
                (try (have c48e2 := decide_eq_true c48e))
                (try replace c48e := eq_true c48e)
                have c48b0 := eq_true c48
                have c48b1 := decide_eq_true c48
                try have c48b2 := eq_false (Nat.not_lt.2 c48)
                have c48b8 : (9223372036854775807 < ((zak l1 x20_1).f0).size + 2 + ((zak l1 x20_1).f1).size + 2) = False := by have h_ := c48; simp only [ByteArray.size_append] at h_; exact eq_false (Nat.not_lt.2 h_)
                by_cases c49 : x8_1.size + (((((zak l1 x20_1).f0) ++ (⟨#[58, 32]⟩ : ByteArray)) ++ ((zak l1 x20_1).f1)) ++ (⟨#[13, 10]⟩ : ByteArray)).size ≤ 9223372036854775807
                ·rw [if_pos c49] at H
                 have c49e := c49
                 (try simp only [ByteArray.size_append, gt_iff_lt, ge_iff_le, show (⟨#[13, 10]⟩ : ByteArray).size = 2 from rfl, show (⟨#[58, 32]⟩ : ByteArray).size = 2 from rfl] at c49e)
                 (try simp only [Int.natCast_add, Int.cast_ofNat_Int] at c49e)
                 (try (have c49e2 := decide_eq_true c49e))
                 (try replace c49e := eq_true c49e)
                 have c49b0 := eq_true c49
                 have c49b1 := decide_eq_true c49
                 try have c49b2 := eq_false (Nat.not_lt.2 c49)
                 have c49b8 : (9223372036854775807 < x8_1.size + (((zak l1 x20_1).f0).size + 2 + ((zak l1 x20_1).f1).size + 2)) = False := by have h_ := c49; simp only [ByteArray.size_append] at h_; exact eq_false (Nat.not_lt.2 h_)
                 have H' := Aside0.mk H
                 clear H
                 have p253 : 0 ≤ (x20_1 : Int) := of_decide_eq_true (by first | (with_reducible assumption) | assumption)
                 have q253 : x20_1 < (l1.length : Int) := of_decide_eq_true (by first | (with_reducible assumption) | assumption)
                 obtain ⟨ad253, e253, hx253_0, hx253_1⟩ := zdg HR1.out x20_1 p253 q253
                 cases e253
                 replace hx253_0 := (HB.out.cell (World.block_lt_of_cell? w _ hx253_0)).trans hx253_0
                 replace hx253_1 := (HB.out.cell (World.block_lt_of_cell? w _ hx253_1)).trans hx253_1
                 replace p253 := eq_true p253
                 replace q253 := eq_true q253
                 try go_wp2_with (first | ((with_reducible refine zbj (N := 11) rfl ?_); (try (refine zbi (by rfl) ?_; dsimp only)); refine zbf ?hg (N := 11) ?hd (cs := #[.string ⟨#[]⟩, .string ⟨#[]⟩]) (t := 62) ?hr ?_; (case hd => rfl); (case hg => rfl); (case hr => first | (go_simp; done) | (go_simp; rfl)); intro gb254 hg w50 hbox hb; have n0_ := Aside0.mk (zam (by repeat (first | (with_reducible first | exact HB.out | apply zac | apply zaa | apply zab) | exact HB.out)) hb); have n1_ := Aside0.mk (hbox); have n2_ := Aside0.mk ((by rw [hg]; exact (zan (by repeat (first | (with_reducible first | exact HB.out | apply zac | apply zaa | apply zab) | exact HB.out))) : w.heap.size ≤ gb254)); have n3_ := Aside0.mk ((by rw [hg]; exact (zan (by repeat (first | (with_reducible first | exact HB.out | apply zac | apply zaa | apply zab) | exact HB.out))) : w.heap.size ≤ gb254)); clear HB; have HB := n0_; have BK254 := n1_; have GW254 := n2_; have GE254 := n3_; clear n0_ n1_ n2_ n3_; clear hb hbox hg; have hcz51_0 : w50.cell? ⟨gb254, 0, none⟩ = some (.string ⟨#[]⟩) := (zah BK254.out 0).trans rfl; have hcz51_1 : w50.cell? ⟨gb254, 1, none⟩ = some (.string ⟨#[]⟩) := (zah BK254.out 1).trans rfl; have hfz51_0 := zai BK254.out 0; have hfz51_1 := zai BK254.out 1) | ((with_reducible refine zar (f := 31) rfl ?_); refine zbr (some 26) rfl rfl Tryz.func31 (by kernel_rfl) rfl #[.string ((zak l1 x20_1).f0)] rfl (by (try simp only [List.map_toArray, List.map_cons, List.map_nil]); first | done | rfl | (simp only [List.length_drop, List.length_take]; rfl)) ?_; (with_reducible refine (zba.calls k1 ((zak l1 x20_1).f0) t255 _ ?side1 A8.out).mono ?_); (case side1 => exact LaidM.below HT.out (by repeat (first | (with_reducible first | exact HB.out | apply zac | apply zaa | apply zab | refine zad ?_ GE254.out) | exact HB.out))); rintro e w52 ⟨rfl, hb⟩; refine ⟨_, rfl, ?_⟩; have n0_ := Aside0.mk (zao (g := gb254) (o := .cells #[.string ((zak l1 x20_1).f0), .string ((zak l1 x20_1).f1)] 62 (0, 0)) (by (with_reducible repeat (first | refine zae ?_ _ | refine zag ?_ | refine zaf ?_ _)); refine zav (cs := #[.string ((zak l1 x20_1).f0), .string ⟨#[]⟩]) ?_ 1 _ rfl; (with_reducible repeat (first | refine zae ?_ _ | refine zag ?_ | refine zaf ?_ _)); refine zav (cs := #[.string ⟨#[]⟩, .string ⟨#[]⟩]) ?_ 0 _ rfl; (with_reducible repeat (first | refine zae ?_ _ | refine zag ?_ | refine zaf ?_ _)); exact BK254.out) hb); have n1_ := Aside0.mk (zam (by repeat (first | (with_reducible first | exact HB.out | apply zac | apply zaa | apply zab | refine zad ?_ GE254.out) | exact HB.out)) hb); clear BK254; clear HB; have BK254 := n0_; have HB := n1_; clear n0_ n1_; (try clear hb); (try clear hb2); (try clear hk); (try clear hi)))
                 have n0_ := Aside0.mk (zag BK254.out)
                 have n1_ := Aside0.mk (zab HB.out)
                 clear BK254
                 clear HB
                 have BK254 := n0_
                 have HB := n1_
                 clear n0_ n1_
                 refine zda (n := 30) (S := fun w' => w'.cell? ⟨gb254, 0, none⟩ = some (.string ((zak l1 x20_1).f0)) ∧ w'.cell? ⟨gb254, 1, none⟩ = some (.string ((zak l1 x20_1).f1))) (ds := []) (bm 30 0) (by kernel_rfl) rfl rfl ⟨(zah BK254.out 0).trans rfl, (zah BK254.out 1).trans rfl⟩ (fun hHeld => ?_); refine zci zal.tab7 zal.bits7 (fun HT_ HW_ => ?_)
                 generalize w52.drew = w53 at BK254 HB hHeld ⊢
                 refine pv_ HT_ 0 (bm 30 1) ?_
                 refine pv_ HT_ 1 (bm 30 3) ?_
                 refine pv_ HT_ 2 (bm 30 7) ?_
                 refine zcn (i := 3) (N := some 30) (v := ?_) (a' := ?_) (bm 30 15) rfl rfl (zbk HT_.out HW_.out (by kernel_rfl)) (fun _ _ _ h => h) (Or.inl ⟨by rfl, ?_⟩) hHeld ?_ ?_
                 rotate_left
                 ·rintro w' ⟨s0, s1⟩
                  go_simp
                  with_reducible rfl
                 rotate_left
                 ·simp only [Act.put, List.setIfInBounds_toArray, List.set_cons_zero, List.set_cons_succ, zbq, zbs]
                  rfl
                 refine one_ (i := 4) (N := some 31) (bm 30 31) rfl rfl (zcg HT_.out (by kernel_rfl)) (by decide) (fun K hK => ?_)
                 refine zcw Tryz.func32 (by kernel_rfl) rfl #[.string ((zak l1 x20_1).f0)] (by rfl) rfl rfl (by (try simp only [List.map_toArray, List.map_cons, List.map_nil]); first | done | rfl | (simp only [List.length_drop, List.length_take]; rfl)) ?_
                 with_reducible refine (zay.calls k1 ((zak l1 x20_1).f0) true _ A24.out).mono ?_
                 rintro e w' ⟨rfl, ⟨nd, rfl⟩⟩
                 refine ⟨_, rfl, ?_⟩
                 refine hK.out _ _ ⟨(zah BK254.out 0).trans rfl, (zah BK254.out 1).trans rfl⟩ (fun hHeld => ?_)
                 clear hK K
                 refine zcv (a' := ?_) ?_ ?_
                 rotate_left
                 ·show Act.put _ (some 31) _ = _
                  simp only [Act.put, List.setIfInBounds_toArray, List.set_cons_zero, List.set_cons_succ, zbq, zbs]
                  rfl
                 refine pv_ HT_ 5 (bm 30 63) ?_
                 refine pv_ HT_ 6 (bm 30 127) ?_
                 refine pv_ HT_ 7 (bm 30 255) ?_
                 refine pv_ HT_ 8 (bm 30 511) ?_
                 refine zcn (i := 9) (N := some 36) (v := ?_) (a' := ?_) (bm 30 1023) rfl rfl (zbk HT_.out HW_.out (by kernel_rfl)) (fun _ _ _ h => h) (Or.inl ⟨by rfl, ?_⟩) hHeld ?_ ?_
                 rotate_left
                 ·rintro w' ⟨s0, s1⟩
                  go_simp
                  with_reducible rfl
                 rotate_left
                 ·simp only [Act.put, List.setIfInBounds_toArray, List.set_cons_zero, List.set_cons_succ, zbq, zbs]
                  rfl
                 refine one_ (i := 10) (N := some 37) (bm 30 2047) rfl rfl (zcg HT_.out (by kernel_rfl)) (by decide) (fun K hK => ?_)
                 refine zcw Tryz.func29 (by kernel_rfl) rfl #[.string ((zak l1 x20_1).f1), .int .u8 32, .int .u8 126, .bool true] (by rfl) rfl rfl (by (try simp only [List.map_toArray, List.map_cons, List.map_nil]); first | done | rfl | (simp only [List.length_drop, List.length_take]; rfl)) ?_
                 with_reducible refine (zaw.calls k1 ((zak l1 x20_1).f1) 32 126 true true _ A26.out).mono ?_
                 rintro e w' ⟨rfl, ⟨nd, rfl⟩⟩
                 refine ⟨_, rfl, ?_⟩
                 refine hK.out _ _ ⟨(zah BK254.out 0).trans rfl, (zah BK254.out 1).trans rfl⟩ (fun hHeld => ?_)
                 clear hK K
                 refine zcv (a' := ?_) ?_ ?_
                 rotate_left
                 ·show Act.put _ (some 37) _ = _
                  simp only [Act.put, List.setIfInBounds_toArray, List.set_cons_zero, List.set_cons_succ, zbq, zbs]
                  rfl
                 refine pv_ HT_ 11 (bm 30 4095) ?_
                 refine pv_ HT_ 12 (bm 30 8191) ?_
                 refine pv_ HT_ 13 (bm 30 16383) ?_
                 refine pv_ HT_ 14 (bm 30 32767) ?_
                 refine pv_ HT_ 17 (bm 30 163839) ?_
                 refine zcn (i := 15) (N := some 42) (v := ?_) (a' := ?_) (bm 30 196607) rfl rfl (zbk HT_.out HW_.out (by kernel_rfl)) (fun _ _ _ h => h) (Or.inl ⟨by rfl, ?_⟩) hHeld ?_ ?_
                 rotate_left
                 ·rintro w' ⟨s0, s1⟩
                  go_simp
                  with_reducible rfl
                 rotate_left
                 ·simp only [Act.put, List.setIfInBounds_toArray, List.set_cons_zero, List.set_cons_succ, zbq, zbs]
                  rfl
                 refine zcn (i := 18) (N := some 45) (v := ?_) (a' := ?_) (bm 30 458751) rfl rfl (zbk HT_.out HW_.out (by kernel_rfl)) (fun _ _ _ h => h) (Or.inl ⟨by rfl, ?_⟩) hHeld ?_ ?_
                 rotate_left
                 ·rintro w' ⟨s0, s1⟩
                  go_simp
                  with_reducible rfl
                 rotate_left
                 ·simp only [Act.put, List.setIfInBounds_toArray, List.set_cons_zero, List.set_cons_succ, zbq, zbs]
                  rfl
                 refine one_ (i := 16) (N := some 43) (bm 30 524287) rfl rfl (zcg HT_.out (by kernel_rfl)) (by decide) (fun K hK => ?_)
                 refine zcw Tryz.func33 (by kernel_rfl) rfl #[.string ((zak l1 x20_1).f1)] (by rfl) rfl rfl (by (try simp only [List.map_toArray, List.map_cons, List.map_nil]); first | done | rfl | (simp only [List.length_drop, List.length_take]; rfl)) ?_
                 with_reducible refine (zax.calls k1 ((zak l1 x20_1).f1) t258 _ A28.out).mono ?_
                 rintro e w' ⟨rfl, ⟨nd, rfl⟩⟩
                 refine ⟨_, rfl, ?_⟩
                 refine hK.out _ _ ⟨(zah BK254.out 0).trans rfl, (zah BK254.out 1).trans rfl⟩ (fun hHeld => ?_)
                 clear hK K
                 refine zcv (a' := ?_) ?_ ?_
                 rotate_left
                 ·show Act.put _ (some 43) _ = _
                  simp only [Act.put, List.setIfInBounds_toArray, List.set_cons_zero, List.set_cons_succ, zbq, zbs]
                  rfl
                 refine pv_ HT_ 19 (bm 30 1048575) ?_
                 refine pv_ HT_ 20 (bm 30 2097151) ?_
                 refine pv_ HT_ 21 (bm 30 4194303) ?_
                 refine pv_ HT_ 22 (bm 30 8388607) ?_
                 refine pv_ HT_ 23 (bm 30 16777215) ?_
                 refine pv_ HT_ 24 (bm 30 33554431) ?_
                 refine pv_ HT_ 25 (bm 30 67108863) ?_
                 refine pv_ HT_ 26 (bm 30 134217727) ?_
                 refine pv_ HT_ 27 (bm 30 268435455) ?_
                 refine pv_ HT_ 28 (bm 30 536870911) ?_
                 refine pv_ HT_ 29 (bm 30 1073741823) ?_
                 refine zdu (zcu HT_.out (by kernel_rfl)) ?_
                 have hcz54_0 : w53.cell? ⟨gb254, 0, none⟩ = some (.string ((zak l1 x20_1).f0)) := (zah BK254.out 0).trans rfl
                 have hcz54_1 : w53.cell? ⟨gb254, 1, none⟩ = some (.string ((zak l1 x20_1).f1)) := (zah BK254.out 1).trans rfl
                 have hfz54_0 := zai BK254.out 0
                 have hfz54_1 := zai BK254.out 1
                 try go_wp2
                 go_roundg k1
                 case measure => have := HK1.out; omega
                 case rel => exact ⟨(x8_1 ++ (((((zak l1 x20_1).f0) ++ (⟨#[58, 32]⟩ : ByteArray)) ++ ((zak l1 x20_1).f1)) ++ (⟨#[13, 10]⟩ : ByteArray))), ((t255.toList == ([116, 114, 97, 110, 115, 102, 101, 114, 45, 101, 110, 99, 111, 100, 105, 110, 103] : List UInt8))), (wrap64 (x20_1 + 1)), (by first | rfl | (simp; done) | (simp [*]; done)), (by first | rfl | (simp; done) | (simp [*]; done)), (by first | rfl | (simp; done) | (simp [*]; done)), H', ⟨by have := HK1.out; omega⟩, ⟨by repeat (first | (with_reducible first | exact HB.out | apply zac | apply zaa | apply zab | refine zad ?_ GE254.out) | exact HB.out)⟩⟩
                ·rw [if_neg c49] at H
                 have c49e := c49
                 (try simp only [ByteArray.size_append, gt_iff_lt, ge_iff_le, show (⟨#[13, 10]⟩ : ByteArray).size = 2 from rfl, show (⟨#[58, 32]⟩ : ByteArray).size = 2 from rfl] at c49e)
                 (try simp only [Int.natCast_add, Int.cast_ofNat_Int] at c49e)
                 (try (have c49e2 := decide_eq_false c49e))
                 (try replace c49e := eq_false c49e)
                 exact absurd H (by simp)
               ·rw [if_neg c48] at H
                have c48e := c48
                (try simp only [ByteArray.size_append, gt_iff_lt, ge_iff_le, show (⟨#[58, 32]⟩ : ByteArray).size = 2 from rfl] at c48e)
                (try simp only [Int.natCast_add, Int.cast_ofNat_Int] at c48e)
                (try (have c48e2 := decide_eq_false c48e))
                (try replace c48e := eq_false c48e)
                exact absurd H (by simp)
              ·rw [if_neg c47] at H
               have c47e := c47
               (try simp only [ByteArray.size_append, gt_iff_lt, ge_iff_le, show (⟨#[58, 32]⟩ : ByteArray).size = 2 from rfl] at c47e)
               (try simp only [Int.natCast_add, Int.cast_ofNat_Int] at c47e)
               (try (have c47e2 := decide_eq_false c47e))
               (try replace c47e := eq_false c47e)
               exact absurd H (by simp)
             ·rw [if_neg c46] at H
              exact absurd H (by simp)
            ·rw [if_neg c45] at H
             have c45b0 : decide ((x8_1.size : Int) ≤ 8192) = false := decide_eq_false c45
             have c45b1 : decide (x8_1.size ≤ 8192) = false := decide_eq_false (by omega)
             clear c45
             have H' := Aside0.mk H
             clear H
             have p253 : 0 ≤ (x20_1 : Int) := of_decide_eq_true (by first | (with_reducible assumption) | assumption)
             have q253 : x20_1 < (l1.length : Int) := of_decide_eq_true (by first | (with_reducible assumption) | assumption)
             obtain ⟨ad253, e253, hx253_0, hx253_1⟩ := zdg HR1.out x20_1 p253 q253
             cases e253
             replace hx253_0 := (HB.out.cell (World.block_lt_of_cell? w _ hx253_0)).trans hx253_0
             replace hx253_1 := (HB.out.cell (World.block_lt_of_cell? w _ hx253_1)).trans hx253_1
             replace p253 := eq_true p253
             replace q253 := eq_true q253
             try go_wp2_with (first | ((with_reducible refine zbj (N := 11) rfl ?_); (try (refine zbi (by rfl) ?_; dsimp only)); refine zbf ?hg (N := 11) ?hd (cs := #[.string ⟨#[]⟩, .string ⟨#[]⟩]) (t := 62) ?hr ?_; (case hd => rfl); (case hg => rfl); (case hr => first | (go_simp; done) | (go_simp; rfl)); intro gb254 hg w55 hbox hb; have n0_ := Aside0.mk (zam (by repeat (first | (with_reducible first | exact HB.out | apply zac | apply zaa | apply zab) | exact HB.out)) hb); have n1_ := Aside0.mk (hbox); have n2_ := Aside0.mk ((by rw [hg]; exact (zan (by repeat (first | (with_reducible first | exact HB.out | apply zac | apply zaa | apply zab) | exact HB.out))) : w.heap.size ≤ gb254)); have n3_ := Aside0.mk ((by rw [hg]; exact (zan (by repeat (first | (with_reducible first | exact HB.out | apply zac | apply zaa | apply zab) | exact HB.out))) : w.heap.size ≤ gb254)); clear HB; have HB := n0_; have BK254 := n1_; have GW254 := n2_; have GE254 := n3_; clear n0_ n1_ n2_ n3_; clear hb hbox hg; have hcz56_0 : w55.cell? ⟨gb254, 0, none⟩ = some (.string ⟨#[]⟩) := (zah BK254.out 0).trans rfl; have hcz56_1 : w55.cell? ⟨gb254, 1, none⟩ = some (.string ⟨#[]⟩) := (zah BK254.out 1).trans rfl; have hfz56_0 := zai BK254.out 0; have hfz56_1 := zai BK254.out 1) | ((with_reducible refine zar (f := 31) rfl ?_); refine zbr (some 26) rfl rfl Tryz.func31 (by kernel_rfl) rfl #[.string ((zak l1 x20_1).f0)] rfl (by (try simp only [List.map_toArray, List.map_cons, List.map_nil]); first | done | rfl | (simp only [List.length_drop, List.length_take]; rfl)) ?_; (with_reducible refine (zba.calls k1 ((zak l1 x20_1).f0) t255 _ ?side1 A8.out).mono ?_); (case side1 => exact LaidM.below HT.out (by repeat (first | (with_reducible first | exact HB.out | apply zac | apply zaa | apply zab | refine zad ?_ GE254.out) | exact HB.out))); rintro e w57 ⟨rfl, hb⟩; refine ⟨_, rfl, ?_⟩; have n0_ := Aside0.mk (zao (g := gb254) (o := .cells #[.string ((zak l1 x20_1).f0), .string ((zak l1 x20_1).f1)] 62 (0, 0)) (by (with_reducible repeat (first | refine zae ?_ _ | refine zag ?_ | refine zaf ?_ _)); refine zav (cs := #[.string ((zak l1 x20_1).f0), .string ⟨#[]⟩]) ?_ 1 _ rfl; (with_reducible repeat (first | refine zae ?_ _ | refine zag ?_ | refine zaf ?_ _)); refine zav (cs := #[.string ⟨#[]⟩, .string ⟨#[]⟩]) ?_ 0 _ rfl; (with_reducible repeat (first | refine zae ?_ _ | refine zag ?_ | refine zaf ?_ _)); exact BK254.out) hb); have n1_ := Aside0.mk (zam (by repeat (first | (with_reducible first | exact HB.out | apply zac | apply zaa | apply zab | refine zad ?_ GE254.out) | exact HB.out)) hb); clear BK254; clear HB; have BK254 := n0_; have HB := n1_; clear n0_ n1_; (try clear hb); (try clear hb2); (try clear hk); (try clear hi)))
             have n0_ := Aside0.mk (zag BK254.out)
             have n1_ := Aside0.mk (zab HB.out)
             clear BK254
             clear HB
             have BK254 := n0_
             have HB := n1_
             clear n0_ n1_
             refine zda (n := 30) (S := fun w' => w'.cell? ⟨gb254, 0, none⟩ = some (.string ((zak l1 x20_1).f0)) ∧ w'.cell? ⟨gb254, 1, none⟩ = some (.string ((zak l1 x20_1).f1))) (ds := []) (bm 30 0) (by kernel_rfl) rfl rfl ⟨(zah BK254.out 0).trans rfl, (zah BK254.out 1).trans rfl⟩ (fun hHeld => ?_); refine zci zal.tab7 zal.bits7 (fun HT_ HW_ => ?_)
             generalize w57.drew = w58 at BK254 HB hHeld ⊢
             refine pv_ HT_ 0 (bm 30 1) ?_
             refine pv_ HT_ 1 (bm 30 3) ?_
             refine pv_ HT_ 2 (bm 30 7) ?_
             refine zcn (i := 3) (N := some 30) (v := ?_) (a' := ?_) (bm 30 15) rfl rfl (zbk HT_.out HW_.out (by kernel_rfl)) (fun _ _ _ h => h) (Or.inl ⟨by rfl, ?_⟩) hHeld ?_ ?_
             rotate_left
             ·rintro w' ⟨s0, s1⟩
              go_simp
              with_reducible rfl
             rotate_left
             ·simp only [Act.put, List.setIfInBounds_toArray, List.set_cons_zero, List.set_cons_succ, zbq, zbs]
              rfl
             refine one_ (i := 4) (N := some 31) (bm 30 31) rfl rfl (zcg HT_.out (by kernel_rfl)) (by decide) (fun K hK => ?_)
             refine zcw Tryz.func32 (by kernel_rfl) rfl #[.string ((zak l1 x20_1).f0)] (by rfl) rfl rfl (by (try simp only [List.map_toArray, List.map_cons, List.map_nil]); first | done | rfl | (simp only [List.length_drop, List.length_take]; rfl)) ?_
             with_reducible refine (zay.calls k1 ((zak l1 x20_1).f0) true _ A24.out).mono ?_
             rintro e w' ⟨rfl, ⟨nd, rfl⟩⟩
             refine ⟨_, rfl, ?_⟩
             refine hK.out _ _ ⟨(zah BK254.out 0).trans rfl, (zah BK254.out 1).trans rfl⟩ (fun hHeld => ?_)
             clear hK K
             refine zcv (a' := ?_) ?_ ?_
             rotate_left
             ·show Act.put _ (some 31) _ = _
              simp only [Act.put, List.setIfInBounds_toArray, List.set_cons_zero, List.set_cons_succ, zbq, zbs]
              rfl
             refine pv_ HT_ 5 (bm 30 63) ?_
             refine pv_ HT_ 6 (bm 30 127) ?_
             refine pv_ HT_ 7 (bm 30 255) ?_
             refine pv_ HT_ 8 (bm 30 511) ?_
             refine zcn (i := 9) (N := some 36) (v := ?_) (a' := ?_) (bm 30 1023) rfl rfl (zbk HT_.out HW_.out (by kernel_rfl)) (fun _ _ _ h => h) (Or.inl ⟨by rfl, ?_⟩) hHeld ?_ ?_
             rotate_left
             ·rintro w' ⟨s0, s1⟩
              go_simp
              with_reducible rfl
             rotate_left
             ·simp only [Act.put, List.setIfInBounds_toArray, List.set_cons_zero, List.set_cons_succ, zbq, zbs]
              rfl
             refine one_ (i := 10) (N := some 37) (bm 30 2047) rfl rfl (zcg HT_.out (by kernel_rfl)) (by decide) (fun K hK => ?_)
             refine zcw Tryz.func29 (by kernel_rfl) rfl #[.string ((zak l1 x20_1).f1), .int .u8 32, .int .u8 126, .bool true] (by rfl) rfl rfl (by (try simp only [List.map_toArray, List.map_cons, List.map_nil]); first | done | rfl | (simp only [List.length_drop, List.length_take]; rfl)) ?_
             with_reducible refine (zaw.calls k1 ((zak l1 x20_1).f1) 32 126 true true _ A26.out).mono ?_
             rintro e w' ⟨rfl, ⟨nd, rfl⟩⟩
             refine ⟨_, rfl, ?_⟩
             refine hK.out _ _ ⟨(zah BK254.out 0).trans rfl, (zah BK254.out 1).trans rfl⟩ (fun hHeld => ?_)
             clear hK K
             refine zcv (a' := ?_) ?_ ?_
             rotate_left
             ·show Act.put _ (some 37) _ = _
              simp only [Act.put, List.setIfInBounds_toArray, List.set_cons_zero, List.set_cons_succ, zbq, zbs]
              rfl
             refine pv_ HT_ 11 (bm 30 4095) ?_
             refine pv_ HT_ 12 (bm 30 8191) ?_
             refine pv_ HT_ 13 (bm 30 16383) ?_
             refine pv_ HT_ 14 (bm 30 32767) ?_
             refine pv_ HT_ 17 (bm 30 163839) ?_
             refine zcn (i := 15) (N := some 42) (v := ?_) (a' := ?_) (bm 30 196607) rfl rfl (zbk HT_.out HW_.out (by kernel_rfl)) (fun _ _ _ h => h) (Or.inl ⟨by rfl, ?_⟩) hHeld ?_ ?_
             rotate_left
             ·rintro w' ⟨s0, s1⟩
              go_simp
              with_reducible rfl
             rotate_left
             ·simp only [Act.put, List.setIfInBounds_toArray, List.set_cons_zero, List.set_cons_succ, zbq, zbs]
              rfl
             refine zcn (i := 18) (N := some 45) (v := ?_) (a' := ?_) (bm 30 458751) rfl rfl (zbk HT_.out HW_.out (by kernel_rfl)) (fun _ _ _ h => h) (Or.inl ⟨by rfl, ?_⟩) hHeld ?_ ?_
             rotate_left
             ·rintro w' ⟨s0, s1⟩
              go_simp
              with_reducible rfl
             rotate_left
             ·simp only [Act.put, List.setIfInBounds_toArray, List.set_cons_zero, List.set_cons_succ, zbq, zbs]
              rfl
             refine one_ (i := 16) (N := some 43) (bm 30 524287) rfl rfl (zcg HT_.out (by kernel_rfl)) (by decide) (fun K hK => ?_)
             refine zcw Tryz.func33 (by kernel_rfl) rfl #[.string ((zak l1 x20_1).f1)] (by rfl) rfl rfl (by (try simp only [List.map_toArray, List.map_cons, List.map_nil]); first | done | rfl | (simp only [List.length_drop, List.length_take]; rfl)) ?_
             with_reducible refine (zax.calls k1 ((zak l1 x20_1).f1) t258 _ A28.out).mono ?_
             rintro e w' ⟨rfl, ⟨nd, rfl⟩⟩
             refine ⟨_, rfl, ?_⟩
             refine hK.out _ _ ⟨(zah BK254.out 0).trans rfl, (zah BK254.out 1).trans rfl⟩ (fun hHeld => ?_)
             clear hK K
             refine zcv (a' := ?_) ?_ ?_
             rotate_left
             ·show Act.put _ (some 43) _ = _
              simp only [Act.put, List.setIfInBounds_toArray, List.set_cons_zero, List.set_cons_succ, zbq, zbs]
              rfl
             refine pv_ HT_ 19 (bm 30 1048575) ?_
             refine pv_ HT_ 20 (bm 30 2097151) ?_
             refine pv_ HT_ 21 (bm 30 4194303) ?_
             refine pv_ HT_ 22 (bm 30 8388607) ?_
             refine pv_ HT_ 23 (bm 30 16777215) ?_
             refine pv_ HT_ 24 (bm 30 33554431) ?_
             refine pv_ HT_ 25 (bm 30 67108863) ?_
             refine pv_ HT_ 26 (bm 30 134217727) ?_
             refine pv_ HT_ 27 (bm 30 268435455) ?_
             refine pv_ HT_ 28 (bm 30 536870911) ?_
             refine pv_ HT_ 29 (bm 30 1073741823) ?_
             refine zdu (zcu HT_.out (by kernel_rfl)) ?_
             try go_wp2
             go_roundg k1
             case measure => have := HK1.out; omega
             case rel => exact ⟨(x8_1), ((t255.toList == ([116, 114, 97, 110, 115, 102, 101, 114, 45, 101, 110, 99, 111, 100, 105, 110, 103] : List UInt8))), (wrap64 (x20_1 + 1)), (by first | rfl | (simp; done) | (simp [*]; done)), (by first | rfl | (simp; done) | (simp [*]; done)), (by first | rfl | (simp; done) | (simp [*]; done)), H', ⟨by have := HK1.out; omega⟩, ⟨by repeat (first | (with_reducible first | exact HB.out | apply zac | apply zaa | apply zab | refine zad ?_ GE254.out) | exact HB.out)⟩⟩
          ·rw [if_neg c29] at H
           have c29b0 : (t258.toList == ((zak l1 x20_1).f1).toList) = false := beq_eq_false_iff_ne.mpr c29
           have c29b1 : (t258.toList != ((zak l1 x20_1).f1).toList) = true := bne_iff_ne.mpr c29
           by_cases c59 : (x8_1.size : Int) ≤ 8192
           ·rw [if_pos c59] at H
            have c59b0 := decide_eq_true c59
            have c59b1 : decide (x8_1.size ≤ 8192) = true := decide_eq_true (by omega)
            clear c59
            by_cases c60 : ((zak l1 x20_1).f0).size + 2 ≤ 9223372036854775807
            ·rw [if_pos c60] at H
             have c60b0 := eq_true c60
             have c60b1 := decide_eq_true c60
             try have c60b2 := eq_false (Nat.not_lt.2 c60)
             by_cases c61 : (((zak l1 x20_1).f0) ++ (⟨#[58, 32]⟩ : ByteArray)).size + ((zak l1 x20_1).f1).size ≤ 9223372036854775807
             ·rw [if_pos c61] at H
              have c61e := c61
              (try simp only [ByteArray.size_append, gt_iff_lt, ge_iff_le, show (⟨#[58, 32]⟩ : ByteArray).size = 2 from rfl] at c61e)
              (try simp only [Int.natCast_add, Int.cast_ofNat_Int] at c61e)
              (try (have c61e2 := decide_eq_true c61e))
              (try replace c61e := eq_true c61e)
              have c61b0 := eq_true c61
              have c61b1 := decide_eq_true c61
              try have c61b2 := eq_false (Nat.not_lt.2 c61)
              have c61b8 : (9223372036854775807 < ((zak l1 x20_1).f0).size + 2 + ((zak l1 x20_1).f1).size) = False := by have h_ := c61; simp only [ByteArray.size_append] at h_; exact eq_false (Nat.not_lt.2 h_)
              by_cases c62 : ((((zak l1 x20_1).f0) ++ (⟨#[58, 32]⟩ : ByteArray)) ++ ((zak l1 x20_1).f1)).size + 2 ≤ 9223372036854775807
              ·rw [if_pos c62] at H
               have c62e := c62
               (try simp only [ByteArray.size_append, gt_iff_lt, ge_iff_le, show (⟨#[58, 32]⟩ : ByteArray).size = 2 from rfl] at c62e)
               (try simp only [Int.natCast_add, Int.cast_ofNat_Int] at c62e)
               (try (have c62e2 := decide_eq_true c62e))
               (try replace c62e := eq_true c62e)
               have c62b0 := eq_true c62
               have c62b1 := decide_eq_true c62
               try have c62b2 := eq_false (Nat.not_lt.2 c62)
               have c62b8 : (9223372036854775807 < ((zak l1 x20_1).f0).size + 2 + ((zak l1 x20_1).f1).size + 2) = False := by have h_ := c62; simp only [ByteArray.size_append] at h_; exact eq_false (Nat.not_lt.2 h_)
               by_cases c63 : x8_1.size + (((((zak l1 x20_1).f0) ++ (⟨#[58, 32]⟩ : ByteArray)) ++ ((zak l1 x20_1).f1)) ++ (⟨#[13, 10]⟩ : ByteArray)).size ≤ 9223372036854775807
               ·rw [if_pos c63] at H
                have c63e := c63
                (try simp only [ByteArray.size_append, gt_iff_lt, ge_iff_le, show (⟨#[13, 10]⟩ : ByteArray).size = 2 from rfl, show (⟨#[58, 32]⟩ : ByteArray).size = 2 from rfl] at c63e)
                (try simp only [Int.natCast_add, Int.cast_ofNat_Int] at c63e)
                (try (have c63e2 := decide_eq_true c63e))
                (try replace c63e := eq_true c63e)
                have c63b0 := eq_true c63
                have c63b1 := decide_eq_true c63
                try have c63b2 := eq_false (Nat.not_lt.2 c63)
                have c63b8 : (9223372036854775807 < x8_1.size + (((zak l1 x20_1).f0).size + 2 + ((zak l1 x20_1).f1).size + 2)) = False := by have h_ := c63; simp only [ByteArray.size_append] at h_; exact eq_false (Nat.not_lt.2 h_)
                have H' := Aside0.mk H
                clear H
                have p253 : 0 ≤ (x20_1 : Int) := of_decide_eq_true (by first | (with_reducible assumption) | assumption)
                have q253 : x20_1 < (l1.length : Int) := of_decide_eq_true (by first | (with_reducible assumption) | assumption)
                obtain ⟨ad253, e253, hx253_0, hx253_1⟩ := zdg HR1.out x20_1 p253 q253
                cases e253
                replace hx253_0 := (HB.out.cell (World.block_lt_of_cell? w _ hx253_0)).trans hx253_0
                replace hx253_1 := (HB.out.cell (World.block_lt_of_cell? w _ hx253_1)).trans hx253_1
                replace p253 := eq_true p253
                replace q253 := eq_true q253
                try go_wp2_with (first | ((with_reducible refine zbj (N := 11) rfl ?_); (try (refine zbi (by rfl) ?_; dsimp only)); refine zbf ?hg (N := 11) ?hd (cs := #[.string ⟨#[]⟩, .string ⟨#[]⟩]) (t := 62) ?hr ?_; (case hd => rfl); (case hg => rfl); (case hr => first | (go_simp; done) | (go_simp; rfl)); intro gb254 hg w64 hbox hb; have n0_ := Aside0.mk (zam (by repeat (first | (with_reducible first | exact HB.out | apply zac | apply zaa | apply zab) | exact HB.out)) hb); have n1_ := Aside0.mk (hbox); have n2_ := Aside0.mk ((by rw [hg]; exact (zan (by repeat (first | (with_reducible first | exact HB.out | apply zac | apply zaa | apply zab) | exact HB.out))) : w.heap.size ≤ gb254)); have n3_ := Aside0.mk ((by rw [hg]; exact (zan (by repeat (first | (with_reducible first | exact HB.out | apply zac | apply zaa | apply zab) | exact HB.out))) : w.heap.size ≤ gb254)); clear HB; have HB := n0_; have BK254 := n1_; have GW254 := n2_; have GE254 := n3_; clear n0_ n1_ n2_ n3_; clear hb hbox hg; have hcz65_0 : w64.cell? ⟨gb254, 0, none⟩ = some (.string ⟨#[]⟩) := (zah BK254.out 0).trans rfl; have hcz65_1 : w64.cell? ⟨gb254, 1, none⟩ = some (.string ⟨#[]⟩) := (zah BK254.out 1).trans rfl; have hfz65_0 := zai BK254.out 0; have hfz65_1 := zai BK254.out 1) | ((with_reducible refine zar (f := 31) rfl ?_); refine zbr (some 26) rfl rfl Tryz.func31 (by kernel_rfl) rfl #[.string ((zak l1 x20_1).f0)] rfl (by (try simp only [List.map_toArray, List.map_cons, List.map_nil]); first | done | rfl | (simp only [List.length_drop, List.length_take]; rfl)) ?_; (with_reducible refine (zba.calls k1 ((zak l1 x20_1).f0) t255 _ ?side1 A8.out).mono ?_); (case side1 => exact LaidM.below HT.out (by repeat (first | (with_reducible first | exact HB.out | apply zac | apply zaa | apply zab | refine zad ?_ GE254.out) | exact HB.out))); rintro e w66 ⟨rfl, hb⟩; refine ⟨_, rfl, ?_⟩; have n0_ := Aside0.mk (zao (g := gb254) (o := .cells #[.string ((zak l1 x20_1).f0), .string ((zak l1 x20_1).f1)] 62 (0, 0)) (by (with_reducible repeat (first | refine zae ?_ _ | refine zag ?_ | refine zaf ?_ _)); refine zav (cs := #[.string ((zak l1 x20_1).f0), .string ⟨#[]⟩]) ?_ 1 _ rfl; (with_reducible repeat (first | refine zae ?_ _ | refine zag ?_ | refine zaf ?_ _)); refine zav (cs := #[.string ⟨#[]⟩, .string ⟨#[]⟩]) ?_ 0 _ rfl; (with_reducible repeat (first | refine zae ?_ _ | refine zag ?_ | refine zaf ?_ _)); exact BK254.out) hb); have n1_ := Aside0.mk (zam (by repeat (first | (with_reducible first | exact HB.out | apply zac | apply zaa | apply zab | refine zad ?_ GE254.out) | exact HB.out)) hb); clear BK254; clear HB; have BK254 := n0_; have HB := n1_; clear n0_ n1_; (try clear hb); (try clear hb2); (try clear hk); (try clear hi)))
                have n0_ := Aside0.mk (zag BK254.out)
                have n1_ := Aside0.mk (zab HB.out)
                clear BK254
                clear HB
                have BK254 := n0_
                have HB := n1_
                clear n0_ n1_
                refine zda (n := 30) (S := fun w' => w'.cell? ⟨gb254, 0, none⟩ = some (.string ((zak l1 x20_1).f0)) ∧ w'.cell? ⟨gb254, 1, none⟩ = some (.string ((zak l1 x20_1).f1))) (ds := []) (bm 30 0) (by kernel_rfl) rfl rfl ⟨(zah BK254.out 0).trans rfl, (zah BK254.out 1).trans rfl⟩ (fun hHeld => ?_); refine zci zal.tab7 zal.bits7 (fun HT_ HW_ => ?_)
                generalize w66.drew = w67 at BK254 HB hHeld ⊢
                refine pv_ HT_ 0 (bm 30 1) ?_
                refine pv_ HT_ 1 (bm 30 3) ?_
                refine pv_ HT_ 2 (bm 30 7) ?_
                refine zcn (i := 3) (N := some 30) (v := ?_) (a' := ?_) (bm 30 15) rfl rfl (zbk HT_.out HW_.out (by kernel_rfl)) (fun _ _ _ h => h) (Or.inl ⟨by rfl, ?_⟩) hHeld ?_ ?_
                rotate_left
                ·rintro w' ⟨s0, s1⟩
                 go_simp
                 with_reducible rfl
                rotate_left
                ·simp only [Act.put, List.setIfInBounds_toArray, List.set_cons_zero, List.set_cons_succ, zbq, zbs]
                 rfl
                refine one_ (i := 4) (N := some 31) (bm 30 31) rfl rfl (zcg HT_.out (by kernel_rfl)) (by decide) (fun K hK => ?_)
                refine zcw Tryz.func32 (by kernel_rfl) rfl #[.string ((zak l1 x20_1).f0)] (by rfl) rfl rfl (by (try simp only [List.map_toArray, List.map_cons, List.map_nil]); first | done | rfl | (simp only [List.length_drop, List.length_take]; rfl)) ?_
                with_reducible refine (zay.calls k1 ((zak l1 x20_1).f0) true _ A24.out).mono ?_
                rintro e w' ⟨rfl, ⟨nd, rfl⟩⟩
                refine ⟨_, rfl, ?_⟩
                refine hK.out _ _ ⟨(zah BK254.out 0).trans rfl, (zah BK254.out 1).trans rfl⟩ (fun hHeld => ?_)
                clear hK K
                refine zcv (a' := ?_) ?_ ?_
                rotate_left
                ·show Act.put _ (some 31) _ = _
                 simp only [Act.put, List.setIfInBounds_toArray, List.set_cons_zero, List.set_cons_succ, zbq, zbs]
                 rfl
                refine pv_ HT_ 5 (bm 30 63) ?_
                refine pv_ HT_ 6 (bm 30 127) ?_
                refine pv_ HT_ 7 (bm 30 255) ?_
                refine pv_ HT_ 8 (bm 30 511) ?_
                refine zcn (i := 9) (N := some 36) (v := ?_) (a' := ?_) (bm 30 1023) rfl rfl (zbk HT_.out HW_.out (by kernel_rfl)) (fun _ _ _ h => h) (Or.inl ⟨by rfl, ?_⟩) hHeld ?_ ?_
                rotate_left
                ·rintro w' ⟨s0, s1⟩
                 go_simp
                 with_reducible rfl
                rotate_left
                ·simp only [Act.put, List.setIfInBounds_toArray, List.set_cons_zero, List.set_cons_succ, zbq, zbs]
                 rfl
                refine one_ (i := 10) (N := some 37) (bm 30 2047) rfl rfl (zcg HT_.out (by kernel_rfl)) (by decide) (fun K hK => ?_)
                refine zcw Tryz.func29 (by kernel_rfl) rfl #[.string ((zak l1 x20_1).f1), .int .u8 32, .int .u8 126, .bool true] (by rfl) rfl rfl (by (try simp only [List.map_toArray, List.map_cons, List.map_nil]); first | done | rfl | (simp only [List.length_drop, List.length_take]; rfl)) ?_
                with_reducible refine (zaw.calls k1 ((zak l1 x20_1).f1) 32 126 true true _ A26.out).mono ?_
                rintro e w' ⟨rfl, ⟨nd, rfl⟩⟩
                refine ⟨_, rfl, ?_⟩
                refine hK.out _ _ ⟨(zah BK254.out 0).trans rfl, (zah BK254.out 1).trans rfl⟩ (fun hHeld => ?_)
                clear hK K
                refine zcv (a' := ?_) ?_ ?_
                rotate_left
                ·show Act.put _ (some 37) _ = _
                 simp only [Act.put, List.setIfInBounds_toArray, List.set_cons_zero, List.set_cons_succ, zbq, zbs]
                 rfl
                refine pv_ HT_ 11 (bm 30 4095) ?_
                refine pv_ HT_ 12 (bm 30 8191) ?_
                refine pv_ HT_ 13 (bm 30 16383) ?_
                refine pv_ HT_ 14 (bm 30 32767) ?_
                refine pv_ HT_ 17 (bm 30 163839) ?_
                refine zcn (i := 15) (N := some 42) (v := ?_) (a' := ?_) (bm 30 196607) rfl rfl (zbk HT_.out HW_.out (by kernel_rfl)) (fun _ _ _ h => h) (Or.inl ⟨by rfl, ?_⟩) hHeld ?_ ?_
                rotate_left
                ·rintro w' ⟨s0, s1⟩
                 go_simp
                 with_reducible rfl
                rotate_left
                ·simp only [Act.put, List.setIfInBounds_toArray, List.set_cons_zero, List.set_cons_succ, zbq, zbs]
                 rfl
                refine zcn (i := 18) (N := some 45) (v := ?_) (a' := ?_) (bm 30 458751) rfl rfl (zbk HT_.out HW_.out (by kernel_rfl)) (fun _ _ _ h => h) (Or.inl ⟨by rfl, ?_⟩) hHeld ?_ ?_
                rotate_left
                ·rintro w' ⟨s0, s1⟩
                 go_simp
                 with_reducible rfl
                rotate_left
                ·simp only [Act.put, List.setIfInBounds_toArray, List.set_cons_zero, List.set_cons_succ, zbq, zbs]
                 rfl
                refine one_ (i := 16) (N := some 43) (bm 30 524287) rfl rfl (zcg HT_.out (by kernel_rfl)) (by decide) (fun K hK => ?_)
                refine zcw Tryz.func33 (by kernel_rfl) rfl #[.string ((zak l1 x20_1).f1)] (by rfl) rfl rfl (by (try simp only [List.map_toArray, List.map_cons, List.map_nil]); first | done | rfl | (simp only [List.length_drop, List.length_take]; rfl)) ?_
                with_reducible refine (zax.calls k1 ((zak l1 x20_1).f1) t258 _ A28.out).mono ?_
                rintro e w' ⟨rfl, ⟨nd, rfl⟩⟩
                refine ⟨_, rfl, ?_⟩
                refine hK.out _ _ ⟨(zah BK254.out 0).trans rfl, (zah BK254.out 1).trans rfl⟩ (fun hHeld => ?_)
                clear hK K
                refine zcv (a' := ?_) ?_ ?_
                rotate_left
                ·show Act.put _ (some 43) _ = _
                 simp only [Act.put, List.setIfInBounds_toArray, List.set_cons_zero, List.set_cons_succ, zbq, zbs]
                 rfl
                refine pv_ HT_ 19 (bm 30 1048575) ?_
                refine pv_ HT_ 20 (bm 30 2097151) ?_
                refine pv_ HT_ 21 (bm 30 4194303) ?_
                refine pu_ HT_ 22 (bm 30 8388607) ?_
                refine pu_ HT_ 23 (bm 30 16777215) ?_
                refine pv_ HT_ 24 (bm 30 33554431) ?_
                refine pv_ HT_ 25 (bm 30 67108863) ?_
                refine pu_ HT_ 26 (bm 30 134217727) ?_
                refine pu_ HT_ 27 (bm 30 268435455) ?_
                refine pv_ HT_ 28 (bm 30 536870911) ?_
                refine pv_ HT_ 29 (bm 30 1073741823) ?_
                refine zdu (zcu HT_.out (by kernel_rfl)) ?_
                have hcz68_0 : w67.cell? ⟨gb254, 0, none⟩ = some (.string ((zak l1 x20_1).f0)) := (zah BK254.out 0).trans rfl
                have hcz68_1 : w67.cell? ⟨gb254, 1, none⟩ = some (.string ((zak l1 x20_1).f1)) := (zah BK254.out 1).trans rfl
                have hfz68_0 := zai BK254.out 0
                have hfz68_1 := zai BK254.out 1
                try go_wp2
                go_roundg k1
                case measure => have := HK1.out; omega
                case rel => exact ⟨(x8_1 ++ (((((zak l1 x20_1).f0) ++ (⟨#[58, 32]⟩ : ByteArray)) ++ ((zak l1 x20_1).f1)) ++ (⟨#[13, 10]⟩ : ByteArray))), (true), (wrap64 (x20_1 + 1)), (by first | rfl | (simp; done) | (simp [*]; done)), (by first | rfl | (simp; done) | (simp [*]; done)), (by first | rfl | (simp; done) | (simp [*]; done)), H', ⟨by have := HK1.out; omega⟩, ⟨by repeat (first | (with_reducible first | exact HB.out | apply zac | apply zaa | apply zab | refine zad ?_ GE254.out) | exact HB.out)⟩⟩
               ·rw [if_neg c63] at H
                have c63e := c63
                (try simp only [ByteArray.size_append, gt_iff_lt, ge_iff_le, show (⟨#[13, 10]⟩ : ByteArray).size = 2 from rfl, show (⟨#[58, 32]⟩ : ByteArray).size = 2 from rfl] at c63e)
                (try simp only [Int.natCast_add, Int.cast_ofNat_Int] at c63e)
                (try (have c63e2 := decide_eq_false c63e))
                (try replace c63e := eq_false c63e)
                exact absurd H (by simp)
              ·rw [if_neg c62] at H
               have c62e := c62
               (try simp only [ByteArray.size_append, gt_iff_lt, ge_iff_le, show (⟨#[58, 32]⟩ : ByteArray).size = 2 from rfl] at c62e)
               (try simp only [Int.natCast_add, Int.cast_ofNat_Int] at c62e)
               (try (have c62e2 := decide_eq_false c62e))
               (try replace c62e := eq_false c62e)
               exact absurd H (by simp)
             ·rw [if_neg c61] at H
              have c61e := c61
              (try simp only [ByteArray.size_append, gt_iff_lt, ge_iff_le, show (⟨#[58, 32]⟩ : ByteArray).size = 2 from rfl] at c61e)
              (try simp only [Int.natCast_add, Int.cast_ofNat_Int] at c61e)
              (try (have c61e2 := decide_eq_false c61e))
              (try replace c61e := eq_false c61e)
              exact absurd H (by simp)
            ·rw [if_neg c60] at H
             exact absurd H (by simp)
           ·rw [if_neg c59] at H
            have c59b0 : decide ((x8_1.size : Int) ≤ 8192) = false := decide_eq_false c59
            have c59b1 : decide (x8_1.size ≤ 8192) = false := decide_eq_false (by omega)
            clear c59
            have H' := Aside0.mk H
            clear H
            have p253 : 0 ≤ (x20_1 : Int) := of_decide_eq_true (by first | (with_reducible assumption) | assumption)
            have q253 : x20_1 < (l1.length : Int) := of_decide_eq_true (by first | (with_reducible assumption) | assumption)
            obtain ⟨ad253, e253, hx253_0, hx253_1⟩ := zdg HR1.out x20_1 p253 q253
            cases e253
            replace hx253_0 := (HB.out.cell (World.block_lt_of_cell? w _ hx253_0)).trans hx253_0
            replace hx253_1 := (HB.out.cell (World.block_lt_of_cell? w _ hx253_1)).trans hx253_1
            replace p253 := eq_true p253
            replace q253 := eq_true q253
            try go_wp2_with (first | ((with_reducible refine zbj (N := 11) rfl ?_); (try (refine zbi (by rfl) ?_; dsimp only)); refine zbf ?hg (N := 11) ?hd (cs := #[.string ⟨#[]⟩, .string ⟨#[]⟩]) (t := 62) ?hr ?_; (case hd => rfl); (case hg => rfl); (case hr => first | (go_simp; done) | (go_simp; rfl)); intro gb254 hg w69 hbox hb; have n0_ := Aside0.mk (zam (by repeat (first | (with_reducible first | exact HB.out | apply zac | apply zaa | apply zab) | exact HB.out)) hb); have n1_ := Aside0.mk (hbox); have n2_ := Aside0.mk ((by rw [hg]; exact (zan (by repeat (first | (with_reducible first | exact HB.out | apply zac | apply zaa | apply zab) | exact HB.out))) : w.heap.size ≤ gb254)); have n3_ := Aside0.mk ((by rw [hg]; exact (zan (by repeat (first | (with_reducible first | exact HB.out | apply zac | apply zaa | apply zab) | exact HB.out))) : w.heap.size ≤ gb254)); clear HB; have HB := n0_; have BK254 := n1_; have GW254 := n2_; have GE254 := n3_; clear n0_ n1_ n2_ n3_; clear hb hbox hg; have hcz70_0 : w69.cell? ⟨gb254, 0, none⟩ = some (.string ⟨#[]⟩) := (zah BK254.out 0).trans rfl; have hcz70_1 : w69.cell? ⟨gb254, 1, none⟩ = some (.string ⟨#[]⟩) := (zah BK254.out 1).trans rfl; have hfz70_0 := zai BK254.out 0; have hfz70_1 := zai BK254.out 1) | ((with_reducible refine zar (f := 31) rfl ?_); refine zbr (some 26) rfl rfl Tryz.func31 (by kernel_rfl) rfl #[.string ((zak l1 x20_1).f0)] rfl (by (try simp only [List.map_toArray, List.map_cons, List.map_nil]); first | done | rfl | (simp only [List.length_drop, List.length_take]; rfl)) ?_; (with_reducible refine (zba.calls k1 ((zak l1 x20_1).f0) t255 _ ?side1 A8.out).mono ?_); (case side1 => exact LaidM.below HT.out (by repeat (first | (with_reducible first | exact HB.out | apply zac | apply zaa | apply zab | refine zad ?_ GE254.out) | exact HB.out))); rintro e w71 ⟨rfl, hb⟩; refine ⟨_, rfl, ?_⟩; have n0_ := Aside0.mk (zao (g := gb254) (o := .cells #[.string ((zak l1 x20_1).f0), .string ((zak l1 x20_1).f1)] 62 (0, 0)) (by (with_reducible repeat (first | refine zae ?_ _ | refine zag ?_ | refine zaf ?_ _)); refine zav (cs := #[.string ((zak l1 x20_1).f0), .string ⟨#[]⟩]) ?_ 1 _ rfl; (with_reducible repeat (first | refine zae ?_ _ | refine zag ?_ | refine zaf ?_ _)); refine zav (cs := #[.string ⟨#[]⟩, .string ⟨#[]⟩]) ?_ 0 _ rfl; (with_reducible repeat (first | refine zae ?_ _ | refine zag ?_ | refine zaf ?_ _)); exact BK254.out) hb); have n1_ := Aside0.mk (zam (by repeat (first | (with_reducible first | exact HB.out | apply zac | apply zaa | apply zab | refine zad ?_ GE254.out) | exact HB.out)) hb); clear BK254; clear HB; have BK254 := n0_; have HB := n1_; clear n0_ n1_; (try clear hb); (try clear hb2); (try clear hk); (try clear hi)))
            have n0_ := Aside0.mk (zag BK254.out)
            have n1_ := Aside0.mk (zab HB.out)
            clear BK254
            clear HB
            have BK254 := n0_
            have HB := n1_
            clear n0_ n1_
            refine zda (n := 30) (S := fun w' => w'.cell? ⟨gb254, 0, none⟩ = some (.string ((zak l1 x20_1).f0)) ∧ w'.cell? ⟨gb254, 1, none⟩ = some (.string ((zak l1 x20_1).f1))) (ds := []) (bm 30 0) (by kernel_rfl) rfl rfl ⟨(zah BK254.out 0).trans rfl, (zah BK254.out 1).trans rfl⟩ (fun hHeld => ?_); refine zci zal.tab7 zal.bits7 (fun HT_ HW_ => ?_)
            generalize w71.drew = w72 at BK254 HB hHeld ⊢
            refine pv_ HT_ 0 (bm 30 1) ?_
            refine pv_ HT_ 1 (bm 30 3) ?_
            refine pv_ HT_ 2 (bm 30 7) ?_
            refine zcn (i := 3) (N := some 30) (v := ?_) (a' := ?_) (bm 30 15) rfl rfl (zbk HT_.out HW_.out (by kernel_rfl)) (fun _ _ _ h => h) (Or.inl ⟨by rfl, ?_⟩) hHeld ?_ ?_
            rotate_left
            ·rintro w' ⟨s0, s1⟩
             go_simp
             with_reducible rfl
            rotate_left
            ·simp only [Act.put, List.setIfInBounds_toArray, List.set_cons_zero, List.set_cons_succ, zbq, zbs]
             rfl
            refine one_ (i := 4) (N := some 31) (bm 30 31) rfl rfl (zcg HT_.out (by kernel_rfl)) (by decide) (fun K hK => ?_)
            refine zcw Tryz.func32 (by kernel_rfl) rfl #[.string ((zak l1 x20_1).f0)] (by rfl) rfl rfl (by (try simp only [List.map_toArray, List.map_cons, List.map_nil]); first | done | rfl | (simp only [List.length_drop, List.length_take]; rfl)) ?_
            with_reducible refine (zay.calls k1 ((zak l1 x20_1).f0) true _ A24.out).mono ?_
            rintro e w' ⟨rfl, ⟨nd, rfl⟩⟩
            refine ⟨_, rfl, ?_⟩
            refine hK.out _ _ ⟨(zah BK254.out 0).trans rfl, (zah BK254.out 1).trans rfl⟩ (fun hHeld => ?_)
            clear hK K
            refine zcv (a' := ?_) ?_ ?_
            rotate_left
            ·show Act.put _ (some 31) _ = _
             simp only [Act.put, List.setIfInBounds_toArray, List.set_cons_zero, List.set_cons_succ, zbq, zbs]
             rfl
            refine pv_ HT_ 5 (bm 30 63) ?_
            refine pv_ HT_ 6 (bm 30 127) ?_
            refine pv_ HT_ 7 (bm 30 255) ?_
            refine pv_ HT_ 8 (bm 30 511) ?_
            refine zcn (i := 9) (N := some 36) (v := ?_) (a' := ?_) (bm 30 1023) rfl rfl (zbk HT_.out HW_.out (by kernel_rfl)) (fun _ _ _ h => h) (Or.inl ⟨by rfl, ?_⟩) hHeld ?_ ?_
            rotate_left
            ·rintro w' ⟨s0, s1⟩
             go_simp
             with_reducible rfl
            rotate_left
            ·simp only [Act.put, List.setIfInBounds_toArray, List.set_cons_zero, List.set_cons_succ, zbq, zbs]
             rfl
            refine one_ (i := 10) (N := some 37) (bm 30 2047) rfl rfl (zcg HT_.out (by kernel_rfl)) (by decide) (fun K hK => ?_)
            refine zcw Tryz.func29 (by kernel_rfl) rfl #[.string ((zak l1 x20_1).f1), .int .u8 32, .int .u8 126, .bool true] (by rfl) rfl rfl (by (try simp only [List.map_toArray, List.map_cons, List.map_nil]); first | done | rfl | (simp only [List.length_drop, List.length_take]; rfl)) ?_
            with_reducible refine (zaw.calls k1 ((zak l1 x20_1).f1) 32 126 true true _ A26.out).mono ?_
            rintro e w' ⟨rfl, ⟨nd, rfl⟩⟩
            refine ⟨_, rfl, ?_⟩
            refine hK.out _ _ ⟨(zah BK254.out 0).trans rfl, (zah BK254.out 1).trans rfl⟩ (fun hHeld => ?_)
            clear hK K
            refine zcv (a' := ?_) ?_ ?_
            rotate_left
            ·show Act.put _ (some 37) _ = _
             simp only [Act.put, List.setIfInBounds_toArray, List.set_cons_zero, List.set_cons_succ, zbq, zbs]
             rfl
            refine pv_ HT_ 11 (bm 30 4095) ?_
            refine pv_ HT_ 12 (bm 30 8191) ?_
            refine pv_ HT_ 13 (bm 30 16383) ?_
            refine pv_ HT_ 14 (bm 30 32767) ?_
            refine pv_ HT_ 17 (bm 30 163839) ?_
            refine zcn (i := 15) (N := some 42) (v := ?_) (a' := ?_) (bm 30 196607) rfl rfl (zbk HT_.out HW_.out (by kernel_rfl)) (fun _ _ _ h => h) (Or.inl ⟨by rfl, ?_⟩) hHeld ?_ ?_
            rotate_left
            ·rintro w' ⟨s0, s1⟩
             go_simp
             with_reducible rfl
            rotate_left
            ·simp only [Act.put, List.setIfInBounds_toArray, List.set_cons_zero, List.set_cons_succ, zbq, zbs]
             rfl
            refine zcn (i := 18) (N := some 45) (v := ?_) (a' := ?_) (bm 30 458751) rfl rfl (zbk HT_.out HW_.out (by kernel_rfl)) (fun _ _ _ h => h) (Or.inl ⟨by rfl, ?_⟩) hHeld ?_ ?_
            rotate_left
            ·rintro w' ⟨s0, s1⟩
             go_simp
             with_reducible rfl
            rotate_left
            ·simp only [Act.put, List.setIfInBounds_toArray, List.set_cons_zero, List.set_cons_succ, zbq, zbs]
             rfl
            refine one_ (i := 16) (N := some 43) (bm 30 524287) rfl rfl (zcg HT_.out (by kernel_rfl)) (by decide) (fun K hK => ?_)
            refine zcw Tryz.func33 (by kernel_rfl) rfl #[.string ((zak l1 x20_1).f1)] (by rfl) rfl rfl (by (try simp only [List.map_toArray, List.map_cons, List.map_nil]); first | done | rfl | (simp only [List.length_drop, List.length_take]; rfl)) ?_
            with_reducible refine (zax.calls k1 ((zak l1 x20_1).f1) t258 _ A28.out).mono ?_
            rintro e w' ⟨rfl, ⟨nd, rfl⟩⟩
            refine ⟨_, rfl, ?_⟩
            refine hK.out _ _ ⟨(zah BK254.out 0).trans rfl, (zah BK254.out 1).trans rfl⟩ (fun hHeld => ?_)
            clear hK K
            refine zcv (a' := ?_) ?_ ?_
            rotate_left
            ·show Act.put _ (some 43) _ = _
             simp only [Act.put, List.setIfInBounds_toArray, List.set_cons_zero, List.set_cons_succ, zbq, zbs]
             rfl
            refine pv_ HT_ 19 (bm 30 1048575) ?_
            refine pv_ HT_ 20 (bm 30 2097151) ?_
            refine pv_ HT_ 21 (bm 30 4194303) ?_
            refine pu_ HT_ 22 (bm 30 8388607) ?_
            refine pu_ HT_ 23 (bm 30 16777215) ?_
            refine pv_ HT_ 24 (bm 30 33554431) ?_
            refine pv_ HT_ 25 (bm 30 67108863) ?_
            refine pu_ HT_ 26 (bm 30 134217727) ?_
            refine pu_ HT_ 27 (bm 30 268435455) ?_
            refine pv_ HT_ 28 (bm 30 536870911) ?_
            refine pv_ HT_ 29 (bm 30 1073741823) ?_
            refine zdu (zcu HT_.out (by kernel_rfl)) ?_
            try go_wp2
            go_roundg k1
            case measure => have := HK1.out; omega
            case rel => exact ⟨(x8_1), (true), (wrap64 (x20_1 + 1)), (by first | rfl | (simp; done) | (simp [*]; done)), (by first | rfl | (simp; done) | (simp [*]; done)), (by first | rfl | (simp; done) | (simp [*]; done)), H', ⟨by have := HK1.out; omega⟩, ⟨by repeat (first | (with_reducible first | exact HB.out | apply zac | apply zaa | apply zab | refine zad ?_ GE254.out) | exact HB.out)⟩⟩
         ·replace c27 := Bool.eq_false_iff.mpr c27
          subst c27
          have H1 : (if (x8_1.size : Int) ≤ 8192 then (if ((zak l1 x20_1).f0).size + 2 ≤ 9223372036854775807 then (if (((zak l1 x20_1).f0) ++ (⟨#[58, 32]⟩ : ByteArray)).size + ((zak l1 x20_1).f1).size ≤ 9223372036854775807 then (if ((((zak l1 x20_1).f0) ++ (⟨#[58, 32]⟩ : ByteArray)) ++ ((zak l1 x20_1).f1)).size + 2 ≤ 9223372036854775807 then (if x8_1.size + (((((zak l1 x20_1).f0) ++ (⟨#[58, 32]⟩ : ByteArray)) ++ ((zak l1 x20_1).f1)) ++ (⟨#[13, 10]⟩ : ByteArray)).size ≤ 9223372036854775807 then (zal.l0 k1 a2 (x8_1 ++ (((((zak l1 x20_1).f0) ++ (⟨#[58, 32]⟩ : ByteArray)) ++ ((zak l1 x20_1).f1)) ++ (⟨#[13, 10]⟩ : ByteArray))) true l1 (l1.length : Int) (wrap64 (x20_1 + 1))) else (none)) else (none)) else (none)) else (none)) else (zal.l0 k1 a2 x8_1 true l1 (l1.length : Int) (wrap64 (x20_1 + 1)))) = some (r1, r2) := by rw [if_neg (show ¬ (false = true) by decide)] at H; exact H
          clear H
          have H := H1
          clear H1
          by_cases c73 : (x8_1.size : Int) ≤ 8192
          ·rw [if_pos c73] at H
           have c73b0 := decide_eq_true c73
           have c73b1 : decide (x8_1.size ≤ 8192) = true := decide_eq_true (by omega)
           clear c73
           by_cases c74 : ((zak l1 x20_1).f0).size + 2 ≤ 9223372036854775807
           ·rw [if_pos c74] at H
            have c74b0 := eq_true c74
            have c74b1 := decide_eq_true c74
            try have c74b2 := eq_false (Nat.not_lt.2 c74)
            by_cases c75 : (((zak l1 x20_1).f0) ++ (⟨#[58, 32]⟩ : ByteArray)).size + ((zak l1 x20_1).f1).size ≤ 9223372036854775807
            ·rw [if_pos c75] at H
             have c75e := c75
             (try simp only [ByteArray.size_append, gt_iff_lt, ge_iff_le, show (⟨#[58, 32]⟩ : ByteArray).size = 2 from rfl] at c75e)
             (try simp only [Int.natCast_add, Int.cast_ofNat_Int] at c75e)
             (try (have c75e2 := decide_eq_true c75e))
             (try replace c75e := eq_true c75e)
             have c75b0 := eq_true c75
             have c75b1 := decide_eq_true c75
             try have c75b2 := eq_false (Nat.not_lt.2 c75)
             have c75b8 : (9223372036854775807 < ((zak l1 x20_1).f0).size + 2 + ((zak l1 x20_1).f1).size) = False := by have h_ := c75; simp only [ByteArray.size_append] at h_; exact eq_false (Nat.not_lt.2 h_)
             by_cases c76 : ((((zak l1 x20_1).f0) ++ (⟨#[58, 32]⟩ : ByteArray)) ++ ((zak l1 x20_1).f1)).size + 2 ≤ 9223372036854775807
             ·rw [if_pos c76] at H
              have c76e := c76
              (try simp only [ByteArray.size_append, gt_iff_lt, ge_iff_le, show (⟨#[58, 32]⟩ : ByteArray).size = 2 from rfl] at c76e)
              (try simp only [Int.natCast_add, Int.cast_ofNat_Int] at c76e)
              (try (have c76e2 := decide_eq_true c76e))
              (try replace c76e := eq_true c76e)
              have c76b0 := eq_true c76
              have c76b1 := decide_eq_true c76
              try have c76b2 := eq_false (Nat.not_lt.2 c76)
              have c76b8 : (9223372036854775807 < ((zak l1 x20_1).f0).size + 2 + ((zak l1 x20_1).f1).size + 2) = False := by have h_ := c76; simp only [ByteArray.size_append] at h_; exact eq_false (Nat.not_lt.2 h_)
              by_cases c77 : x8_1.size + (((((zak l1 x20_1).f0) ++ (⟨#[58, 32]⟩ : ByteArray)) ++ ((zak l1 x20_1).f1)) ++ (⟨#[13, 10]⟩ : ByteArray)).size ≤ 9223372036854775807
              ·rw [if_pos c77] at H
               have c77e := c77
               (try simp only [ByteArray.size_append, gt_iff_lt, ge_iff_le, show (⟨#[13, 10]⟩ : ByteArray).size = 2 from rfl, show (⟨#[58, 32]⟩ : ByteArray).size = 2 from rfl] at c77e)
               (try simp only [Int.natCast_add, Int.cast_ofNat_Int] at c77e)
               (try (have c77e2 := decide_eq_true c77e))
               (try replace c77e := eq_true c77e)
               have c77b0 := eq_true c77
               have c77b1 := decide_eq_true c77
               try have c77b2 := eq_false (Nat.not_lt.2 c77)
               have c77b8 : (9223372036854775807 < x8_1.size + (((zak l1 x20_1).f0).size + 2 + ((zak l1 x20_1).f1).size + 2)) = False := by have h_ := c77; simp only [ByteArray.size_append] at h_; exact eq_false (Nat.not_lt.2 h_)
               have H' := Aside0.mk H
               clear H
               have p253 : 0 ≤ (x20_1 : Int) := of_decide_eq_true (by first | (with_reducible assumption) | assumption)
               have q253 : x20_1 < (l1.length : Int) := of_decide_eq_true (by first | (with_reducible assumption) | assumption)
               obtain ⟨ad253, e253, hx253_0, hx253_1⟩ := zdg HR1.out x20_1 p253 q253
               cases e253
               replace hx253_0 := (HB.out.cell (World.block_lt_of_cell? w _ hx253_0)).trans hx253_0
               replace hx253_1 := (HB.out.cell (World.block_lt_of_cell? w _ hx253_1)).trans hx253_1
               replace p253 := eq_true p253
               replace q253 := eq_true q253
               try go_wp2_with (first | ((with_reducible refine zbj (N := 11) rfl ?_); (try (refine zbi (by rfl) ?_; dsimp only)); refine zbf ?hg (N := 11) ?hd (cs := #[.string ⟨#[]⟩, .string ⟨#[]⟩]) (t := 62) ?hr ?_; (case hd => rfl); (case hg => rfl); (case hr => first | (go_simp; done) | (go_simp; rfl)); intro gb254 hg w78 hbox hb; have n0_ := Aside0.mk (zam (by repeat (first | (with_reducible first | exact HB.out | apply zac | apply zaa | apply zab) | exact HB.out)) hb); have n1_ := Aside0.mk (hbox); have n2_ := Aside0.mk ((by rw [hg]; exact (zan (by repeat (first | (with_reducible first | exact HB.out | apply zac | apply zaa | apply zab) | exact HB.out))) : w.heap.size ≤ gb254)); have n3_ := Aside0.mk ((by rw [hg]; exact (zan (by repeat (first | (with_reducible first | exact HB.out | apply zac | apply zaa | apply zab) | exact HB.out))) : w.heap.size ≤ gb254)); clear HB; have HB := n0_; have BK254 := n1_; have GW254 := n2_; have GE254 := n3_; clear n0_ n1_ n2_ n3_; clear hb hbox hg; have hcz79_0 : w78.cell? ⟨gb254, 0, none⟩ = some (.string ⟨#[]⟩) := (zah BK254.out 0).trans rfl; have hcz79_1 : w78.cell? ⟨gb254, 1, none⟩ = some (.string ⟨#[]⟩) := (zah BK254.out 1).trans rfl; have hfz79_0 := zai BK254.out 0; have hfz79_1 := zai BK254.out 1) | ((with_reducible refine zar (f := 31) rfl ?_); refine zbr (some 26) rfl rfl Tryz.func31 (by kernel_rfl) rfl #[.string ((zak l1 x20_1).f0)] rfl (by (try simp only [List.map_toArray, List.map_cons, List.map_nil]); first | done | rfl | (simp only [List.length_drop, List.length_take]; rfl)) ?_; (with_reducible refine (zba.calls k1 ((zak l1 x20_1).f0) t255 _ ?side1 A8.out).mono ?_); (case side1 => exact LaidM.below HT.out (by repeat (first | (with_reducible first | exact HB.out | apply zac | apply zaa | apply zab | refine zad ?_ GE254.out) | exact HB.out))); rintro e w80 ⟨rfl, hb⟩; refine ⟨_, rfl, ?_⟩; have n0_ := Aside0.mk (zao (g := gb254) (o := .cells #[.string ((zak l1 x20_1).f0), .string ((zak l1 x20_1).f1)] 62 (0, 0)) (by (with_reducible repeat (first | refine zae ?_ _ | refine zag ?_ | refine zaf ?_ _)); refine zav (cs := #[.string ((zak l1 x20_1).f0), .string ⟨#[]⟩]) ?_ 1 _ rfl; (with_reducible repeat (first | refine zae ?_ _ | refine zag ?_ | refine zaf ?_ _)); refine zav (cs := #[.string ⟨#[]⟩, .string ⟨#[]⟩]) ?_ 0 _ rfl; (with_reducible repeat (first | refine zae ?_ _ | refine zag ?_ | refine zaf ?_ _)); exact BK254.out) hb); have n1_ := Aside0.mk (zam (by repeat (first | (with_reducible first | exact HB.out | apply zac | apply zaa | apply zab | refine zad ?_ GE254.out) | exact HB.out)) hb); clear BK254; clear HB; have BK254 := n0_; have HB := n1_; clear n0_ n1_; (try clear hb); (try clear hb2); (try clear hk); (try clear hi)))
               have n0_ := Aside0.mk (zag BK254.out)
               have n1_ := Aside0.mk (zab HB.out)
               clear BK254
               clear HB
               have BK254 := n0_
               have HB := n1_
               clear n0_ n1_
               refine zda (n := 30) (S := fun w' => w'.cell? ⟨gb254, 0, none⟩ = some (.string ((zak l1 x20_1).f0)) ∧ w'.cell? ⟨gb254, 1, none⟩ = some (.string ((zak l1 x20_1).f1))) (ds := []) (bm 30 0) (by kernel_rfl) rfl rfl ⟨(zah BK254.out 0).trans rfl, (zah BK254.out 1).trans rfl⟩ (fun hHeld => ?_); refine zci zal.tab7 zal.bits7 (fun HT_ HW_ => ?_)
               generalize w80.drew = w81 at BK254 HB hHeld ⊢
               refine pv_ HT_ 0 (bm 30 1) ?_
               refine pv_ HT_ 1 (bm 30 3) ?_
               refine pv_ HT_ 2 (bm 30 7) ?_
               refine zcn (i := 3) (N := some 30) (v := ?_) (a' := ?_) (bm 30 15) rfl rfl (zbk HT_.out HW_.out (by kernel_rfl)) (fun _ _ _ h => h) (Or.inl ⟨by rfl, ?_⟩) hHeld ?_ ?_
               rotate_left
               ·rintro w' ⟨s0, s1⟩
                go_simp
                with_reducible rfl
               rotate_left
               ·simp only [Act.put, List.setIfInBounds_toArray, List.set_cons_zero, List.set_cons_succ, zbq, zbs]
                rfl
               refine one_ (i := 4) (N := some 31) (bm 30 31) rfl rfl (zcg HT_.out (by kernel_rfl)) (by decide) (fun K hK => ?_)
               refine zcw Tryz.func32 (by kernel_rfl) rfl #[.string ((zak l1 x20_1).f0)] (by rfl) rfl rfl (by (try simp only [List.map_toArray, List.map_cons, List.map_nil]); first | done | rfl | (simp only [List.length_drop, List.length_take]; rfl)) ?_
               with_reducible refine (zay.calls k1 ((zak l1 x20_1).f0) true _ A24.out).mono ?_
               rintro e w' ⟨rfl, ⟨nd, rfl⟩⟩
               refine ⟨_, rfl, ?_⟩
               refine hK.out _ _ ⟨(zah BK254.out 0).trans rfl, (zah BK254.out 1).trans rfl⟩ (fun hHeld => ?_)
               clear hK K
               refine zcv (a' := ?_) ?_ ?_
               rotate_left
               ·show Act.put _ (some 31) _ = _
                simp only [Act.put, List.setIfInBounds_toArray, List.set_cons_zero, List.set_cons_succ, zbq, zbs]
                rfl
               refine pv_ HT_ 5 (bm 30 63) ?_
               refine pv_ HT_ 6 (bm 30 127) ?_
               refine pv_ HT_ 7 (bm 30 255) ?_
               refine pv_ HT_ 8 (bm 30 511) ?_
               refine zcn (i := 9) (N := some 36) (v := ?_) (a' := ?_) (bm 30 1023) rfl rfl (zbk HT_.out HW_.out (by kernel_rfl)) (fun _ _ _ h => h) (Or.inl ⟨by rfl, ?_⟩) hHeld ?_ ?_
               rotate_left
               ·rintro w' ⟨s0, s1⟩
                go_simp
                with_reducible rfl
               rotate_left
               ·simp only [Act.put, List.setIfInBounds_toArray, List.set_cons_zero, List.set_cons_succ, zbq, zbs]
                rfl
               refine one_ (i := 10) (N := some 37) (bm 30 2047) rfl rfl (zcg HT_.out (by kernel_rfl)) (by decide) (fun K hK => ?_)
               refine zcw Tryz.func29 (by kernel_rfl) rfl #[.string ((zak l1 x20_1).f1), .int .u8 32, .int .u8 126, .bool true] (by rfl) rfl rfl (by (try simp only [List.map_toArray, List.map_cons, List.map_nil]); first | done | rfl | (simp only [List.length_drop, List.length_take]; rfl)) ?_
               with_reducible refine (zaw.calls k1 ((zak l1 x20_1).f1) 32 126 true false _ A26.out).mono ?_
               rintro e w' ⟨rfl, ⟨nd, rfl⟩⟩
               refine ⟨_, rfl, ?_⟩
               refine hK.out _ _ ⟨(zah BK254.out 0).trans rfl, (zah BK254.out 1).trans rfl⟩ (fun hHeld => ?_)
               clear hK K
               refine zcv (a' := ?_) ?_ ?_
               rotate_left
               ·show Act.put _ (some 37) _ = _
                simp only [Act.put, List.setIfInBounds_toArray, List.set_cons_zero, List.set_cons_succ, zbq, zbs]
                rfl
               refine pv_ HT_ 11 (bm 30 4095) ?_
               refine pv_ HT_ 12 (bm 30 8191) ?_
               refine pv_ HT_ 13 (bm 30 16383) ?_
               refine pu_ HT_ 14 (bm 30 32767) ?_
               refine pu_ HT_ 15 (bm 30 65535) ?_
               refine pu_ HT_ 16 (bm 30 131071) ?_
               refine pu_ HT_ 17 (bm 30 262143) ?_
               refine pu_ HT_ 18 (bm 30 524287) ?_
               refine pu_ HT_ 19 (bm 30 1048575) ?_
               refine pv_ HT_ 20 (bm 30 2097151) ?_
               refine pv_ HT_ 21 (bm 30 4194303) ?_
               refine pu_ HT_ 22 (bm 30 8388607) ?_
               refine pu_ HT_ 23 (bm 30 16777215) ?_
               refine pv_ HT_ 24 (bm 30 33554431) ?_
               refine pv_ HT_ 25 (bm 30 67108863) ?_
               refine pu_ HT_ 26 (bm 30 134217727) ?_
               refine pu_ HT_ 27 (bm 30 268435455) ?_
               refine pv_ HT_ 28 (bm 30 536870911) ?_
               refine pv_ HT_ 29 (bm 30 1073741823) ?_
               refine zdu (zcu HT_.out (by kernel_rfl)) ?_
               have hcz82_0 : w81.cell? ⟨gb254, 0, none⟩ = some (.string ((zak l1 x20_1).f0)) := (zah BK254.out 0).trans rfl
               have hcz82_1 : w81.cell? ⟨gb254, 1, none⟩ = some (.string ((zak l1 x20_1).f1)) := (zah BK254.out 1).trans rfl
               have hfz82_0 := zai BK254.out 0
               have hfz82_1 := zai BK254.out 1
               try go_wp2
               go_roundg k1
               case measure => have := HK1.out; omega
               case rel => exact ⟨(x8_1 ++ (((((zak l1 x20_1).f0) ++ (⟨#[58, 32]⟩ : ByteArray)) ++ ((zak l1 x20_1).f1)) ++ (⟨#[13, 10]⟩ : ByteArray))), (true), (wrap64 (x20_1 + 1)), (by first | rfl | (simp; done) | (simp [*]; done)), (by first | rfl | (simp; done) | (simp [*]; done)), (by first | rfl | (simp; done) | (simp [*]; done)), H', ⟨by have := HK1.out; omega⟩, ⟨by repeat (first | (with_reducible first | exact HB.out | apply zac | apply zaa | apply zab | refine zad ?_ GE254.out) | exact HB.out)⟩⟩
              ·rw [if_neg c77] at H
               have c77e := c77
               (try simp only [ByteArray.size_append, gt_iff_lt, ge_iff_le, show (⟨#[13, 10]⟩ : ByteArray).size = 2 from rfl, show (⟨#[58, 32]⟩ : ByteArray).size = 2 from rfl] at c77e)
               (try simp only [Int.natCast_add, Int.cast_ofNat_Int] at c77e)
               (try (have c77e2 := decide_eq_false c77e))
               (try replace c77e := eq_false c77e)
               exact absurd H (by simp)
             ·rw [if_neg c76] at H
              have c76e := c76
              (try simp only [ByteArray.size_append, gt_iff_lt, ge_iff_le, show (⟨#[58, 32]⟩ : ByteArray).size = 2 from rfl] at c76e)
              (try simp only [Int.natCast_add, Int.cast_ofNat_Int] at c76e)
              (try (have c76e2 := decide_eq_false c76e))
              (try replace c76e := eq_false c76e)
              exact absurd H (by simp)
            ·rw [if_neg c75] at H
             have c75e := c75
             (try simp only [ByteArray.size_append, gt_iff_lt, ge_iff_le, show (⟨#[58, 32]⟩ : ByteArray).size = 2 from rfl] at c75e)
             (try simp only [Int.natCast_add, Int.cast_ofNat_Int] at c75e)
             (try (have c75e2 := decide_eq_false c75e))
             (try replace c75e := eq_false c75e)
             exact absurd H (by simp)
           ·rw [if_neg c74] at H
            exact absurd H (by simp)
          ·rw [if_neg c73] at H
           have c73b0 : decide ((x8_1.size : Int) ≤ 8192) = false := decide_eq_false c73
           have c73b1 : decide (x8_1.size ≤ 8192) = false := decide_eq_false (by omega)
           clear c73
           have H' := Aside0.mk H
           clear H
           have p253 : 0 ≤ (x20_1 : Int) := of_decide_eq_true (by first | (with_reducible assumption) | assumption)
           have q253 : x20_1 < (l1.length : Int) := of_decide_eq_true (by first | (with_reducible assumption) | assumption)
           obtain ⟨ad253, e253, hx253_0, hx253_1⟩ := zdg HR1.out x20_1 p253 q253
           cases e253
           replace hx253_0 := (HB.out.cell (World.block_lt_of_cell? w _ hx253_0)).trans hx253_0
           replace hx253_1 := (HB.out.cell (World.block_lt_of_cell? w _ hx253_1)).trans hx253_1
           replace p253 := eq_true p253
           replace q253 := eq_true q253
           try go_wp2_with (first | ((with_reducible refine zbj (N := 11) rfl ?_); (try (refine zbi (by rfl) ?_; dsimp only)); refine zbf ?hg (N := 11) ?hd (cs := #[.string ⟨#[]⟩, .string ⟨#[]⟩]) (t := 62) ?hr ?_; (case hd => rfl); (case hg => rfl); (case hr => first | (go_simp; done) | (go_simp; rfl)); intro gb254 hg w83 hbox hb; have n0_ := Aside0.mk (zam (by repeat (first | (with_reducible first | exact HB.out | apply zac | apply zaa | apply zab) | exact HB.out)) hb); have n1_ := Aside0.mk (hbox); have n2_ := Aside0.mk ((by rw [hg]; exact (zan (by repeat (first | (with_reducible first | exact HB.out | apply zac | apply zaa | apply zab) | exact HB.out))) : w.heap.size ≤ gb254)); have n3_ := Aside0.mk ((by rw [hg]; exact (zan (by repeat (first | (with_reducible first | exact HB.out | apply zac | apply zaa | apply zab) | exact HB.out))) : w.heap.size ≤ gb254)); clear HB; have HB := n0_; have BK254 := n1_; have GW254 := n2_; have GE254 := n3_; clear n0_ n1_ n2_ n3_; clear hb hbox hg; have hcz84_0 : w83.cell? ⟨gb254, 0, none⟩ = some (.string ⟨#[]⟩) := (zah BK254.out 0).trans rfl; have hcz84_1 : w83.cell? ⟨gb254, 1, none⟩ = some (.string ⟨#[]⟩) := (zah BK254.out 1).trans rfl; have hfz84_0 := zai BK254.out 0; have hfz84_1 := zai BK254.out 1) | ((with_reducible refine zar (f := 31) rfl ?_); refine zbr (some 26) rfl rfl Tryz.func31 (by kernel_rfl) rfl #[.string ((zak l1 x20_1).f0)] rfl (by (try simp only [List.map_toArray, List.map_cons, List.map_nil]); first | done | rfl | (simp only [List.length_drop, List.length_take]; rfl)) ?_; (with_reducible refine (zba.calls k1 ((zak l1 x20_1).f0) t255 _ ?side1 A8.out).mono ?_); (case side1 => exact LaidM.below HT.out (by repeat (first | (with_reducible first | exact HB.out | apply zac | apply zaa | apply zab | refine zad ?_ GE254.out) | exact HB.out))); rintro e w85 ⟨rfl, hb⟩; refine ⟨_, rfl, ?_⟩; have n0_ := Aside0.mk (zao (g := gb254) (o := .cells #[.string ((zak l1 x20_1).f0), .string ((zak l1 x20_1).f1)] 62 (0, 0)) (by (with_reducible repeat (first | refine zae ?_ _ | refine zag ?_ | refine zaf ?_ _)); refine zav (cs := #[.string ((zak l1 x20_1).f0), .string ⟨#[]⟩]) ?_ 1 _ rfl; (with_reducible repeat (first | refine zae ?_ _ | refine zag ?_ | refine zaf ?_ _)); refine zav (cs := #[.string ⟨#[]⟩, .string ⟨#[]⟩]) ?_ 0 _ rfl; (with_reducible repeat (first | refine zae ?_ _ | refine zag ?_ | refine zaf ?_ _)); exact BK254.out) hb); have n1_ := Aside0.mk (zam (by repeat (first | (with_reducible first | exact HB.out | apply zac | apply zaa | apply zab | refine zad ?_ GE254.out) | exact HB.out)) hb); clear BK254; clear HB; have BK254 := n0_; have HB := n1_; clear n0_ n1_; (try clear hb); (try clear hb2); (try clear hk); (try clear hi)))
           have n0_ := Aside0.mk (zag BK254.out)
           have n1_ := Aside0.mk (zab HB.out)
           clear BK254
           clear HB
           have BK254 := n0_
           have HB := n1_
           clear n0_ n1_
           refine zda (n := 30) (S := fun w' => w'.cell? ⟨gb254, 0, none⟩ = some (.string ((zak l1 x20_1).f0)) ∧ w'.cell? ⟨gb254, 1, none⟩ = some (.string ((zak l1 x20_1).f1))) (ds := []) (bm 30 0) (by kernel_rfl) rfl rfl ⟨(zah BK254.out 0).trans rfl, (zah BK254.out 1).trans rfl⟩ (fun hHeld => ?_); refine zci zal.tab7 zal.bits7 (fun HT_ HW_ => ?_)
           generalize w85.drew = w86 at BK254 HB hHeld ⊢
           refine pv_ HT_ 0 (bm 30 1) ?_
           refine pv_ HT_ 1 (bm 30 3) ?_
           refine pv_ HT_ 2 (bm 30 7) ?_
           refine zcn (i := 3) (N := some 30) (v := ?_) (a' := ?_) (bm 30 15) rfl rfl (zbk HT_.out HW_.out (by kernel_rfl)) (fun _ _ _ h => h) (Or.inl ⟨by rfl, ?_⟩) hHeld ?_ ?_
           rotate_left
           ·rintro w' ⟨s0, s1⟩
            go_simp
            with_reducible rfl
           rotate_left
           ·simp only [Act.put, List.setIfInBounds_toArray, List.set_cons_zero, List.set_cons_succ, zbq, zbs]
            rfl
           refine one_ (i := 4) (N := some 31) (bm 30 31) rfl rfl (zcg HT_.out (by kernel_rfl)) (by decide) (fun K hK => ?_)
           refine zcw Tryz.func32 (by kernel_rfl) rfl #[.string ((zak l1 x20_1).f0)] (by rfl) rfl rfl (by (try simp only [List.map_toArray, List.map_cons, List.map_nil]); first | done | rfl | (simp only [List.length_drop, List.length_take]; rfl)) ?_
           with_reducible refine (zay.calls k1 ((zak l1 x20_1).f0) true _ A24.out).mono ?_
           rintro e w' ⟨rfl, ⟨nd, rfl⟩⟩
           refine ⟨_, rfl, ?_⟩
           refine hK.out _ _ ⟨(zah BK254.out 0).trans rfl, (zah BK254.out 1).trans rfl⟩ (fun hHeld => ?_)
           clear hK K
           refine zcv (a' := ?_) ?_ ?_
           rotate_left
           ·show Act.put _ (some 31) _ = _
            simp only [Act.put, List.setIfInBounds_toArray, List.set_cons_zero, List.set_cons_succ, zbq, zbs]
            rfl
           refine pv_ HT_ 5 (bm 30 63) ?_
           refine pv_ HT_ 6 (bm 30 127) ?_
           refine pv_ HT_ 7 (bm 30 255) ?_
           refine pv_ HT_ 8 (bm 30 511) ?_
           refine zcn (i := 9) (N := some 36) (v := ?_) (a' := ?_) (bm 30 1023) rfl rfl (zbk HT_.out HW_.out (by kernel_rfl)) (fun _ _ _ h => h) (Or.inl ⟨by rfl, ?_⟩) hHeld ?_ ?_
           rotate_left
           ·rintro w' ⟨s0, s1⟩
            go_simp
            with_reducible rfl
           rotate_left
           ·simp only [Act.put, List.setIfInBounds_toArray, List.set_cons_zero, List.set_cons_succ, zbq, zbs]
            rfl
           refine one_ (i := 10) (N := some 37) (bm 30 2047) rfl rfl (zcg HT_.out (by kernel_rfl)) (by decide) (fun K hK => ?_)
           refine zcw Tryz.func29 (by kernel_rfl) rfl #[.string ((zak l1 x20_1).f1), .int .u8 32, .int .u8 126, .bool true] (by rfl) rfl rfl (by (try simp only [List.map_toArray, List.map_cons, List.map_nil]); first | done | rfl | (simp only [List.length_drop, List.length_take]; rfl)) ?_
           with_reducible refine (zaw.calls k1 ((zak l1 x20_1).f1) 32 126 true false _ A26.out).mono ?_
           rintro e w' ⟨rfl, ⟨nd, rfl⟩⟩
           refine ⟨_, rfl, ?_⟩
           refine hK.out _ _ ⟨(zah BK254.out 0).trans rfl, (zah BK254.out 1).trans rfl⟩ (fun hHeld => ?_)
           clear hK K
           refine zcv (a' := ?_) ?_ ?_
           rotate_left
           ·show Act.put _ (some 37) _ = _
            simp only [Act.put, List.setIfInBounds_toArray, List.set_cons_zero, List.set_cons_succ, zbq, zbs]
            rfl
           refine pv_ HT_ 11 (bm 30 4095) ?_
           refine pv_ HT_ 12 (bm 30 8191) ?_
           refine pv_ HT_ 13 (bm 30 16383) ?_
           refine pu_ HT_ 14 (bm 30 32767) ?_
           refine pu_ HT_ 15 (bm 30 65535) ?_
           refine pu_ HT_ 16 (bm 30 131071) ?_
           refine pu_ HT_ 17 (bm 30 262143) ?_
           refine pu_ HT_ 18 (bm 30 524287) ?_
           refine pu_ HT_ 19 (bm 30 1048575) ?_
           refine pv_ HT_ 20 (bm 30 2097151) ?_
           refine pv_ HT_ 21 (bm 30 4194303) ?_
           refine pu_ HT_ 22 (bm 30 8388607) ?_
           refine pu_ HT_ 23 (bm 30 16777215) ?_
           refine pv_ HT_ 24 (bm 30 33554431) ?_
           refine pv_ HT_ 25 (bm 30 67108863) ?_
           refine pu_ HT_ 26 (bm 30 134217727) ?_
           refine pu_ HT_ 27 (bm 30 268435455) ?_
           refine pv_ HT_ 28 (bm 30 536870911) ?_
           refine pv_ HT_ 29 (bm 30 1073741823) ?_
           refine zdu (zcu HT_.out (by kernel_rfl)) ?_
           try go_wp2
           go_roundg k1
           case measure => have := HK1.out; omega
           case rel => exact ⟨(x8_1), (true), (wrap64 (x20_1 + 1)), (by first | rfl | (simp; done) | (simp [*]; done)), (by first | rfl | (simp; done) | (simp [*]; done)), (by first | rfl | (simp; done) | (simp [*]; done)), H', ⟨by have := HK1.out; omega⟩, ⟨by repeat (first | (with_reducible first | exact HB.out | apply zac | apply zaa | apply zab | refine zad ?_ GE254.out) | exact HB.out)⟩⟩
        ·replace c25 := Bool.eq_false_iff.mpr c25
         subst c25
         have H1 : (if (x8_1.size : Int) ≤ 8192 then (if ((zak l1 x20_1).f0).size + 2 ≤ 9223372036854775807 then (if (((zak l1 x20_1).f0) ++ (⟨#[58, 32]⟩ : ByteArray)).size + ((zak l1 x20_1).f1).size ≤ 9223372036854775807 then (if ((((zak l1 x20_1).f0) ++ (⟨#[58, 32]⟩ : ByteArray)) ++ ((zak l1 x20_1).f1)).size + 2 ≤ 9223372036854775807 then (if x8_1.size + (((((zak l1 x20_1).f0) ++ (⟨#[58, 32]⟩ : ByteArray)) ++ ((zak l1 x20_1).f1)) ++ (⟨#[13, 10]⟩ : ByteArray)).size ≤ 9223372036854775807 then (zal.l0 k1 a2 (x8_1 ++ (((((zak l1 x20_1).f0) ++ (⟨#[58, 32]⟩ : ByteArray)) ++ ((zak l1 x20_1).f1)) ++ (⟨#[13, 10]⟩ : ByteArray))) true l1 (l1.length : Int) (wrap64 (x20_1 + 1))) else (none)) else (none)) else (none)) else (none)) else (zal.l0 k1 a2 x8_1 true l1 (l1.length : Int) (wrap64 (x20_1 + 1)))) = some (r1, r2) := by rw [if_neg (show ¬ (false = true) by decide)] at H; exact H
         clear H
         have H := H1
         clear H1
         by_cases c87 : (x8_1.size : Int) ≤ 8192
         ·rw [if_pos c87] at H
          have c87b0 := decide_eq_true c87
          have c87b1 : decide (x8_1.size ≤ 8192) = true := decide_eq_true (by omega)
          clear c87
          by_cases c88 : ((zak l1 x20_1).f0).size + 2 ≤ 9223372036854775807
          ·rw [if_pos c88] at H
           have c88b0 := eq_true c88
           have c88b1 := decide_eq_true c88
           try have c88b2 := eq_false (Nat.not_lt.2 c88)
           by_cases c89 : (((zak l1 x20_1).f0) ++ (⟨#[58, 32]⟩ : ByteArray)).size + ((zak l1 x20_1).f1).size ≤ 9223372036854775807
           ·rw [if_pos c89] at H
            have c89e := c89
            (try simp only [ByteArray.size_append, gt_iff_lt, ge_iff_le, show (⟨#[58, 32]⟩ : ByteArray).size = 2 from rfl] at c89e)
            (try simp only [Int.natCast_add, Int.cast_ofNat_Int] at c89e)
            (try (have c89e2 := decide_eq_true c89e))
            (try replace c89e := eq_true c89e)
            have c89b0 := eq_true c89
            have c89b1 := decide_eq_true c89
            try have c89b2 := eq_false (Nat.not_lt.2 c89)
            have c89b8 : (9223372036854775807 < ((zak l1 x20_1).f0).size + 2 + ((zak l1 x20_1).f1).size) = False := by have h_ := c89; simp only [ByteArray.size_append] at h_; exact eq_false (Nat.not_lt.2 h_)
            by_cases c90 : ((((zak l1 x20_1).f0) ++ (⟨#[58, 32]⟩ : ByteArray)) ++ ((zak l1 x20_1).f1)).size + 2 ≤ 9223372036854775807
            ·rw [if_pos c90] at H
             have c90e := c90
             (try simp only [ByteArray.size_append, gt_iff_lt, ge_iff_le, show (⟨#[58, 32]⟩ : ByteArray).size = 2 from rfl] at c90e)
             (try simp only [Int.natCast_add, Int.cast_ofNat_Int] at c90e)
             (try (have c90e2 := decide_eq_true c90e))
             (try replace c90e := eq_true c90e)
             have c90b0 := eq_true c90
             have c90b1 := decide_eq_true c90
             try have c90b2 := eq_false (Nat.not_lt.2 c90)
             have c90b8 : (9223372036854775807 < ((zak l1 x20_1).f0).size + 2 + ((zak l1 x20_1).f1).size + 2) = False := by have h_ := c90; simp only [ByteArray.size_append] at h_; exact eq_false (Nat.not_lt.2 h_)
             by_cases c91 : x8_1.size + (((((zak l1 x20_1).f0) ++ (⟨#[58, 32]⟩ : ByteArray)) ++ ((zak l1 x20_1).f1)) ++ (⟨#[13, 10]⟩ : ByteArray)).size ≤ 9223372036854775807
             ·rw [if_pos c91] at H
              have c91e := c91
              (try simp only [ByteArray.size_append, gt_iff_lt, ge_iff_le, show (⟨#[13, 10]⟩ : ByteArray).size = 2 from rfl, show (⟨#[58, 32]⟩ : ByteArray).size = 2 from rfl] at c91e)
              (try simp only [Int.natCast_add, Int.cast_ofNat_Int] at c91e)
              (try (have c91e2 := decide_eq_true c91e))
              (try replace c91e := eq_true c91e)
              have c91b0 := eq_true c91
              have c91b1 := decide_eq_true c91
              try have c91b2 := eq_false (Nat.not_lt.2 c91)
              have c91b8 : (9223372036854775807 < x8_1.size + (((zak l1 x20_1).f0).size + 2 + ((zak l1 x20_1).f1).size + 2)) = False := by have h_ := c91; simp only [ByteArray.size_append] at h_; exact eq_false (Nat.not_lt.2 h_)
              have H' := Aside0.mk H
              clear H
              have p253 : 0 ≤ (x20_1 : Int) := of_decide_eq_true (by first | (with_reducible assumption) | assumption)
              have q253 : x20_1 < (l1.length : Int) := of_decide_eq_true (by first | (with_reducible assumption) | assumption)
              obtain ⟨ad253, e253, hx253_0, hx253_1⟩ := zdg HR1.out x20_1 p253 q253
              cases e253
              replace hx253_0 := (HB.out.cell (World.block_lt_of_cell? w _ hx253_0)).trans hx253_0
              replace hx253_1 := (HB.out.cell (World.block_lt_of_cell? w _ hx253_1)).trans hx253_1
              replace p253 := eq_true p253
              replace q253 := eq_true q253
              try go_wp2_with (first | ((with_reducible refine zbj (N := 11) rfl ?_); (try (refine zbi (by rfl) ?_; dsimp only)); refine zbf ?hg (N := 11) ?hd (cs := #[.string ⟨#[]⟩, .string ⟨#[]⟩]) (t := 62) ?hr ?_; (case hd => rfl); (case hg => rfl); (case hr => first | (go_simp; done) | (go_simp; rfl)); intro gb254 hg w92 hbox hb; have n0_ := Aside0.mk (zam (by repeat (first | (with_reducible first | exact HB.out | apply zac | apply zaa | apply zab) | exact HB.out)) hb); have n1_ := Aside0.mk (hbox); have n2_ := Aside0.mk ((by rw [hg]; exact (zan (by repeat (first | (with_reducible first | exact HB.out | apply zac | apply zaa | apply zab) | exact HB.out))) : w.heap.size ≤ gb254)); have n3_ := Aside0.mk ((by rw [hg]; exact (zan (by repeat (first | (with_reducible first | exact HB.out | apply zac | apply zaa | apply zab) | exact HB.out))) : w.heap.size ≤ gb254)); clear HB; have HB := n0_; have BK254 := n1_; have GW254 := n2_; have GE254 := n3_; clear n0_ n1_ n2_ n3_; clear hb hbox hg; have hcz93_0 : w92.cell? ⟨gb254, 0, none⟩ = some (.string ⟨#[]⟩) := (zah BK254.out 0).trans rfl; have hcz93_1 : w92.cell? ⟨gb254, 1, none⟩ = some (.string ⟨#[]⟩) := (zah BK254.out 1).trans rfl; have hfz93_0 := zai BK254.out 0; have hfz93_1 := zai BK254.out 1) | ((with_reducible refine zar (f := 31) rfl ?_); refine zbr (some 26) rfl rfl Tryz.func31 (by kernel_rfl) rfl #[.string ((zak l1 x20_1).f0)] rfl (by (try simp only [List.map_toArray, List.map_cons, List.map_nil]); first | done | rfl | (simp only [List.length_drop, List.length_take]; rfl)) ?_; (with_reducible refine (zba.calls k1 ((zak l1 x20_1).f0) t255 _ ?side1 A8.out).mono ?_); (case side1 => exact LaidM.below HT.out (by repeat (first | (with_reducible first | exact HB.out | apply zac | apply zaa | apply zab | refine zad ?_ GE254.out) | exact HB.out))); rintro e w94 ⟨rfl, hb⟩; refine ⟨_, rfl, ?_⟩; have n0_ := Aside0.mk (zao (g := gb254) (o := .cells #[.string ((zak l1 x20_1).f0), .string ((zak l1 x20_1).f1)] 62 (0, 0)) (by (with_reducible repeat (first | refine zae ?_ _ | refine zag ?_ | refine zaf ?_ _)); refine zav (cs := #[.string ((zak l1 x20_1).f0), .string ⟨#[]⟩]) ?_ 1 _ rfl; (with_reducible repeat (first | refine zae ?_ _ | refine zag ?_ | refine zaf ?_ _)); refine zav (cs := #[.string ⟨#[]⟩, .string ⟨#[]⟩]) ?_ 0 _ rfl; (with_reducible repeat (first | refine zae ?_ _ | refine zag ?_ | refine zaf ?_ _)); exact BK254.out) hb); have n1_ := Aside0.mk (zam (by repeat (first | (with_reducible first | exact HB.out | apply zac | apply zaa | apply zab | refine zad ?_ GE254.out) | exact HB.out)) hb); clear BK254; clear HB; have BK254 := n0_; have HB := n1_; clear n0_ n1_; (try clear hb); (try clear hb2); (try clear hk); (try clear hi)))
              have n0_ := Aside0.mk (zag BK254.out)
              have n1_ := Aside0.mk (zab HB.out)
              clear BK254
              clear HB
              have BK254 := n0_
              have HB := n1_
              clear n0_ n1_
              refine zda (n := 30) (S := fun w' => w'.cell? ⟨gb254, 0, none⟩ = some (.string ((zak l1 x20_1).f0)) ∧ w'.cell? ⟨gb254, 1, none⟩ = some (.string ((zak l1 x20_1).f1))) (ds := []) (bm 30 0) (by kernel_rfl) rfl rfl ⟨(zah BK254.out 0).trans rfl, (zah BK254.out 1).trans rfl⟩ (fun hHeld => ?_); refine zci zal.tab7 zal.bits7 (fun HT_ HW_ => ?_)
              generalize w94.drew = w95 at BK254 HB hHeld ⊢
              refine pv_ HT_ 0 (bm 30 1) ?_
              refine pv_ HT_ 1 (bm 30 3) ?_
              refine pv_ HT_ 2 (bm 30 7) ?_
              refine zcn (i := 3) (N := some 30) (v := ?_) (a' := ?_) (bm 30 15) rfl rfl (zbk HT_.out HW_.out (by kernel_rfl)) (fun _ _ _ h => h) (Or.inl ⟨by rfl, ?_⟩) hHeld ?_ ?_
              rotate_left
              ·rintro w' ⟨s0, s1⟩
               go_simp
               with_reducible rfl
              rotate_left
              ·simp only [Act.put, List.setIfInBounds_toArray, List.set_cons_zero, List.set_cons_succ, zbq, zbs]
               rfl
              refine one_ (i := 4) (N := some 31) (bm 30 31) rfl rfl (zcg HT_.out (by kernel_rfl)) (by decide) (fun K hK => ?_)
              refine zcw Tryz.func32 (by kernel_rfl) rfl #[.string ((zak l1 x20_1).f0)] (by rfl) rfl rfl (by (try simp only [List.map_toArray, List.map_cons, List.map_nil]); first | done | rfl | (simp only [List.length_drop, List.length_take]; rfl)) ?_
              with_reducible refine (zay.calls k1 ((zak l1 x20_1).f0) false _ A24.out).mono ?_
              rintro e w' ⟨rfl, ⟨nd, rfl⟩⟩
              refine ⟨_, rfl, ?_⟩
              refine hK.out _ _ ⟨(zah BK254.out 0).trans rfl, (zah BK254.out 1).trans rfl⟩ (fun hHeld => ?_)
              clear hK K
              refine zcv (a' := ?_) ?_ ?_
              rotate_left
              ·show Act.put _ (some 31) _ = _
               simp only [Act.put, List.setIfInBounds_toArray, List.set_cons_zero, List.set_cons_succ, zbq, zbs]
               rfl
              refine pv_ HT_ 5 (bm 30 63) ?_
              refine pv_ HT_ 6 (bm 30 127) ?_
              refine pv_ HT_ 7 (bm 30 255) ?_
              refine pu_ HT_ 8 (bm 30 511) ?_
              refine pu_ HT_ 9 (bm 30 1023) ?_
              refine pu_ HT_ 10 (bm 30 2047) ?_
              refine pu_ HT_ 11 (bm 30 4095) ?_
              refine pv_ HT_ 12 (bm 30 8191) ?_
              refine pv_ HT_ 13 (bm 30 16383) ?_
              refine pu_ HT_ 14 (bm 30 32767) ?_
              refine pu_ HT_ 15 (bm 30 65535) ?_
              refine pu_ HT_ 16 (bm 30 131071) ?_
              refine pu_ HT_ 17 (bm 30 262143) ?_
              refine pu_ HT_ 18 (bm 30 524287) ?_
              refine pu_ HT_ 19 (bm 30 1048575) ?_
              refine pv_ HT_ 20 (bm 30 2097151) ?_
              refine pv_ HT_ 21 (bm 30 4194303) ?_
              refine pu_ HT_ 22 (bm 30 8388607) ?_
              refine pu_ HT_ 23 (bm 30 16777215) ?_
              refine pv_ HT_ 24 (bm 30 33554431) ?_
              refine pv_ HT_ 25 (bm 30 67108863) ?_
              refine pu_ HT_ 26 (bm 30 134217727) ?_
              refine pu_ HT_ 27 (bm 30 268435455) ?_
              refine pv_ HT_ 28 (bm 30 536870911) ?_
              refine pv_ HT_ 29 (bm 30 1073741823) ?_
              refine zdu (zcu HT_.out (by kernel_rfl)) ?_
              have hcz96_0 : w95.cell? ⟨gb254, 0, none⟩ = some (.string ((zak l1 x20_1).f0)) := (zah BK254.out 0).trans rfl
              have hcz96_1 : w95.cell? ⟨gb254, 1, none⟩ = some (.string ((zak l1 x20_1).f1)) := (zah BK254.out 1).trans rfl
              have hfz96_0 := zai BK254.out 0
              have hfz96_1 := zai BK254.out 1
              try go_wp2
              go_roundg k1
              case measure => have := HK1.out; omega
              case rel => exact ⟨(x8_1 ++ (((((zak l1 x20_1).f0) ++ (⟨#[58, 32]⟩ : ByteArray)) ++ ((zak l1 x20_1).f1)) ++ (⟨#[13, 10]⟩ : ByteArray))), (true), (wrap64 (x20_1 + 1)), (by first | rfl | (simp; done) | (simp [*]; done)), (by first | rfl | (simp; done) | (simp [*]; done)), (by first | rfl | (simp; done) | (simp [*]; done)), H', ⟨by have := HK1.out; omega⟩, ⟨by repeat (first | (with_reducible first | exact HB.out | apply zac | apply zaa | apply zab | refine zad ?_ GE254.out) | exact HB.out)⟩⟩
             ·rw [if_neg c91] at H
              have c91e := c91
              (try simp only [ByteArray.size_append, gt_iff_lt, ge_iff_le, show (⟨#[13, 10]⟩ : ByteArray).size = 2 from rfl, show (⟨#[58, 32]⟩ : ByteArray).size = 2 from rfl] at c91e)
              (try simp only [Int.natCast_add, Int.cast_ofNat_Int] at c91e)
              (try (have c91e2 := decide_eq_false c91e))
              (try replace c91e := eq_false c91e)
              exact absurd H (by simp)
            ·rw [if_neg c90] at H
             have c90e := c90
             (try simp only [ByteArray.size_append, gt_iff_lt, ge_iff_le, show (⟨#[58, 32]⟩ : ByteArray).size = 2 from rfl] at c90e)
             (try simp only [Int.natCast_add, Int.cast_ofNat_Int] at c90e)
             (try (have c90e2 := decide_eq_false c90e))
             (try replace c90e := eq_false c90e)
             exact absurd H (by simp)
           ·rw [if_neg c89] at H
            have c89e := c89
            (try simp only [ByteArray.size_append, gt_iff_lt, ge_iff_le, show (⟨#[58, 32]⟩ : ByteArray).size = 2 from rfl] at c89e)
            (try simp only [Int.natCast_add, Int.cast_ofNat_Int] at c89e)
            (try (have c89e2 := decide_eq_false c89e))
            (try replace c89e := eq_false c89e)
            exact absurd H (by simp)
          ·rw [if_neg c88] at H
           exact absurd H (by simp)
         ·rw [if_neg c87] at H
          have c87b0 : decide ((x8_1.size : Int) ≤ 8192) = false := decide_eq_false c87
          have c87b1 : decide (x8_1.size ≤ 8192) = false := decide_eq_false (by omega)
          clear c87
          have H' := Aside0.mk H
          clear H
          have p253 : 0 ≤ (x20_1 : Int) := of_decide_eq_true (by first | (with_reducible assumption) | assumption)
          have q253 : x20_1 < (l1.length : Int) := of_decide_eq_true (by first | (with_reducible assumption) | assumption)
          obtain ⟨ad253, e253, hx253_0, hx253_1⟩ := zdg HR1.out x20_1 p253 q253
          cases e253
          replace hx253_0 := (HB.out.cell (World.block_lt_of_cell? w _ hx253_0)).trans hx253_0
          replace hx253_1 := (HB.out.cell (World.block_lt_of_cell? w _ hx253_1)).trans hx253_1
          replace p253 := eq_true p253
          replace q253 := eq_true q253
          try go_wp2_with (first | ((with_reducible refine zbj (N := 11) rfl ?_); (try (refine zbi (by rfl) ?_; dsimp only)); refine zbf ?hg (N := 11) ?hd (cs := #[.string ⟨#[]⟩, .string ⟨#[]⟩]) (t := 62) ?hr ?_; (case hd => rfl); (case hg => rfl); (case hr => first | (go_simp; done) | (go_simp; rfl)); intro gb254 hg w97 hbox hb; have n0_ := Aside0.mk (zam (by repeat (first | (with_reducible first | exact HB.out | apply zac | apply zaa | apply zab) | exact HB.out)) hb); have n1_ := Aside0.mk (hbox); have n2_ := Aside0.mk ((by rw [hg]; exact (zan (by repeat (first | (with_reducible first | exact HB.out | apply zac | apply zaa | apply zab) | exact HB.out))) : w.heap.size ≤ gb254)); have n3_ := Aside0.mk ((by rw [hg]; exact (zan (by repeat (first | (with_reducible first | exact HB.out | apply zac | apply zaa | apply zab) | exact HB.out))) : w.heap.size ≤ gb254)); clear HB; have HB := n0_; have BK254 := n1_; have GW254 := n2_; have GE254 := n3_; clear n0_ n1_ n2_ n3_; clear hb hbox hg; have hcz98_0 : w97.cell? ⟨gb254, 0, none⟩ = some (.string ⟨#[]⟩) := (zah BK254.out 0).trans rfl; have hcz98_1 : w97.cell? ⟨gb254, 1, none⟩ = some (.string ⟨#[]⟩) := (zah BK254.out 1).trans rfl; have hfz98_0 := zai BK254.out 0; have hfz98_1 := zai BK254.out 1) | ((with_reducible refine zar (f := 31) rfl ?_); refine zbr (some 26) rfl rfl Tryz.func31 (by kernel_rfl) rfl #[.string ((zak l1 x20_1).f0)] rfl (by (try simp only [List.map_toArray, List.map_cons, List.map_nil]); first | done | rfl | (simp only [List.length_drop, List.length_take]; rfl)) ?_; (with_reducible refine (zba.calls k1 ((zak l1 x20_1).f0) t255 _ ?side1 A8.out).mono ?_); (case side1 => exact LaidM.below HT.out (by repeat (first | (with_reducible first | exact HB.out | apply zac | apply zaa | apply zab | refine zad ?_ GE254.out) | exact HB.out))); rintro e w99 ⟨rfl, hb⟩; refine ⟨_, rfl, ?_⟩; have n0_ := Aside0.mk (zao (g := gb254) (o := .cells #[.string ((zak l1 x20_1).f0), .string ((zak l1 x20_1).f1)] 62 (0, 0)) (by (with_reducible repeat (first | refine zae ?_ _ | refine zag ?_ | refine zaf ?_ _)); refine zav (cs := #[.string ((zak l1 x20_1).f0), .string ⟨#[]⟩]) ?_ 1 _ rfl; (with_reducible repeat (first | refine zae ?_ _ | refine zag ?_ | refine zaf ?_ _)); refine zav (cs := #[.string ⟨#[]⟩, .string ⟨#[]⟩]) ?_ 0 _ rfl; (with_reducible repeat (first | refine zae ?_ _ | refine zag ?_ | refine zaf ?_ _)); exact BK254.out) hb); have n1_ := Aside0.mk (zam (by repeat (first | (with_reducible first | exact HB.out | apply zac | apply zaa | apply zab | refine zad ?_ GE254.out) | exact HB.out)) hb); clear BK254; clear HB; have BK254 := n0_; have HB := n1_; clear n0_ n1_; (try clear hb); (try clear hb2); (try clear hk); (try clear hi)))
          have n0_ := Aside0.mk (zag BK254.out)
          have n1_ := Aside0.mk (zab HB.out)
          clear BK254
          clear HB
          have BK254 := n0_
          have HB := n1_
          clear n0_ n1_
          refine zda (n := 30) (S := fun w' => w'.cell? ⟨gb254, 0, none⟩ = some (.string ((zak l1 x20_1).f0)) ∧ w'.cell? ⟨gb254, 1, none⟩ = some (.string ((zak l1 x20_1).f1))) (ds := []) (bm 30 0) (by kernel_rfl) rfl rfl ⟨(zah BK254.out 0).trans rfl, (zah BK254.out 1).trans rfl⟩ (fun hHeld => ?_); refine zci zal.tab7 zal.bits7 (fun HT_ HW_ => ?_)
          generalize w99.drew = w100 at BK254 HB hHeld ⊢
          refine pv_ HT_ 0 (bm 30 1) ?_
          refine pv_ HT_ 1 (bm 30 3) ?_
          refine pv_ HT_ 2 (bm 30 7) ?_
          refine zcn (i := 3) (N := some 30) (v := ?_) (a' := ?_) (bm 30 15) rfl rfl (zbk HT_.out HW_.out (by kernel_rfl)) (fun _ _ _ h => h) (Or.inl ⟨by rfl, ?_⟩) hHeld ?_ ?_
          rotate_left
          ·rintro w' ⟨s0, s1⟩
           go_simp
           with_reducible rfl
          rotate_left
          ·simp only [Act.put, List.setIfInBounds_toArray, List.set_cons_zero, List.set_cons_succ, zbq, zbs]
           rfl
          refine one_ (i := 4) (N := some 31) (bm 30 31) rfl rfl (zcg HT_.out (by kernel_rfl)) (by decide) (fun K hK => ?_)
          refine zcw Tryz.func32 (by kernel_rfl) rfl #[.string ((zak l1 x20_1).f0)] (by rfl) rfl rfl (by (try simp only [List.map_toArray, List.map_cons, List.map_nil]); first | done | rfl | (simp only [List.length_drop, List.length_take]; rfl)) ?_
          with_reducible refine (zay.calls k1 ((zak l1 x20_1).f0) false _ A24.out).mono ?_
          rintro e w' ⟨rfl, ⟨nd, rfl⟩⟩
          refine ⟨_, rfl, ?_⟩
          refine hK.out _ _ ⟨(zah BK254.out 0).trans rfl, (zah BK254.out 1).trans rfl⟩ (fun hHeld => ?_)
          clear hK K
          refine zcv (a' := ?_) ?_ ?_
          rotate_left
          ·show Act.put _ (some 31) _ = _
           simp only [Act.put, List.setIfInBounds_toArray, List.set_cons_zero, List.set_cons_succ, zbq, zbs]
           rfl
          refine pv_ HT_ 5 (bm 30 63) ?_
          refine pv_ HT_ 6 (bm 30 127) ?_
          refine pv_ HT_ 7 (bm 30 255) ?_
          refine pu_ HT_ 8 (bm 30 511) ?_
          refine pu_ HT_ 9 (bm 30 1023) ?_
          refine pu_ HT_ 10 (bm 30 2047) ?_
          refine pu_ HT_ 11 (bm 30 4095) ?_
          refine pv_ HT_ 12 (bm 30 8191) ?_
          refine pv_ HT_ 13 (bm 30 16383) ?_
          refine pu_ HT_ 14 (bm 30 32767) ?_
          refine pu_ HT_ 15 (bm 30 65535) ?_
          refine pu_ HT_ 16 (bm 30 131071) ?_
          refine pu_ HT_ 17 (bm 30 262143) ?_
          refine pu_ HT_ 18 (bm 30 524287) ?_
          refine pu_ HT_ 19 (bm 30 1048575) ?_
          refine pv_ HT_ 20 (bm 30 2097151) ?_
          refine pv_ HT_ 21 (bm 30 4194303) ?_
          refine pu_ HT_ 22 (bm 30 8388607) ?_
          refine pu_ HT_ 23 (bm 30 16777215) ?_
          refine pv_ HT_ 24 (bm 30 33554431) ?_
          refine pv_ HT_ 25 (bm 30 67108863) ?_
          refine pu_ HT_ 26 (bm 30 134217727) ?_
          refine pu_ HT_ 27 (bm 30 268435455) ?_
          refine pv_ HT_ 28 (bm 30 536870911) ?_
          refine pv_ HT_ 29 (bm 30 1073741823) ?_
          refine zdu (zcu HT_.out (by kernel_rfl)) ?_
          try go_wp2
          go_roundg k1
          case measure => have := HK1.out; omega
          case rel => exact ⟨(x8_1), (true), (wrap64 (x20_1 + 1)), (by first | rfl | (simp; done) | (simp [*]; done)), (by first | rfl | (simp; done) | (simp [*]; done)), (by first | rfl | (simp; done) | (simp [*]; done)), H', ⟨by have := HK1.out; omega⟩, ⟨by repeat (first | (with_reducible first | exact HB.out | apply zac | apply zaa | apply zab | refine zad ?_ GE254.out) | exact HB.out)⟩⟩
      ·rw [if_neg c7] at H
       exact absurd H (by simp)
     ·rw [if_neg c6] at H
      exact absurd H (by simp)
    ·rw [if_neg c5] at H
     have c5b0 : decide (x20_1 < (l1.length : Int)) = false := decide_eq_false c5
     clear c5
     by_cases c101 : x9_1 = true
     ·subst c101
      have H1 : (some ((⟨#[]⟩ : ByteArray), 80)) = some (r1, r2) := by rw [if_pos rfl] at H; exact H
      clear H
      have H := H1
      clear H1
      simp only [Option.some.injEq, Prod.mk.injEq] at H
      obtain ⟨rfl, rfl⟩ := H
      go_wp2
      go_ret2
      exact ⟨by first | rfl | (simp [zaq, zap] <;> rfl) | (simp [*, zaq, zap] <;> rfl), by repeat (first | (with_reducible first | exact HB.out | apply zac | apply zaa | apply zab) | exact HB.out)⟩
     ·replace c101 := Bool.eq_false_iff.mpr c101
      subst c101
      have H1 : ((zbh.f k1 (IntKind.u64.wrap ((a2.size : Int)))).bind fun t259 => (if 16 + t259.size ≤ 9223372036854775807 then (if ((⟨#[67, 111, 110, 116, 101, 110, 116, 45, 76, 101, 110, 103, 116, 104, 58, 32]⟩ : ByteArray) ++ t259).size + 4 ≤ 9223372036854775807 then (if x8_1.size + (((⟨#[67, 111, 110, 116, 101, 110, 116, 45, 76, 101, 110, 103, 116, 104, 58, 32]⟩ : ByteArray) ++ t259) ++ (⟨#[13, 10, 13, 10]⟩ : ByteArray)).size ≤ 9223372036854775807 then (if ((x8_1 ++ (((⟨#[67, 111, 110, 116, 101, 110, 116, 45, 76, 101, 110, 103, 116, 104, 58, 32]⟩ : ByteArray) ++ t259) ++ (⟨#[13, 10, 13, 10]⟩ : ByteArray))).size : Int) > 8192 then (some ((⟨#[]⟩ : ByteArray), 11)) else (if (a2.size : Int) > 65536 then (some ((⟨#[]⟩ : ByteArray), 11)) else (if (x8_1 ++ (((⟨#[67, 111, 110, 116, 101, 110, 116, 45, 76, 101, 110, 103, 116, 104, 58, 32]⟩ : ByteArray) ++ t259) ++ (⟨#[13, 10, 13, 10]⟩ : ByteArray))).size + a2.size ≤ 9223372036854775807 then (some ((x8_1 ++ (((⟨#[67, 111, 110, 116, 101, 110, 116, 45, 76, 101, 110, 103, 116, 104, 58, 32]⟩ : ByteArray) ++ t259) ++ (⟨#[13, 10, 13, 10]⟩ : ByteArray))) ++ a2, 0)) else (none)))) else (none)) else (none)) else (none))) = some (r1, r2) := by rw [if_neg (show ¬ (false = true) by decide)] at H; exact H
      clear H
      have H := H1
      clear H1
      replace H := Option.bind_eq_some_iff.mp H
      obtain ⟨t259, A1020, H⟩ := H
      try dsimp only at H
      have A102 := Aside0.mk A1020
      clear A1020
      by_cases c103 : 16 + t259.size ≤ 9223372036854775807
      ·rw [if_pos c103] at H
       have c103b0 := eq_true c103
       have c103b1 := decide_eq_true c103
       try have c103b2 := eq_false (Nat.not_lt.2 c103)
       by_cases c104 : ((⟨#[67, 111, 110, 116, 101, 110, 116, 45, 76, 101, 110, 103, 116, 104, 58, 32]⟩ : ByteArray) ++ t259).size + 4 ≤ 9223372036854775807
       ·rw [if_pos c104] at H
        have c104e := c104
        (try simp only [ByteArray.size_append, gt_iff_lt, ge_iff_le, show (⟨#[67, 111, 110, 116, 101, 110, 116, 45, 76, 101, 110, 103, 116, 104, 58, 32]⟩ : ByteArray).size = 16 from rfl] at c104e)
        (try simp only [Int.natCast_add, Int.cast_ofNat_Int] at c104e)
        (try (have c104e2 := decide_eq_true c104e))
        (try replace c104e := eq_true c104e)
        have c104b0 := eq_true c104
        have c104b1 := decide_eq_true c104
        try have c104b2 := eq_false (Nat.not_lt.2 c104)
        have c104b8 : (9223372036854775807 < 16 + t259.size + 4) = False := by have h_ := c104; simp only [ByteArray.size_append] at h_; exact eq_false (Nat.not_lt.2 h_)
        by_cases c105 : x8_1.size + (((⟨#[67, 111, 110, 116, 101, 110, 116, 45, 76, 101, 110, 103, 116, 104, 58, 32]⟩ : ByteArray) ++ t259) ++ (⟨#[13, 10, 13, 10]⟩ : ByteArray)).size ≤ 9223372036854775807
        ·rw [if_pos c105] at H
         have c105e := c105
         (try simp only [ByteArray.size_append, gt_iff_lt, ge_iff_le, show (⟨#[13, 10, 13, 10]⟩ : ByteArray).size = 4 from rfl, show (⟨#[67, 111, 110, 116, 101, 110, 116, 45, 76, 101, 110, 103, 116, 104, 58, 32]⟩ : ByteArray).size = 16 from rfl] at c105e)
         (try simp only [Int.natCast_add, Int.cast_ofNat_Int] at c105e)
         (try (have c105e2 := decide_eq_true c105e))
         (try replace c105e := eq_true c105e)
         have c105b0 := eq_true c105
         have c105b1 := decide_eq_true c105
         try have c105b2 := eq_false (Nat.not_lt.2 c105)
         have c105b8 : (9223372036854775807 < x8_1.size + (16 + t259.size + 4)) = False := by have h_ := c105; simp only [ByteArray.size_append] at h_; exact eq_false (Nat.not_lt.2 h_)
         by_cases c106 : ((x8_1 ++ (((⟨#[67, 111, 110, 116, 101, 110, 116, 45, 76, 101, 110, 103, 116, 104, 58, 32]⟩ : ByteArray) ++ t259) ++ (⟨#[13, 10, 13, 10]⟩ : ByteArray))).size : Int) > 8192
         ·rw [if_pos c106] at H
          have c106e := c106
          (try simp only [ByteArray.size_append, gt_iff_lt, ge_iff_le, show (⟨#[13, 10, 13, 10]⟩ : ByteArray).size = 4 from rfl, show (⟨#[67, 111, 110, 116, 101, 110, 116, 45, 76, 101, 110, 103, 116, 104, 58, 32]⟩ : ByteArray).size = 16 from rfl] at c106e)
          (try simp only [Int.natCast_add, Int.cast_ofNat_Int] at c106e)
          (try (have c106e2 := decide_eq_true c106e))
          (try replace c106e := eq_true c106e)
          have c106b0 := decide_eq_true c106
          have c106b8 : decide ((8192 : Int) < (x8_1.size : Int) + (16 + (t259.size : Int) + 4)) = true := by have h_ := c106; simp only [ByteArray.size_append] at h_; change ((x8_1.size + (16 + t259.size + 4) : Nat) : Int) > 8192 at h_; exact decide_eq_true (by omega)
          have c106b1 : decide (8192 < (x8_1 ++ (((⟨#[67, 111, 110, 116, 101, 110, 116, 45, 76, 101, 110, 103, 116, 104, 58, 32]⟩ : ByteArray) ++ t259) ++ (⟨#[13, 10, 13, 10]⟩ : ByteArray))).size) = true := decide_eq_true (by omega)
          clear c106
          simp only [Option.some.injEq, Prod.mk.injEq] at H
          obtain ⟨rfl, rfl⟩ := H
          go_wp2_with (first | ((with_reducible refine zar (f := 15) rfl ?_); refine zbr (some 74) rfl rfl Tryz.func15 (by kernel_rfl) rfl #[.int .u64 (IntKind.u64.wrap ((a2.size : Int)))] rfl (by (try simp only [List.map_toArray, List.map_cons, List.map_nil]); first | done | rfl | (simp only [List.length_drop, List.length_take]; rfl)) ?_; (with_reducible refine (zbh.calls k1 (IntKind.u64.wrap ((a2.size : Int))) t259 _ ?side1 A102.out).mono ?_); (case side1 => exact LaidM.below HT.out (by repeat (first | (with_reducible first | exact HB.out | apply zac | apply zaa | apply zab) | exact HB.out))); rintro e w107 ⟨rfl, hb⟩; refine ⟨_, rfl, ?_⟩; have n0_ := Aside0.mk (zam (by repeat (first | (with_reducible first | exact HB.out | apply zac | apply zaa | apply zab) | exact HB.out)) hb); clear HB; have HB := n0_; clear n0_; (try clear hb); (try clear hb2); (try clear hk); (try clear hi)))
          go_ret2
          exact ⟨by first | rfl | (simp [zaq, zap] <;> rfl) | (simp [*, zaq, zap] <;> rfl), by repeat (first | (with_reducible first | exact HB.out | apply zac | apply zaa | apply zab) | exact HB.out)⟩
         ·rw [if_neg c106] at H
          have c106e := c106
          (try simp only [ByteArray.size_append, gt_iff_lt, ge_iff_le, show (⟨#[13, 10, 13, 10]⟩ : ByteArray).size = 4 from rfl, show (⟨#[67, 111, 110, 116, 101, 110, 116, 45, 76, 101, 110, 103, 116, 104, 58, 32]⟩ : ByteArray).size = 16 from rfl] at c106e)
          (try simp only [Int.natCast_add, Int.cast_ofNat_Int] at c106e)
          (try (have c106e2 := decide_eq_false c106e))
          (try replace c106e := eq_false c106e)
          have c106b0 : decide (8192 < ((x8_1 ++ (((⟨#[67, 111, 110, 116, 101, 110, 116, 45, 76, 101, 110, 103, 116, 104, 58, 32]⟩ : ByteArray) ++ t259) ++ (⟨#[13, 10, 13, 10]⟩ : ByteArray))).size : Int)) = false := decide_eq_false c106
          have c106b8 : decide ((8192 : Int) < (x8_1.size : Int) + (16 + (t259.size : Int) + 4)) = false := by have h_ := c106; simp only [ByteArray.size_append] at h_; change ¬ (((x8_1.size + (16 + t259.size + 4) : Nat) : Int) > 8192) at h_; exact decide_eq_false (by omega)
          have c106b1 : decide (8192 < (x8_1 ++ (((⟨#[67, 111, 110, 116, 101, 110, 116, 45, 76, 101, 110, 103, 116, 104, 58, 32]⟩ : ByteArray) ++ t259) ++ (⟨#[13, 10, 13, 10]⟩ : ByteArray))).size) = false := decide_eq_false (by omega)
          clear c106
          by_cases c108 : (a2.size : Int) > 65536
          ·rw [if_pos c108] at H
           have c108b0 := decide_eq_true c108
           have c108b1 : decide (65536 < a2.size) = true := decide_eq_true (by omega)
           clear c108
           simp only [Option.some.injEq, Prod.mk.injEq] at H
           obtain ⟨rfl, rfl⟩ := H
           go_wp2_with (first | ((with_reducible refine zar (f := 15) rfl ?_); refine zbr (some 74) rfl rfl Tryz.func15 (by kernel_rfl) rfl #[.int .u64 (IntKind.u64.wrap ((a2.size : Int)))] rfl (by (try simp only [List.map_toArray, List.map_cons, List.map_nil]); first | done | rfl | (simp only [List.length_drop, List.length_take]; rfl)) ?_; (with_reducible refine (zbh.calls k1 (IntKind.u64.wrap ((a2.size : Int))) t259 _ ?side1 A102.out).mono ?_); (case side1 => exact LaidM.below HT.out (by repeat (first | (with_reducible first | exact HB.out | apply zac | apply zaa | apply zab) | exact HB.out))); rintro e w109 ⟨rfl, hb⟩; refine ⟨_, rfl, ?_⟩; have n0_ := Aside0.mk (zam (by repeat (first | (with_reducible first | exact HB.out | apply zac | apply zaa | apply zab) | exact HB.out)) hb); clear HB; have HB := n0_; clear n0_; (try clear hb); (try clear hb2); (try clear hk); (try clear hi)))
           go_ret2
           exact ⟨by first | rfl | (simp [zaq, zap] <;> rfl) | (simp [*, zaq, zap] <;> rfl), by repeat (first | (with_reducible first | exact HB.out | apply zac | apply zaa | apply zab) | exact HB.out)⟩
          ·rw [if_neg c108] at H
           have c108b0 : decide (65536 < (a2.size : Int)) = false := decide_eq_false c108
           have c108b1 : decide (65536 < a2.size) = false := decide_eq_false (by omega)
           clear c108
           by_cases c110 : (x8_1 ++ (((⟨#[67, 111, 110, 116, 101, 110, 116, 45, 76, 101, 110, 103, 116, 104, 58, 32]⟩ : ByteArray) ++ t259) ++ (⟨#[13, 10, 13, 10]⟩ : ByteArray))).size + a2.size ≤ 9223372036854775807
           ·rw [if_pos c110] at H
            have c110e := c110
            (try simp only [ByteArray.size_append, gt_iff_lt, ge_iff_le, show (⟨#[13, 10, 13, 10]⟩ : ByteArray).size = 4 from rfl, show (⟨#[67, 111, 110, 116, 101, 110, 116, 45, 76, 101, 110, 103, 116, 104, 58, 32]⟩ : ByteArray).size = 16 from rfl] at c110e)
            (try simp only [Int.natCast_add, Int.cast_ofNat_Int] at c110e)
            (try (have c110e2 := decide_eq_true c110e))
            (try replace c110e := eq_true c110e)
            have c110b0 := eq_true c110
            have c110b1 := decide_eq_true c110
            try have c110b2 := eq_false (Nat.not_lt.2 c110)
            have c110b8 : (9223372036854775807 < x8_1.size + (16 + t259.size + 4) + a2.size) = False := by have h_ := c110; simp only [ByteArray.size_append] at h_; exact eq_false (Nat.not_lt.2 h_)
            simp only [Option.some.injEq, Prod.mk.injEq] at H
            obtain ⟨rfl, rfl⟩ := H
            have hwz := Aside0.mk (show IntKind.u64.wrap (a2.size : Int) = (a2.size : Int) by rw [IntKind.wrap_u64]; omega)
            go_wp2_with (first | ((with_reducible refine zar (f := 15) rfl ?_); refine zbr (some 74) rfl rfl Tryz.func15 (by kernel_rfl) rfl #[.int .u64 ((a2.size : Int))] rfl (by (try simp only [List.map_toArray, List.map_cons, List.map_nil]); first | done | rfl | (simp only [List.length_drop, List.length_take]; rfl)) ?_; (with_reducible refine (zbh.calls k1 ((a2.size : Int)) t259 _ ?side1 (hwz.out ▸ A102.out)).mono ?_); (case side1 => exact LaidM.below HT.out (by repeat (first | (with_reducible first | exact HB.out | apply zac | apply zaa | apply zab) | exact HB.out))); rintro e w111 ⟨rfl, hb⟩; refine ⟨_, rfl, ?_⟩; have n0_ := Aside0.mk (zam (by repeat (first | (with_reducible first | exact HB.out | apply zac | apply zaa | apply zab) | exact HB.out)) hb); clear HB; have HB := n0_; clear n0_; (try clear hb); (try clear hb2); (try clear hk); (try clear hi)))
            go_ret2
            exact ⟨by first | rfl | (simp [zaq, zap] <;> rfl) | (simp [*, zaq, zap] <;> rfl), by repeat (first | (with_reducible first | exact HB.out | apply zac | apply zaa | apply zab) | exact HB.out)⟩
           ·rw [if_neg c110] at H
            have c110e := c110
            (try simp only [ByteArray.size_append, gt_iff_lt, ge_iff_le, show (⟨#[13, 10, 13, 10]⟩ : ByteArray).size = 4 from rfl, show (⟨#[67, 111, 110, 116, 101, 110, 116, 45, 76, 101, 110, 103, 116, 104, 58, 32]⟩ : ByteArray).size = 16 from rfl] at c110e)
            (try simp only [Int.natCast_add, Int.cast_ofNat_Int] at c110e)
            (try (have c110e2 := decide_eq_false c110e))
            (try replace c110e := eq_false c110e)
            exact absurd H (by simp)
        ·rw [if_neg c105] at H
         have c105e := c105
         (try simp only [ByteArray.size_append, gt_iff_lt, ge_iff_le, show (⟨#[13, 10, 13, 10]⟩ : ByteArray).size = 4 from rfl, show (⟨#[67, 111, 110, 116, 101, 110, 116, 45, 76, 101, 110, 103, 116, 104, 58, 32]⟩ : ByteArray).size = 16 from rfl] at c105e)
         (try simp only [Int.natCast_add, Int.cast_ofNat_Int] at c105e)
         (try (have c105e2 := decide_eq_false c105e))
         (try replace c105e := eq_false c105e)
         exact absurd H (by simp)
       ·rw [if_neg c104] at H
        have c104e := c104
        (try simp only [ByteArray.size_append, gt_iff_lt, ge_iff_le, show (⟨#[67, 111, 110, 116, 101, 110, 116, 45, 76, 101, 110, 103, 116, 104, 58, 32]⟩ : ByteArray).size = 16 from rfl] at c104e)
        (try simp only [Int.natCast_add, Int.cast_ofNat_Int] at c104e)
        (try (have c104e2 := decide_eq_false c104e))
        (try replace c104e := eq_false c104e)
        exact absurd H (by simp)
      ·rw [if_neg c103] at H
       exact absurd H (by simp)
 ·rw [if_neg c4] at H
  exact absurd H (by simp)
end Go.Proofs.YtipfekjmcddelaaGreatDoor.XHttpWrites
