-- written by wip/xprint.py: the kit's print with functions walked by hand
import Derived.Test.YtipfekjmcddelaaGreatDoorXHttpWritesx0
namespace Go.Proofs.YtipfekjmcddelaaGreatDoor.XHttpWrites
open Go.RowKit Go.Proofs.YtipfekjmcddelaaGreatDoorW.zgo Go.Proofs.YtipfekjmcddelaaGreatDoorW.zgp Go.Proofs.YtipfekjmcddelaaGreatDoorW.zgq
attribute [local go_sem] zdk zdi zdx zdw zdc zdb zdj zdh   -- for this text's walks alone
set_option linter.unusedVariables false
set_option linter.unusedSimpArgs false
def zcf.f (a0 : Int) : Option (ByteArray) := if a0 = 200 then (some (⟨#[79, 75]⟩ : ByteArray)) else (if a0 = 201 then (some (⟨#[67, 114, 101, 97, 116, 101, 100]⟩ : ByteArray)) else (if a0 = 204 then (some (⟨#[78, 111, 32, 67, 111, 110, 116, 101, 110, 116]⟩ : ByteArray)) else (if a0 = 207 then (some (⟨#[77, 117, 108, 116, 105, 45, 83, 116, 97, 116, 117, 115]⟩ : ByteArray)) else (if a0 = 400 then (some (⟨#[66, 97, 100, 32, 82, 101, 113, 117, 101, 115, 116]⟩ : ByteArray)) else (if a0 = 403 then (some (⟨#[70, 111, 114, 98, 105, 100, 100, 101, 110]⟩ : ByteArray)) else (if a0 = 404 then (some (⟨#[78, 111, 116, 32, 70, 111, 117, 110, 100]⟩ : ByteArray)) else (if a0 = 405 then (some (⟨#[77, 101, 116, 104, 111, 100, 32, 78, 111, 116, 32, 65, 108, 108, 111, 119, 101, 100]⟩ : ByteArray)) else (if a0 = 409 then (some (⟨#[67, 111, 110, 102, 108, 105, 99, 116]⟩ : ByteArray)) else (if a0 = 412 then (some (⟨#[80, 114, 101, 99, 111, 110, 100, 105, 116, 105, 111, 110, 32, 70, 97, 105, 108, 101, 100]⟩ : ByteArray)) else (if a0 = 413 then (some (⟨#[67, 111, 110, 116, 101, 110, 116, 32, 84, 111, 111, 32, 76, 97, 114, 103, 101]⟩ : ByteArray)) else (if a0 = 421 then (some (⟨#[77, 105, 115, 100, 105, 114, 101, 99, 116, 101, 100, 32, 82, 101, 113, 117, 101, 115, 116]⟩ : ByteArray)) else (if a0 = 503 then (some (⟨#[83, 101, 114, 118, 105, 99, 101, 32, 85, 110, 97, 118, 97, 105, 108, 97, 98, 108, 101]⟩ : ByteArray)) else (if a0 = 507 then (some (⟨#[73, 110, 115, 117, 102, 102, 105, 99, 105, 101, 110, 116, 32, 83, 116, 111, 114, 97, 103, 101]⟩ : ByteArray)) else (some (⟨#[79, 116, 104, 101, 114]⟩ : ByteArray)))))))))))))))
set_option maxHeartbeats 8000000 in
set_option maxRecDepth 100000 in
theorem zcf.calls (a0 : Int) (r : ByteArray) (w : World) (h : zcf.f a0 = some r) :
  Calls Tryz.prog 16 #[.int .i64 a0] w fun e w' => e = .returned (.string r) ∧ Drawn0 w w' := by
 have H : (if a0 = 200 then (some (⟨#[79, 75]⟩ : ByteArray)) else (if a0 = 201 then (some (⟨#[67, 114, 101, 97, 116, 101, 100]⟩ : ByteArray)) else (if a0 = 204 then (some (⟨#[78, 111, 32, 67, 111, 110, 116, 101, 110, 116]⟩ : ByteArray)) else (if a0 = 207 then (some (⟨#[77, 117, 108, 116, 105, 45, 83, 116, 97, 116, 117, 115]⟩ : ByteArray)) else (if a0 = 400 then (some (⟨#[66, 97, 100, 32, 82, 101, 113, 117, 101, 115, 116]⟩ : ByteArray)) else (if a0 = 403 then (some (⟨#[70, 111, 114, 98, 105, 100, 100, 101, 110]⟩ : ByteArray)) else (if a0 = 404 then (some (⟨#[78, 111, 116, 32, 70, 111, 117, 110, 100]⟩ : ByteArray)) else (if a0 = 405 then (some (⟨#[77, 101, 116, 104, 111, 100, 32, 78, 111, 116, 32, 65, 108, 108, 111, 119, 101, 100]⟩ : ByteArray)) else (if a0 = 409 then (some (⟨#[67, 111, 110, 102, 108, 105, 99, 116]⟩ : ByteArray)) else (if a0 = 412 then (some (⟨#[80, 114, 101, 99, 111, 110, 100, 105, 116, 105, 111, 110, 32, 70, 97, 105, 108, 101, 100]⟩ : ByteArray)) else (if a0 = 413 then (some (⟨#[67, 111, 110, 116, 101, 110, 116, 32, 84, 111, 111, 32, 76, 97, 114, 103, 101]⟩ : ByteArray)) else (if a0 = 421 then (some (⟨#[77, 105, 115, 100, 105, 114, 101, 99, 116, 101, 100, 32, 82, 101, 113, 117, 101, 115, 116]⟩ : ByteArray)) else (if a0 = 503 then (some (⟨#[83, 101, 114, 118, 105, 99, 101, 32, 85, 110, 97, 118, 97, 105, 108, 97, 98, 108, 101]⟩ : ByteArray)) else (if a0 = 507 then (some (⟨#[73, 110, 115, 117, 102, 102, 105, 99, 105, 101, 110, 116, 32, 83, 116, 111, 114, 97, 103, 101]⟩ : ByteArray)) else (some (⟨#[79, 116, 104, 101, 114]⟩ : ByteArray)))))))))))))))) = some r := h
 clear h
 by_cases c2 : a0 = 200
 ·rw [if_pos c2] at H
  have c2b0 : (a0 == 200) = true := beq_iff_eq.mpr c2
  have c2b1 : (a0 != 200) = false := bne_eq_false_iff_eq.mpr c2
  clear c2
  obtain rfl := Option.some.inj H
  go_enter Tryz.func16, Tryz.ntmps16
  go_wp2
  go_ret
  exact ⟨by first | rfl | (simp; done) | (simp [*]; done), by repeat (first | exact Drawn0.refl _ | apply Drawn0.step)⟩
 ·rw [if_neg c2] at H
  have c2b0 : (a0 == 200) = false := beq_eq_false_iff_ne.mpr c2
  have c2b1 : (a0 != 200) = true := bne_iff_ne.mpr c2
  by_cases c3 : a0 = 201
  ·rw [if_pos c3] at H
   have c3b0 : (a0 == 201) = true := beq_iff_eq.mpr c3
   have c3b1 : (a0 != 201) = false := bne_eq_false_iff_eq.mpr c3
   clear c3
   obtain rfl := Option.some.inj H
   go_enter Tryz.func16, Tryz.ntmps16
   go_wp2
   go_ret
   exact ⟨by first | rfl | (simp; done) | (simp [*]; done), by repeat (first | exact Drawn0.refl _ | apply Drawn0.step)⟩
  ·rw [if_neg c3] at H
   have c3b0 : (a0 == 201) = false := beq_eq_false_iff_ne.mpr c3
   have c3b1 : (a0 != 201) = true := bne_iff_ne.mpr c3
   by_cases c4 : a0 = 204
   ·rw [if_pos c4] at H
    have c4b0 : (a0 == 204) = true := beq_iff_eq.mpr c4
    have c4b1 : (a0 != 204) = false := bne_eq_false_iff_eq.mpr c4
    clear c4
    obtain rfl := Option.some.inj H
    go_enter Tryz.func16, Tryz.ntmps16
    go_wp2
    go_ret
    exact ⟨by first | rfl | (simp; done) | (simp [*]; done), by repeat (first | exact Drawn0.refl _ | apply Drawn0.step)⟩
   ·rw [if_neg c4] at H
    have c4b0 : (a0 == 204) = false := beq_eq_false_iff_ne.mpr c4
    have c4b1 : (a0 != 204) = true := bne_iff_ne.mpr c4
    by_cases c5 : a0 = 207
    ·rw [if_pos c5] at H
     have c5b0 : (a0 == 207) = true := beq_iff_eq.mpr c5
     have c5b1 : (a0 != 207) = false := bne_eq_false_iff_eq.mpr c5
     clear c5
     obtain rfl := Option.some.inj H
     go_enter Tryz.func16, Tryz.ntmps16
     go_wp2
     go_ret
     exact ⟨by first | rfl | (simp; done) | (simp [*]; done), by repeat (first | exact Drawn0.refl _ | apply Drawn0.step)⟩
    ·rw [if_neg c5] at H
     have c5b0 : (a0 == 207) = false := beq_eq_false_iff_ne.mpr c5
     have c5b1 : (a0 != 207) = true := bne_iff_ne.mpr c5
     by_cases c6 : a0 = 400
     ·rw [if_pos c6] at H
      have c6b0 : (a0 == 400) = true := beq_iff_eq.mpr c6
      have c6b1 : (a0 != 400) = false := bne_eq_false_iff_eq.mpr c6
      clear c6
      obtain rfl := Option.some.inj H
      go_enter Tryz.func16, Tryz.ntmps16
      go_wp2
      go_ret
      exact ⟨by first | rfl | (simp; done) | (simp [*]; done), by repeat (first | exact Drawn0.refl _ | apply Drawn0.step)⟩
     ·rw [if_neg c6] at H
      have c6b0 : (a0 == 400) = false := beq_eq_false_iff_ne.mpr c6
      have c6b1 : (a0 != 400) = true := bne_iff_ne.mpr c6
      by_cases c7 : a0 = 403
      ·rw [if_pos c7] at H
       have c7b0 : (a0 == 403) = true := beq_iff_eq.mpr c7
       have c7b1 : (a0 != 403) = false := bne_eq_false_iff_eq.mpr c7
       clear c7
       obtain rfl := Option.some.inj H
       go_enter Tryz.func16, Tryz.ntmps16
       go_wp2
       go_ret
       exact ⟨by first | rfl | (simp; done) | (simp [*]; done), by repeat (first | exact Drawn0.refl _ | apply Drawn0.step)⟩
      ·rw [if_neg c7] at H
       have c7b0 : (a0 == 403) = false := beq_eq_false_iff_ne.mpr c7
       have c7b1 : (a0 != 403) = true := bne_iff_ne.mpr c7
       by_cases c8 : a0 = 404
       ·rw [if_pos c8] at H
        have c8b0 : (a0 == 404) = true := beq_iff_eq.mpr c8
        have c8b1 : (a0 != 404) = false := bne_eq_false_iff_eq.mpr c8
        clear c8
        obtain rfl := Option.some.inj H
        go_enter Tryz.func16, Tryz.ntmps16
        go_wp2
        go_ret
        exact ⟨by first | rfl | (simp; done) | (simp [*]; done), by repeat (first | exact Drawn0.refl _ | apply Drawn0.step)⟩
       ·rw [if_neg c8] at H
        have c8b0 : (a0 == 404) = false := beq_eq_false_iff_ne.mpr c8
        have c8b1 : (a0 != 404) = true := bne_iff_ne.mpr c8
        by_cases c9 : a0 = 405
        ·rw [if_pos c9] at H
         have c9b0 : (a0 == 405) = true := beq_iff_eq.mpr c9
         have c9b1 : (a0 != 405) = false := bne_eq_false_iff_eq.mpr c9
         clear c9
         obtain rfl := Option.some.inj H
         go_enter Tryz.func16, Tryz.ntmps16
         go_wp2
         go_ret
         exact ⟨by first | rfl | (simp; done) | (simp [*]; done), by repeat (first | exact Drawn0.refl _ | apply Drawn0.step)⟩
        ·rw [if_neg c9] at H
         have c9b0 : (a0 == 405) = false := beq_eq_false_iff_ne.mpr c9
         have c9b1 : (a0 != 405) = true := bne_iff_ne.mpr c9
         by_cases c10 : a0 = 409
         ·rw [if_pos c10] at H
          have c10b0 : (a0 == 409) = true := beq_iff_eq.mpr c10
          have c10b1 : (a0 != 409) = false := bne_eq_false_iff_eq.mpr c10
          clear c10
          obtain rfl := Option.some.inj H
          go_enter Tryz.func16, Tryz.ntmps16
          go_wp2
          go_ret
          exact ⟨by first | rfl | (simp; done) | (simp [*]; done), by repeat (first | exact Drawn0.refl _ | apply Drawn0.step)⟩
         ·rw [if_neg c10] at H
          have c10b0 : (a0 == 409) = false := beq_eq_false_iff_ne.mpr c10
          have c10b1 : (a0 != 409) = true := bne_iff_ne.mpr c10
          by_cases c11 : a0 = 412
          ·rw [if_pos c11] at H
           have c11b0 : (a0 == 412) = true := beq_iff_eq.mpr c11
           have c11b1 : (a0 != 412) = false := bne_eq_false_iff_eq.mpr c11
           clear c11
           obtain rfl := Option.some.inj H
           go_enter Tryz.func16, Tryz.ntmps16
           go_wp2
           go_ret
           exact ⟨by first | rfl | (simp; done) | (simp [*]; done), by repeat (first | exact Drawn0.refl _ | apply Drawn0.step)⟩
          ·rw [if_neg c11] at H
           have c11b0 : (a0 == 412) = false := beq_eq_false_iff_ne.mpr c11
           have c11b1 : (a0 != 412) = true := bne_iff_ne.mpr c11
           by_cases c12 : a0 = 413
           ·rw [if_pos c12] at H
            have c12b0 : (a0 == 413) = true := beq_iff_eq.mpr c12
            have c12b1 : (a0 != 413) = false := bne_eq_false_iff_eq.mpr c12
            clear c12
            obtain rfl := Option.some.inj H
            go_enter Tryz.func16, Tryz.ntmps16
            go_wp2
            go_ret
            exact ⟨by first | rfl | (simp; done) | (simp [*]; done), by repeat (first | exact Drawn0.refl _ | apply Drawn0.step)⟩
           ·rw [if_neg c12] at H
            have c12b0 : (a0 == 413) = false := beq_eq_false_iff_ne.mpr c12
            have c12b1 : (a0 != 413) = true := bne_iff_ne.mpr c12
            by_cases c13 : a0 = 421
            ·rw [if_pos c13] at H
             have c13b0 : (a0 == 421) = true := beq_iff_eq.mpr c13
             have c13b1 : (a0 != 421) = false := bne_eq_false_iff_eq.mpr c13
             clear c13
             obtain rfl := Option.some.inj H
             go_enter Tryz.func16, Tryz.ntmps16
             go_wp2
             go_ret
             exact ⟨by first | rfl | (simp; done) | (simp [*]; done), by repeat (first | exact Drawn0.refl _ | apply Drawn0.step)⟩
            ·rw [if_neg c13] at H
             have c13b0 : (a0 == 421) = false := beq_eq_false_iff_ne.mpr c13
             have c13b1 : (a0 != 421) = true := bne_iff_ne.mpr c13
             by_cases c14 : a0 = 503
             ·rw [if_pos c14] at H
              have c14b0 : (a0 == 503) = true := beq_iff_eq.mpr c14
              have c14b1 : (a0 != 503) = false := bne_eq_false_iff_eq.mpr c14
              clear c14
              obtain rfl := Option.some.inj H
              go_enter Tryz.func16, Tryz.ntmps16
              go_wp2
              go_ret
              exact ⟨by first | rfl | (simp; done) | (simp [*]; done), by repeat (first | exact Drawn0.refl _ | apply Drawn0.step)⟩
             ·rw [if_neg c14] at H
              have c14b0 : (a0 == 503) = false := beq_eq_false_iff_ne.mpr c14
              have c14b1 : (a0 != 503) = true := bne_iff_ne.mpr c14
              by_cases c15 : a0 = 507
              ·rw [if_pos c15] at H
               have c15b0 : (a0 == 507) = true := beq_iff_eq.mpr c15
               have c15b1 : (a0 != 507) = false := bne_eq_false_iff_eq.mpr c15
               clear c15
               obtain rfl := Option.some.inj H
               go_enter Tryz.func16, Tryz.ntmps16
               go_wp2
               go_ret
               exact ⟨by first | rfl | (simp; done) | (simp [*]; done), by repeat (first | exact Drawn0.refl _ | apply Drawn0.step)⟩
              ·rw [if_neg c15] at H
               have c15b0 : (a0 == 507) = false := beq_eq_false_iff_ne.mpr c15
               have c15b1 : (a0 != 507) = true := bne_iff_ne.mpr c15
               obtain rfl := Option.some.inj H
               go_enter Tryz.func16, Tryz.ntmps16
               go_wp2
               go_ret
               exact ⟨by first | rfl | (simp; done) | (simp [*]; done), by repeat (first | exact Drawn0.refl _ | apply Drawn0.step)⟩
end Go.Proofs.YtipfekjmcddelaaGreatDoor.XHttpWrites
