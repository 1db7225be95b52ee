/- char.control and char.Valid, walked. -/
import Derived.Test.YtpedfpeokedelaaDoorTb
namespace Go.Proofs.YtpedfpeokedelaaDoor
open Go.RowKit Go.Shelf Go.Lib Go.Joins
set_option linter.unusedVariables false
set_option linter.unusedSimpArgs false
theorem ctl_at (w : World) : PredAt Tryd.prog 54 #[] encR ctl w := fun W r _ => by
  unfold FnGives
  by_cases h1 : r < 32 <;> by_cases h2 : r = 9 <;> by_cases h3 : r = 10 <;> by_cases h4 : r = 13 <;> by_cases h5 : r = 127
  all_goals first
    | (exfalso; omega)
    | (have z1 : decide ((r : Int) < 32) = decide (r < 32) := decide_eq_decide.2 (by omega)
       have z2 : ((r : Int) == 9) = decide (r = 9) := by rw [Bool.eq_iff_iff]; simp; omega
       have z3 : ((r : Int) == 10) = decide (r = 10) := by rw [Bool.eq_iff_iff]; simp; omega
       have z4 : ((r : Int) == 13) = decide (r = 13) := by rw [Bool.eq_iff_iff]; simp; omega
       have z5 : ((r : Int) == 127) = decide (r = 127) := by rw [Bool.eq_iff_iff]; simp; omega
       go_enter Tryd.func54, Tryd.ntmps54
       go_wp2
       all_goals first | (exfalso; omega) | (go_ret; exact ⟨by simp [ctl, h1, h2, h3, h4, h5], 0, rfl⟩) | (go_ret; exact ⟨by simp [ctl, *], 0, rfl⟩))
set_option maxHeartbeats 1000000 in
theorem valid_any (s : ByteArray) (w : World) (hT : Laid w) (hs : s.size ≤ 9223372036854775807) :
    Calls Tryd.prog 21 #[.string s] w fun e w' => e = .returned (.bool (validB s)) ∧ Below w.heap.size w w' := by
  have hC := Any.utf8_ValidString Tryd.laysValid s w hs hT.utf
  change Calls Tryd.prog 52 _ _ _ at hC
  have hI := fun (W : World) => Tryd.strings_IndexFunc 54 #[] (enters_of Tryd.func54 (by kernel_rfl) rfl) ctl s W (ctl_at W)
  unfold validB
  obtain ⟨b, hb⟩ : ∃ b, Lib.validD s.data.toList = b := ⟨_, rfl⟩
  obtain ⟨i, hi⟩ : ∃ i, Lib.idxFunc ctl true s = i := ⟨_, rfl⟩
  rw [hb] at hC ⊢
  rw [hi] at hI ⊢
  clear hb hi hT hs
  cases b
  · go_enter Tryd.func21, Tryd.ntmps21
    go_wp2_with (first | (go_at_call 52; refine hC.mono ?_; rintro e w1 ⟨rfl, hb1⟩) | (go_at_call 53; refine (hI _).mono ?_; rintro e w2 ⟨rfl, hb2⟩))
    go_ret
    exact ⟨rfl, hb1⟩
  · go_enter Tryd.func21, Tryd.ntmps21
    go_wp2_with (first | (go_at_call 52; refine hC.mono ?_; rintro e w1 ⟨rfl, hb1⟩) | (go_at_call 53; refine (hI _).mono ?_; rintro e w2 ⟨rfl, hb2⟩))
    go_ret
    exact ⟨rfl, hb1.trans (hb2.mono hb1.size)⟩
end Go.Proofs.YtpedfpeokedelaaDoor
