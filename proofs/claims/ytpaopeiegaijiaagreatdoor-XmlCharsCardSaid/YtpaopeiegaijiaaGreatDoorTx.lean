import Derived.Test.YtpaopeiegaijiaaGreatDoorSx
import Derived.Test.YtpaopeiegaijiaaGreatDoorVw
import Derived.Lib.SmallJoins
import Derived.WalkKit
import Derived.WalkMore
import Derived.WalkLawsBesides
import Derived.Below
import Derived.BigQuiet
import Derived.Deep.QuietTactic
import Derived.OwnWalk
import Derived.KernelRfl
/- The library's tables, as they lie when the call begins, and what keeps them; characters. -/
namespace Go.Proofs.YtpaopeiegaijiaaGreatDoor
open Go.RowKit Go.Shelf Go.Lib Go.Joins
set_option linter.unusedVariables false
set_option linter.unusedSimpArgs false
/-- The library's tables and variables that the calls read. -/
structure LaidM (w : World) : Prop where
  utf : Lib.Utf8Tabs (Tryz.laysValid_ren.g 3) (Tryz.laysValid_ren.g 4) w
  mx : ∃ m, w.cell? ⟨2, 0, none⟩ = some (.int .i64 m)
  syn : ∃ tp p, w.cell? ⟨3, 0, none⟩ = some (.iface tp p)
  ran : ∃ tp p, w.cell? ⟨4, 0, none⟩ = some (.iface tp p)
theorem LaidM.below {w W : World} (h : LaidM w) (hb : Below w.heap.size w W) : LaidM W := by
  have key : ∀ {p : Addr} {v : Value}, w.cell? p = some v → W.cell? p = some v := fun hc => (hb.cell (World.block_lt_of_cell? _ _ hc)).trans hc
  exact ⟨⟨fun c hc => key (h.utf.1 c hc), fun i hi => ⟨key (h.utf.2 i hi).1, key (h.utf.2 i hi).2⟩⟩, h.mx.elim fun m hm => ⟨m, key hm⟩, h.syn.elim fun t hh => hh.elim fun p hm => ⟨t, p, key hm⟩, h.ran.elim fun t hh => hh.elim fun p hm => ⟨t, p, key hm⟩⟩
/-- A control character? -/
def ctl (r : Nat) : Bool := decide (r < 32) && r != 9 && r != 10 && r != 13 || r == 127
def validB (s : ByteArray) : Bool := Lib.validD s.data.toList && decide (Lib.idxFunc ctl true s < 0)
theorem ctl_at (w : World) : PredAt Tryz.prog 99 #[] encR ctl w := fun W r _ => by
  unfold FnGives
  by_cases h1 : r < 32 <;> by_cases h2 : r = 9 <;> by_cases h3 : r = 10 <;> by_cases h4 : r = 13 <;> by_cases h5 : r = 127
  all_goals first
    | (exfalso; omega)
    | (have z1 : decide ((r : Int) < 32) = decide (r < 32) := decide_eq_decide.2 (by omega)
       have z2 : ((r : Int) == 9) = decide (r = 9) := by rw [Bool.eq_iff_iff]; simp; omega
       have z3 : ((r : Int) == 10) = decide (r = 10) := by rw [Bool.eq_iff_iff]; simp; omega
       have z4 : ((r : Int) == 13) = decide (r = 13) := by rw [Bool.eq_iff_iff]; simp; omega
       have z5 : ((r : Int) == 127) = decide (r = 127) := by rw [Bool.eq_iff_iff]; simp; omega
       go_enter Tryz.func99, Tryz.ntmps99
       go_wp2
       all_goals first | (exfalso; omega) | (go_ret; exact ⟨by simp [ctl, h1, h2, h3, h4, h5], 0, rfl⟩) | (go_ret; exact ⟨by simp [ctl, *], 0, rfl⟩))
set_option maxHeartbeats 1000000 in
theorem valid_any (s : ByteArray) (w : World) (hT : LaidM w) (hs : s.size ≤ 9223372036854775807) :
    Calls Tryz.prog 52 #[.string s] w fun e w' => e = .returned (.bool (validB s)) ∧ Below w.heap.size w w' := by
  have hC := Any.utf8_ValidString Tryz.laysValid s w hs hT.utf
  change Calls Tryz.prog 97 _ _ _ at hC
  have hI := fun (W : World) => Any.strings_IndexFunc Tryz.laysGw15 99 #[] (enters_of Tryz.func99 (by kernel_rfl) rfl) ctl s W (ctl_at W)
  change ∀ W, Calls Tryz.prog 98 _ _ _ at hI
  unfold validB
  obtain ⟨b, hb⟩ : ∃ b, Lib.validD s.data.toList = b := ⟨_, rfl⟩
  obtain ⟨i, hi⟩ : ∃ i, Lib.idxFunc ctl true s = i := ⟨_, rfl⟩
  rw [hb] at hC ⊢
  rw [hi] at hI ⊢
  clear hb hi hT hs
  cases b
  · go_enter Tryz.func52, Tryz.ntmps52
    go_wp2_with (first | (go_at_call 97; refine hC.mono ?_; rintro e w1 ⟨rfl, hb1⟩) | (go_at_call 98; refine (hI _).mono ?_; rintro e w2 ⟨rfl, hb2⟩))
    go_ret
    exact ⟨rfl, hb1⟩
  · go_enter Tryz.func52, Tryz.ntmps52
    go_wp2_with (first | (go_at_call 97; refine hC.mono ?_; rintro e w1 ⟨rfl, hb1⟩) | (go_at_call 98; refine (hI _).mono ?_; rintro e w2 ⟨rfl, hb2⟩))
    go_ret
    exact ⟨rfl, hb1.trans (hb2.mono hb1.size)⟩
end Go.Proofs.YtpaopeiegaijiaaGreatDoor
