import Derived.Test.YtpaopeiegaijiaaGreatDoorXo
import Derived.Test.YtpaopeiegaijiaaGreatDoorVe
namespace Go.Proofs.YtpaopeiegaijiaaGreatDoor
open Go.Lib
set_option linter.unusedVariables false
set_option linter.unusedSimpArgs false
/-- Plain letters are a text. -/
def plainB (c : UInt8) : Bool := decide (32 ≤ c.toNat) && decide (c.toNat < 127)
theorem plain_one (c : UInt8) (h : plainB c = true) : okL [c] = true := by
  have := zeg (p := fun c => !plainB c || okL [c]) (by decide +kernel) c
  rw [h] at this
  simpa using this
theorem zdu : ∀ (l : List UInt8), l.all plainB = true → okL l = true
  | [], _ => rfl
  | c :: l, h => by
    rw [List.all_cons, Bool.and_eq_true] at h
    rw [show c :: l = [c] ++ l from rfl, zed 1 [c] l (Nat.le_refl _) (plain_one c h.1)]
    exact zdu l h.2
theorem name_plain {n : List UInt8} (hn : okN n) : n.all plainB = true := by
  obtain ⟨c, l, rfl, hc, hl⟩ := zgc hn
  have hb : ∀ c, nameB c = true → plainB c = true := fun c h => by
    have := zeg (p := fun c => !nameB c || plainB c) (by decide +kernel) c
    rw [h] at this
    simpa using this
  rw [List.all_cons, Bool.and_eq_true, List.all_eq_true]
  exact ⟨hb c (by unfold nameB; rw [hc]; rfl), fun x hx => hb x (hl x hx)⟩
end Go.Proofs.YtpaopeiegaijiaaGreatDoor
