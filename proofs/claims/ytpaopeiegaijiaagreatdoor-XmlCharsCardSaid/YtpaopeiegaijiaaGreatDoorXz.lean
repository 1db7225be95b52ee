import Derived.Test.YtpaopeiegaijiaaGreatDoorProg
/- Characters as they are printed. Plain lists alone. -/
namespace Go.Proofs.YtpaopeiegaijiaaGreatDoor
set_option linter.unusedVariables false
set_option linter.unusedSimpArgs false
def escB (c : UInt8) : List UInt8 := if c = 38 then [38, 97, 109, 112, 59] else if c = 60 then [38, 108, 116, 59] else if c = 62 then [38, 103, 116, 59] else if c = 13 then [38, 35, 49, 51, 59] else [c]
def escL (t : List UInt8) : List UInt8 := t.flatMap escB
theorem escB_len (c : UInt8) : 1 ≤ (escB c).length := by
  unfold escB
  repeat (split; · decide)
  simp
theorem escL_len : ∀ x : List UInt8, x.length ≤ (escL x).length
  | [] => by simp [escL]
  | c :: x => by have := escL_len x; have := escB_len c; simp only [escL, List.flatMap_cons, List.length_append, List.length_cons] at *; omega
theorem escL_cons (c : UInt8) (x : List UInt8) : escL (c :: x) = escB c ++ escL x := by simp [escL]
theorem escL_app (x y : List UInt8) : escL (x ++ y) = escL x ++ escL y := by simp [escL]
theorem escB_len5 (c : UInt8) : (escB c).length ≤ 5 := by
  unfold escB
  repeat (split; · decide)
  simp
theorem escL_len5 : ∀ x : List UInt8, (escL x).length ≤ 5 * x.length
  | [] => by simp [escL]
  | c :: x => by have := escL_len5 x; have := escB_len5 c; rw [escL_cons, List.length_append, List.length_cons]; omega
def isEsc (c : UInt8) : Bool := c == 38 || c == 60 || c == 62 || c == 13
theorem esc_no {c : UInt8} (h : isEsc c = false) : escB c = [c] := by
  simp only [isEsc, Bool.or_eq_false_iff, beq_eq_false_iff_ne] at h
  obtain ⟨⟨⟨h1, h2⟩, h3⟩, h4⟩ := h
  simp [escB, h1, h2, h3, h4]
theorem esc_yes {c : UInt8} (h : isEsc c = true) : 4 ≤ (escB c).length := by
  simp only [isEsc, Bool.or_eq_true, beq_iff_eq] at h
  rcases h with ((rfl | rfl) | rfl) | rfl <;> decide
theorem escL_same : ∀ {x : List UInt8}, (escL x).length = x.length → escL x = x
  | [], _ => rfl
  | c :: x, h => by
    rw [escL_cons, List.length_append, List.length_cons] at h
    have h1 := escB_len c
    have h2 := escL_len x
    rw [escL_cons, escL_same (by omega)]
    cases hc : isEsc c with
    | false => rw [esc_no hc]; rfl
    | true => have := esc_yes hc; omega
def repL : List UInt8 := [13, 62, 60, 38]
/-- By how much the first k kinds of bytes make the text longer. -/
def growA (S : List UInt8) (k : Nat) : Nat := ((repL.take k).map fun c => S.count c * ((escB c).length - 1)).sum
theorem growA_zero (S : List UInt8) : growA S 0 = 0 := rfl
theorem growA_step (S : List UInt8) (k : Nat) (c : UInt8) (h : repL[k]? = some c) : growA S (k + 1) = growA S k + S.count c * ((escB c).length - 1) := by
  unfold growA
  rw [List.take_add_one, h]
  simp
theorem growA_four (S : List UInt8) : growA S 4 = S.count 13 * 4 + S.count 62 * 3 + S.count 60 * 3 + S.count 38 * 4 := by
  show (List.map _ repL).sum = _
  simp only [repL, List.map_cons, List.map_nil, List.sum_cons, List.sum_nil]
  rw [show (escB 13).length - 1 = 4 from rfl, show (escB 62).length - 1 = 3 from rfl, show (escB 60).length - 1 = 3 from rfl, show (escB 38).length - 1 = 4 from rfl]
  omega
theorem growA_all : ∀ S : List UInt8, S.length + growA S 4 = (escL S).length
  | [] => rfl
  | c :: S => by
    have ih := growA_all S
    rw [growA_four] at ih ⊢
    rw [escL_cons, List.length_append, List.length_cons, List.count_cons, List.count_cons, List.count_cons, List.count_cons]
    cases hc : isEsc c with
    | false =>
      rw [esc_no hc]
      simp only [isEsc, Bool.or_eq_false_iff] at hc
      obtain ⟨⟨⟨h1, h2⟩, h3⟩, h4⟩ := hc
      rw [h1, h2, h3, h4]
      simp
      omega
    | true =>
      simp only [isEsc, Bool.or_eq_true, beq_iff_eq] at hc
      rcases hc with ((rfl | rfl) | rfl) | rfl
      · rw [show (escB 38).length = 5 from rfl]; simp; omega
      · rw [show (escB 60).length = 4 from rfl]; simp; omega
      · rw [show (escB 62).length = 4 from rfl]; simp; omega
      · rw [show (escB 13).length = 5 from rfl]; simp; omega
end Go.Proofs.YtpaopeiegaijiaaGreatDoor
