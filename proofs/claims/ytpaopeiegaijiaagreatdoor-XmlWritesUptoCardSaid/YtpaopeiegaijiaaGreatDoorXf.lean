import Derived.Test.YtpaopeiegaijiaaGreatDoorXf3
namespace Go.Proofs.YtpaopeiegaijiaaGreatDoor
open Go.RowKit Go.Shelf Go.Lib Go.Joins Go.Proofs.YtpaopeiegaijiaaGreatDoorW.zgv
set_option linter.unusedVariables false
set_option linter.unusedSimpArgs false
/-- What is between & and ; (numbers: not told here). -/
def entL (s : List UInt8) : Option (Option (List UInt8)) :=
  if s = [97, 109, 112] then some (some [38]) else if s = [108, 116] then some (some [60]) else if s = [103, 116] then some (some [62]) else if s = [113, 117, 111, 116] then some (some [34]) else if s = [97, 112, 111, 115] then some (some [39]) else
  if s = [35, 49, 51] then some (some [13]) else if ([35] : List UInt8).isPrefixOf s = true then none else some none
/-- How entity ends. -/
def ResE (w : World) (r : Option (List UInt8)) (e : Ending) (w' : World) : Prop :=
  match r with
  | some t => e = .returned (strV t) ∧ Below w.heap.size w w'
  | none => e = .panicked [flt] ∧ Below w.heap.size w w'
set_option maxRecDepth 100000 in
theorem entity_any (x : Value) (s : List UInt8) (w : World) (hT : LaidM w) (R : Option (List UInt8)) (hR : entL s = some R) :
    Calls Tryz.prog 106 #[x, strV s] w fun e w' => ResE w R e w' := by
  unfold entL at hR
  by_cases e1 : s = [97, 109, 112]
  · subst e1
    have h : some [38] = R := by simpa using hR
    subst h
    go_enter Tryz.func106, Tryz.ntmps106
    go_wp2
    go_ret
    exact ⟨rfl, Below.refl _ _⟩
  rw [if_neg e1] at hR
  by_cases e2 : s = [108, 116]
  · subst e2
    have h : some [60] = R := by simpa using hR
    subst h
    go_enter Tryz.func106, Tryz.ntmps106
    go_wp2
    go_ret
    exact ⟨rfl, Below.refl _ _⟩
  rw [if_neg e2] at hR
  by_cases e3 : s = [103, 116]
  · subst e3
    have h : some [62] = R := by simpa using hR
    subst h
    go_enter Tryz.func106, Tryz.ntmps106
    go_wp2
    go_ret
    exact ⟨rfl, Below.refl _ _⟩
  rw [if_neg e3] at hR
  by_cases e4 : s = [113, 117, 111, 116]
  · subst e4
    have h : some [34] = R := by simpa using hR
    subst h
    go_enter Tryz.func106, Tryz.ntmps106
    go_wp2
    go_ret
    exact ⟨rfl, Below.refl _ _⟩
  rw [if_neg e4] at hR
  by_cases e5 : s = [97, 112, 111, 115]
  · subst e5
    have h : some [39] = R := by simpa using hR
    subst h
    go_enter Tryz.func106, Tryz.ntmps106
    go_wp2
    go_ret
    exact ⟨rfl, Below.refl _ _⟩
  rw [if_neg e5] at hR
  by_cases e6 : s = [35, 49, 51]
  · subst e6
    have h : some [13] = R := by simpa using hR
    subst h
    exact ent13_any x w hT
  rw [if_neg e6] at hR
  cases hp : ([35] : List UInt8).isPrefixOf s with
  | true => rw [hp] at hR; cases hR
  | false =>
    have h : none = R := by rw [hp] at hR; simpa using hR
    subst h
    have q1 : (s == [97, 109, 112]) = false := beq_eq_false_iff_ne.2 e1
    have q2 : (s == [108, 116]) = false := beq_eq_false_iff_ne.2 e2
    have q3 : (s == [103, 116]) = false := beq_eq_false_iff_ne.2 e3
    have q4 : (s == [113, 117, 111, 116]) = false := beq_eq_false_iff_ne.2 e4
    have q5 : (s == [97, 112, 111, 115]) = false := beq_eq_false_iff_ne.2 e5
    go_enter Tryz.func106, Tryz.ntmps106
    go_wp2_with (first
      | (go_at_call 54; refine (hasPre _ _ false hp _).mono ?_; rintro e w' ⟨rfl, rfl⟩)
      | (go_at_call 60; refine (zcm _ _).mono ?_; rintro e w' ⟨rfl, rfl⟩))
    exact ⟨rfl, rfl, Below.refl _ _⟩
end Go.Proofs.YtpaopeiegaijiaaGreatDoor
