import Derived.Test.YtpaopeiegaijiaaGreatDoorXf3
/- What an entity stands for. -/
namespace Go.Proofs.YtpaopeiegaijiaaGreatDoor
open Go.RowKit Go.Shelf Go.Lib Go.Joins Go.Proofs.YtpaopeiegaijiaaGreatDoorW.PrintWords
set_option linter.unusedVariables false
set_option linter.unusedSimpArgs false
/-- What is between & and ;. -/
def entL (s : List UInt8) : Option (Option (List UInt8)) :=
  if s = [97, 109, 112] then some (some [38]) else if s = [108, 116] then some (some [60]) else if s = [103, 116] then some (some [62]) else if s = [113, 117, 111, 116] then some (some [34]) else if s = [97, 112, 111, 115] then some (some [39]) else
  match s with
  | 35 :: r => some (numE r)
  | _ => some none
theorem entL_some (s : List UInt8) : ∃ R, entL s = some R := by
  unfold entL
  repeat' split
  all_goals exact ⟨_, rfl⟩
theorem enc_len (z : Int) : (Utf8.encode z).data.toList.length ≤ 4 := by
  rw [Array.length_toList]
  exact encode_size_le z
theorem ent_len {a : List UInt8} {x : List UInt8} (h : entL a = some (some x)) : x.length ≤ a.length + 2 := by
  unfold entL at h
  split at h; · simp only [Option.some.injEq] at h; subst h; simp_all
  split at h; · simp only [Option.some.injEq] at h; subst h; simp_all
  split at h; · simp only [Option.some.injEq] at h; subst h; simp_all
  split at h; · simp only [Option.some.injEq] at h; subst h; simp_all
  split at h; · simp only [Option.some.injEq] at h; subst h; simp_all
  split at h
  · rename_i r _ _ _ _ _
    injection h with h
    have h2 : ∀ {b : Bool} {l : List UInt8}, entD b l = some x → x.length ≤ 4 ∧ l ≠ [] := by
      intro b l h
      unfold entD at h
      split at h
      · cases h
      · rename_i hl
        refine ⟨?_, hl⟩
        split at h
        · cases h
        · split at h
          · cases h
          · split at h
            · unfold encV at h
              split at h
              · injection h with h
                subst h
                exact enc_len _
              · cases h
            · cases h
    unfold numE at h
    split at h
    · obtain ⟨h3, h4⟩ := h2 h
      simp only [List.length_cons]
      omega
    · obtain ⟨h3, h4⟩ := h2 h
      have : 0 < r.length := List.length_pos_iff.2 h4
      simp only [List.length_cons]
      omega
  · cases h
set_option maxRecDepth 100000 in
set_option maxHeartbeats 2000000 in
theorem entE_any (x : Value) (w : World) : Calls Tryz.prog 106 #[x, strV [35]] w fun e w' => ResE w none e w' := by
  go_enter Tryz.func106, Tryz.ntmps106
  go_wp2_with fail
  refine (hasPre [35] ⟨#[35]⟩ true (by decide) _).mono ?_
  rintro e w' ⟨rfl, rfl⟩
  go_wp2_with fail
  refine (must_ok _ _).mono ?_
  rintro e w' ⟨rfl, rfl⟩
  have hex : (⟨#[35]⟩ : ByteArray).extract 1 1 = ⟨#[]⟩ := by decide
  go_wp2_with fail
  refine (hasPre [] ⟨#[120]⟩ false (by decide) _).mono ?_
  rintro e w' ⟨rfl, rfl⟩
  go_wp2_with fail
  refine (must_bad _ _).mono ?_
  rintro e w' ⟨rfl, rfl⟩
  exact ⟨rfl, rfl, Below.refl _ _⟩
set_option maxRecDepth 100000 in
set_option maxHeartbeats 2000000 in
theorem entX_any (x : Value) (w : World) : Calls Tryz.prog 106 #[x, strV [35, 120]] w fun e w' => ResE w none e w' := by
  go_enter Tryz.func106, Tryz.ntmps106
  go_wp2_with fail
  refine (hasPre [35, 120] ⟨#[35]⟩ true (by decide) _).mono ?_
  rintro e w' ⟨rfl, rfl⟩
  go_wp2_with fail
  refine (must_ok _ _).mono ?_
  rintro e w' ⟨rfl, rfl⟩
  have hex : (⟨#[35, 120]⟩ : ByteArray).extract 1 2 = ⟨#[120]⟩ := by decide
  have hex2 : (⟨#[120]⟩ : ByteArray).extract 1 1 = ⟨#[]⟩ := by decide
  go_wp2_with fail
  refine (hasPre [120] ⟨#[120]⟩ true (by decide) _).mono ?_
  rintro e w' ⟨rfl, rfl⟩
  go_wp2_with fail
  refine (must_bad _ _).mono ?_
  rintro e w' ⟨rfl, rfl⟩
  exact ⟨rfl, rfl, Below.refl _ _⟩
set_option maxRecDepth 100000 in
theorem entity_any (x : Value) (s : List UInt8) (w : World) (hT : LaidM w) (hs : s.length ≤ 65534) (R : Option (List UInt8)) (hR : entL s = some R) :
    Calls Tryz.prog 106 #[x, strV s] w fun e w' => ResE w R e w' := by
  unfold entL at hR
  by_cases e1 : s = [97, 109, 112]
  · subst e1
    have h : some [38] = R := by simpa using hR
    subst h
    go_enter Tryz.func106, Tryz.ntmps106
    go_wp2
    go_ret
    exact ⟨rfl, Below.refl _ _⟩
  rw [if_neg e1] at hR
  by_cases e2 : s = [108, 116]
  · subst e2
    have h : some [60] = R := by simpa using hR
    subst h
    go_enter Tryz.func106, Tryz.ntmps106
    go_wp2
    go_ret
    exact ⟨rfl, Below.refl _ _⟩
  rw [if_neg e2] at hR
  by_cases e3 : s = [103, 116]
  · subst e3
    have h : some [62] = R := by simpa using hR
    subst h
    go_enter Tryz.func106, Tryz.ntmps106
    go_wp2
    go_ret
    exact ⟨rfl, Below.refl _ _⟩
  rw [if_neg e3] at hR
  by_cases e4 : s = [113, 117, 111, 116]
  · subst e4
    have h : some [34] = R := by simpa using hR
    subst h
    go_enter Tryz.func106, Tryz.ntmps106
    go_wp2
    go_ret
    exact ⟨rfl, Below.refl _ _⟩
  rw [if_neg e4] at hR
  by_cases e5 : s = [97, 112, 111, 115]
  · subst e5
    have h : some [39] = R := by simpa using hR
    subst h
    go_enter Tryz.func106, Tryz.ntmps106
    go_wp2
    go_ret
    exact ⟨rfl, Below.refl _ _⟩
  rw [if_neg e5] at hR
  cases hp : ([35] : List UInt8).isPrefixOf s with
  | true =>
    obtain ⟨r, rfl⟩ : ∃ r, s = 35 :: r := by
      cases s with
      | nil => simp [List.isPrefixOf] at hp
      | cons c r => exact ⟨r, by rw [(beq_iff_eq.1 (by simpa [List.isPrefixOf] using hp) : (35 : UInt8) = c)]⟩
    have h : numE r = R := by simpa using hR
    subst h
    match r, hs with
    | [], _ => exact entE_any x w
    | [120], _ => exact entX_any x w
    | 120 :: c :: l, hs => exact entH_any x c l w hT (by simp only [List.length_cons] at hs; omega)
    | c :: l, hs =>
      by_cases h120 : c = 120
      · subst h120
        cases l with
        | nil => exact entX_any x w
        | cons c2 l2 => exact entH_any x c2 l2 w hT (by simp only [List.length_cons] at hs; omega)
      · have e : numE (c :: l) = entD false (c :: l) := by
          unfold numE
          split
          · rename_i h; injection h with h _; exact absurd h h120
          · rfl
        rw [e]
        exact entD_any x c l w hT (by simp only [List.length_cons] at hs; omega) h120
  | false =>
    have h : none = R := by
      revert hR
      split
      · rename_i r; simp [List.isPrefixOf] at hp
      · intro hR; simpa using hR
    subst h
    have q1 : (s == [97, 109, 112]) = false := beq_eq_false_iff_ne.2 e1
    have q2 : (s == [108, 116]) = false := beq_eq_false_iff_ne.2 e2
    have q3 : (s == [103, 116]) = false := beq_eq_false_iff_ne.2 e3
    have q4 : (s == [113, 117, 111, 116]) = false := beq_eq_false_iff_ne.2 e4
    have q5 : (s == [97, 112, 111, 115]) = false := beq_eq_false_iff_ne.2 e5
    go_enter Tryz.func106, Tryz.ntmps106
    go_wp2_with (first
      | (go_at_call 54; refine (hasPre _ _ false hp _).mono ?_; rintro e w' ⟨rfl, rfl⟩)
      | (go_at_call 60; refine (must_bad _ _).mono ?_; rintro e w' ⟨rfl, rfl⟩))
    exact ⟨rfl, rfl, Below.refl _ _⟩
end Go.Proofs.YtpaopeiegaijiaaGreatDoor
