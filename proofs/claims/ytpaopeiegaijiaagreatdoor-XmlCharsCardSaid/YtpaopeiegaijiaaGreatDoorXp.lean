import Derived.Test.YtpaopeiegaijiaaGreatDoorXh
/- Reading ends at every text: parseL answers. Plain lists alone. -/
namespace Go.Proofs.YtpaopeiegaijiaaGreatDoor
open Go.Lib
set_option linter.unusedVariables false
set_option linter.unusedSimpArgs false
theorem after_le (s : List UInt8) : (afterBl s).length ≤ s.length := by
  unfold afterBl; exact (List.dropWhile_suffix _).length_le
theorem miscL_some : ∀ (k : Nat) (s : List UInt8), s.length < k → ∃ R, miscL k s = some R ∧ ∀ s', R = some s' → s'.length ≤ s.length
  | 0, s, h => by omega
  | k + 1, s, h => by
    unfold miscL
    have ha := after_le s
    split
    · rename_i hlt
      obtain ⟨R, h1, h2⟩ := miscL_some k (afterBl s) (by omega)
      exact ⟨R, h1, fun s' e => by have := h2 s' e; omega⟩
    · split
      · exact ⟨none, rfl, fun s' e => by cases e⟩
      · rename_i s1 hr
        have hl := remark_lt hr
        obtain ⟨R, h1, h2⟩ := miscL_some k s1 (by omega)
        exact ⟨R, h1, fun s' e => by have := h2 s' e; omega⟩
      · rename_i s1 hr
        have hl := (remark_len hr).1
        exact ⟨some s1, rfl, fun s' e => by injection e with e; subst e; omega⟩
theorem written_len {s s2 : List UInt8} {x : List UInt8 × List UInt8} (h : writtenL s = some (x, s2)) : s2.length < s.length := by
  unfold writtenL at h
  split at h
  · cases h
  · rename_i a s1 hn
    have h1 := (name_len hn).1
    split at h
    · split at h
      · cases h
      · rename_i b s3 hn2
        have h2 := (name_len hn2).1
        simp only [Option.some.injEq, Prod.mk.injEq] at h
        obtain ⟨_, rfl⟩ := h
        rw [List.length_drop] at h2
        omega
    · simp only [Option.some.injEq, Prod.mk.injEq] at h
      obtain ⟨_, rfl⟩ := h
      exact h1
theorem declStep_len {s s4 : List UInt8} {M : List UInt8 → Option Int} {k : List UInt8} {z : Int} (h : declStep s M = some (k, z, s4)) : s4.length ≤ s.length := by
  unfold declStep at h
  split at h
  · cases h
  · rename_i p n s1 hw
    have h1 := written_len hw
    split at h
    · cases h
    · split at h
      · split at h
        · split at h
          · cases h
          · rename_i v s5 hu
            have h2 := (until_len hu).1
            simp only [List.length_drop] at h2
            split at h
            · simp only [Option.some.injEq, Prod.mk.injEq] at h
              obtain ⟨_, _, rfl⟩ := h
              omega
            · cases h
        · cases h
      · cases h
theorem declL_len : ∀ (k : Nat) {s s' : List UInt8} {M M' : List UInt8 → Option Int}, declL k s M = some (s', M') → s'.length ≤ s.length
  | 0, s, s', M, M', h => by cases h
  | k + 1, s, s', M, M', h => by
    have ha := after_le s
    unfold declL at h
    split at h
    · split at h
      · cases h
      · rename_i x z s4 hs
        have h1 := declStep_len hs
        have h2 := declL_len k h
        omega
    · simp only [Option.some.injEq, Prod.mk.injEq] at h
      obtain ⟨rfl, _⟩ := h
      exact ha
theorem headL_len {A : Sps} {s s1 : List UInt8} {x : List UInt8 × List UInt8 × Sps × Int} (h : headL A s = some (x, s1)) : s1.length < s.length := by
  unfold headL at h
  split at h
  · split at h
    · cases h
    · rename_i pf nm s2 hw
      have h1 := written_len hw
      rw [List.length_drop] at h1
      split at h
      · cases h
      · rename_i s3 M hd
        have h2 := declL_len _ hd
        split at h
        · simp only [Option.some.injEq, Prod.mk.injEq] at h
          obtain ⟨_, rfl⟩ := h
          omega
        · split at h
          · simp only [Option.some.injEq, Prod.mk.injEq] at h
            obtain ⟨_, rfl⟩ := h
            omega
          · cases h
  · cases h
theorem closeL_len {pf nm : List UInt8} {z : Int} {s : List UInt8} {ps : List Pc} {t : List UInt8} {x : Trio} (h : closeL pf nm z s ps t = some x) : x.1.length ≤ s.length := by
  unfold closeL at h
  split at h
  · cases h
  · rename_i pq mm s1 hw
    have h1 := written_len hw
    have h2 := after_le s1
    rw [List.length_drop] at h1
    split at h
    · split at h
      · simp only [Option.some.injEq] at h
        subst h
        show ((afterBl s1).drop 1).length ≤ _
        rw [List.length_drop]
        omega
      · cases h
    · cases h
theorem elemF_some {body : Body} {deep : Nat} {A : Sps} {s : List UInt8} {ps : List Pc} {t : List UInt8}
    (hb : ∀ deep M pf nm z s' ps t, s'.length < s.length → ∃ R, body deep M pf nm z s' ps t = some R ∧ ∀ x : Trio, R = some x → x.1.length ≤ s'.length) :
    ∃ R, elemF body deep A s ps t = some R ∧ ∀ x : Trio, R = some x → x.1.length < s.length := by
  unfold elemF
  split
  · split
    · exact ⟨none, rfl, fun x e => by cases e⟩
    · rename_i pf nm M z s1 hh
      have h1 := headL_len hh
      split
      · split
        · refine ⟨_, rfl, fun x e => ?_⟩
          injection e with e
          subst e
          show (s1.drop 2).length < _
          rw [List.length_drop]
          omega
        · exact ⟨none, rfl, fun x e => by cases e⟩
      · split
        · obtain ⟨R, h2, h3⟩ := hb deep M pf nm z (s1.drop 1) (flushL ps t ++ [opnP z nm]) [] (by rw [List.length_drop]; omega)
          refine ⟨R, h2, fun x e => ?_⟩
          have := h3 x e
          rw [List.length_drop] at this
          omega
        · exact ⟨none, rfl, fun x e => by cases e⟩
  · exact ⟨none, rfl, fun x e => by cases e⟩
theorem bodyL_some : ∀ (k : Nat) (deep : Nat) (M : Sps) (pf nm : List UInt8) (z : Int) (s : List UInt8) (ps : List Pc) (t : List UInt8), s.length < k →
    ∃ R, bodyL k deep M pf nm z s ps t = some R ∧ ∀ x : Trio, R = some x → x.1.length ≤ s.length
  | 0, _, _, _, _, _, s, _, _, h => by omega
  | k + 1, deep, M, pf, nm, z, s, ps, t, h => by
    have ih := bodyL_some k
    by_cases hp : ([60, 47] : List UInt8).isPrefixOf s = true
    · refine ⟨closeL pf nm z s ps t, by simp only [bodyL, hp, if_true], fun x e => closeL_len e⟩
    · cases s with
      | nil => exact ⟨none, by simp [bodyL, List.isPrefixOf], fun x e => by cases e⟩
      | cons c r =>
        have hE : bodyL (k + 1) deep M pf nm z (c :: r) ps t = (match remarkL (c :: r) with
          | none => some none
          | some (true, s1) => bodyL k deep M pf nm z s1 ps t
          | some (false, _) =>
            if c = 60 then (match elemF (bodyL k) (deep + 1) M (c :: r) ps t with
              | none => none
              | some none => some none
              | some (some (s1, ps1, t1)) => bodyL k deep M pf nm z s1 ps1 t1)
            else if c = 38 then (match untilL [59] r with
              | none => some none
              | some (a, s1) => match entL a with
                | none => none
                | some none => some none
                | some (some x) => bodyL k deep M pf nm z s1 ps (t ++ x))
            else bodyL k deep M pf nm z r ps (t ++ [c])) := by
          simp only [bodyL, if_neg hp]
          rfl
        rw [hE]
        simp only [List.length_cons] at h ⊢
        cases hr : remarkL (c :: r) with
        | none => exact ⟨none, rfl, fun x e => by cases e⟩
        | some y =>
          obtain ⟨b, s1⟩ := y
          cases b with
          | true =>
            have hl := remark_lt hr
            simp only [List.length_cons] at hl
            obtain ⟨R, h1, h2⟩ := ih deep M pf nm z s1 ps t (by omega)
            exact ⟨R, h1, fun x e => by have := h2 x e; omega⟩
          | false =>
            dsimp only
            split
            · obtain ⟨R, h1, h2⟩ := elemF_some (body := bodyL k) (deep := deep + 1) (A := M) (s := c :: r) (ps := ps) (t := t) (fun deep M pf nm z s' ps t hs => ih deep M pf nm z s' ps t (by simp only [List.length_cons] at hs; omega))
              rw [h1]
              cases R with
              | none => exact ⟨none, rfl, fun x e => by cases e⟩
              | some x =>
                obtain ⟨s1, ps1, t1⟩ := x
                have h3 : s1.length < r.length + 1 := h2 _ rfl
                obtain ⟨R, h4, h5⟩ := ih deep M pf nm z s1 ps1 t1 (by omega)
                exact ⟨R, h4, fun x e => by have := h5 x e; omega⟩
            · split
              · cases hu : untilL [59] r with
                | none => exact ⟨none, rfl, fun x e => by cases e⟩
                | some y =>
                  obtain ⟨a, s1⟩ := y
                  have hl := (until_len hu).1
                  obtain ⟨E, hE⟩ := entL_some a
                  dsimp only
                  rw [hE]
                  cases E with
                  | none => exact ⟨none, rfl, fun x e => by cases e⟩
                  | some x =>
                    obtain ⟨R, h4, h5⟩ := ih deep M pf nm z s1 ps (t ++ x) (by omega)
                    exact ⟨R, h4, fun x e => by have := h5 x e; omega⟩
              · obtain ⟨R, h4, h5⟩ := ih deep M pf nm z r ps (t ++ [c]) (by omega)
                exact ⟨R, h4, fun x e => by have := h5 x e; omega⟩
theorem docL_some (k : Nat) (s : List UInt8) (hk : s.length < k) : ∃ R, docL k s = some R := by
  have main : ∀ s0 : List UInt8, s0.length ≤ s.length → ∃ R, (match miscL (s0.length + 1) s0 with
    | none => none
    | some none => some none
    | some (some s1) => match elemF (bodyL k) 0 (fun _ => none) s1 [] [] with
      | none => none
      | some none => some none
      | some (some (s2, ps, _)) => match miscL (s2.length + 1) s2 with
        | none => none
        | some none => some none
        | some (some s3) => if s3 = [] then some (some ps) else some none) = some R := by
    intro s0 h0
    obtain ⟨R, h1, h2⟩ := miscL_some (s0.length + 1) s0 (by omega)
    rw [h1]
    cases R with
    | none => exact ⟨none, rfl⟩
    | some s1 =>
      have h3 := h2 s1 rfl
      obtain ⟨R, h4, h5⟩ := elemF_some (body := bodyL k) (deep := 0) (A := fun _ => none) (s := s1) (ps := []) (t := []) (fun deep M pf nm z s' ps t hs => bodyL_some k deep M pf nm z s' ps t (by omega))
      dsimp only
      rw [h4]
      cases R with
      | none => exact ⟨none, rfl⟩
      | some x =>
        obtain ⟨s2, ps, t⟩ := x
        obtain ⟨R, h6, h7⟩ := miscL_some (s2.length + 1) s2 (by omega)
        dsimp only
        rw [h6]
        cases R with
        | none => exact ⟨none, rfl⟩
        | some s3 =>
          dsimp only
          split
          · exact ⟨_, rfl⟩
          · exact ⟨_, rfl⟩
  unfold docL
  split
  · exact ⟨none, rfl⟩
  · rename_i s0 h0
    refine main s0 ?_
    split at h0
    · split at h0
      · cases h0
      · rename_i a s1 hu
        injection h0 with h0
        subst h0
        have := (until_len hu).1
        rw [List.length_drop] at this
        omega
    · injection h0 with h0
      subst h0
      exact Nat.le_refl _
theorem parseL_some (s : List UInt8) : ∃ R, parseL (s.length + 1) s = some R := by
  unfold parseL
  split
  · exact ⟨_, rfl⟩
  · split
    · exact ⟨_, rfl⟩
    · obtain ⟨R, h⟩ := docL_some (s.length + 1) s (by omega)
      rw [h]
      cases R with
      | none => exact ⟨_, rfl⟩
      | some ps => exact ⟨_, rfl⟩
end Go.Proofs.YtpaopeiegaijiaaGreatDoor
