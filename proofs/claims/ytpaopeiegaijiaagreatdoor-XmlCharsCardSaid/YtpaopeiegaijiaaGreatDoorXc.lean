import Derived.Test.YtpaopeiegaijiaaGreatDoorXa
/- The reader's small methods: blanks, until, names, remarks. -/
namespace Go.Proofs.YtpaopeiegaijiaaGreatDoor
open Go.RowKit Go.Shelf Go.Lib Go.Joins Go.Proofs.YtpaopeiegaijiaaGreatDoorW.PrintWords
set_option linter.unusedVariables false
set_option linter.unusedSimpArgs false
def isBl (c : UInt8) : Bool := ([32, 9, 13, 10] : List UInt8).contains c
def afterBl (s : List UInt8) : List UInt8 := s.dropWhile isBl
def untilL (t s : List UInt8) : Option (List UInt8 × List UInt8) := if (Lib.cut s t).2.2 = true then some ((Lib.cut s t).1, (Lib.cut s t).2.1) else none
def nameL (s : List UInt8) : Option (List UInt8 × List UInt8) := if 0 < leadL s then some (s.take (leadL s), s.drop (leadL s)) else none
abbrev strV (l : List UInt8) : Value := .string ⟨l.toArray⟩
/-- The tables lie below B, and nothing there has been written. -/
def Cx (B : Nat) (w : World) : Prop := ∃ w0, B = w0.heap.size ∧ LaidM w0 ∧ Below B w0 w
theorem Cx.laid {B : Nat} {w : World} (h : Cx B w) : LaidM w := by
  obtain ⟨w0, rfl, h1, h2⟩ := h
  exact h1.below h2
theorem Cx.le {B : Nat} {w : World} (h : Cx B w) : B ≤ w.heap.size := by
  obtain ⟨w0, rfl, h1, h2⟩ := h
  exact h2.size
theorem Cx.kp {B q : Nat} {s : List UInt8} {ps : List Pc} {t : List UInt8} {w w' : World} (h : Cx B w) (hR : Rd B q s ps t w) (hk : Kp (ownOf q w) w w') : Cx B w' := by
  obtain ⟨v, p, u, hA⟩ := hR
  have hb := hA.below hk h.le
  obtain ⟨w0, rfl, h1, h2⟩ := h
  exact ⟨w0, rfl, h1, h2.trans hb⟩
theorem Cx.below {B : Nat} {w w' : World} (h : Cx B w) (hb : Below B w w') : Cx B w' := by
  obtain ⟨w0, rfl, h1, h2⟩ := h
  exact ⟨w0, rfl, h1, h2.trans hb⟩
theorem hasPre (s : List UInt8) (l : ByteArray) (b : Bool) (hb : l.data.toList.isPrefixOf s = b) (w : World) : Calls Tryz.prog 54 #[.string ⟨s.toArray⟩, .string l] w fun e w' => e = .returned (.bool b) ∧ w' = w := by
  subst hb
  exact Any.strings_HasPrefix Tryz.laysHasPrefix ⟨s.toArray⟩ l w
theorem skip_ok {B q : Nat} {s : List UInt8} {ps : List Pc} {t : List UInt8} (l : List UInt8) (w : World) (h : Rd B q s ps t w) (hb : l.isPrefixOf s = true) :
    Calls Tryz.prog 55 #[.pointer (some ⟨q, 0, none⟩), .string ⟨l.toArray⟩] w fun e w' => e = .returned (.tuple #[]) ∧ Rd B q (s.drop l.length) ps t w' ∧ St q w w' := by
  have := skip_any l w h
  unfold skipL at this
  rw [hb] at this
  exact this
theorem skip_bad {B q : Nat} {s : List UInt8} {ps : List Pc} {t : List UInt8} (l : List UInt8) (w : World) (h : Rd B q s ps t w) (hb : l.isPrefixOf s = false) :
    Calls Tryz.prog 55 #[.pointer (some ⟨q, 0, none⟩), .string ⟨l.toArray⟩] w fun e w' => e = .panicked [flt] ∧ Kp (ownOf q w) w w' := by
  have := skip_any l w h
  unfold skipL at this
  rw [hb] at this
  exact this
section
variable {B q : Nat} {s : List UInt8} {ps : List Pc} {t : List UInt8} {w : World}
set_option maxRecDepth 100000 in
theorem blank_any (h : Rd B q s ps t w) :
    Calls Tryz.prog 57 #[.pointer (some ⟨q, 0, none⟩)] w fun e w' => Res B q w (some (.bool (decide ((afterBl s).length < s.length)), afterBl s, ps, t)) e w' := by
  obtain ⟨v, p, u, hA⟩ := h
  have c0 := hA.c0
  have f0 := hA.fz 0
  have ht := Any.strings_TrimLeft_laid Tryz.laysTrimLeft (by kernel_rfl) ⟨s.toArray⟩ ⟨#[32, 9, 13, 10]⟩ w (by decide) (ascii_of_all (by decide))
  change Calls Tryz.prog 102 _ _ (fun e w' => e = .returned (.string ⟨(afterBl s).toArray⟩) ∧ Below w.heap.size w w') at ht
  go_enter Tryz.func57, Tryz.ntmps57
  go_wp2_with (go_at_call 102; refine ht.mono ?_; rintro e w1 ⟨rfl, hb⟩; obtain ⟨hA1, hS1⟩ := hA.kept hb; have c1 := hA1.c0; have f1 := hA1.fz 0)
  have h2 := rd_put hA1 (x := ⟨(afterBl s).toArray⟩) rfl
  go_ret
  exact ⟨by simp, h2.1, hS1.trans h2.2⟩
set_option maxRecDepth 100000 in
theorem until_any (l : List UInt8) (hC : Cx B w) (hs : s.length ≤ 65536) (h : Rd B q s ps t w) :
    Calls Tryz.prog 56 #[.pointer (some ⟨q, 0, none⟩), strV l] w fun e w' => Res B q w ((untilL l s).map fun x => (strV x.1, x.2, ps, t)) e w' := by
  unfold strV
  obtain ⟨v, p, u, hA⟩ := h
  obtain ⟨m, hm⟩ := hC.laid.mx
  have c0 := hA.c0
  have f0 := hA.fz 0
  have ht := Any.strings_Cut Tryz.laysCut ⟨s.toArray⟩ ⟨l.toArray⟩ m w (by rw [sz_l]; omega) hm
  change Calls Tryz.prog 101 _ _ (fun e w' => e = .returned (.tuple #[.string ⟨(Lib.cut s l).1.toArray⟩, .string ⟨(Lib.cut s l).2.1.toArray⟩, .bool (Lib.cut s l).2.2]) ∧ ∃ n, w' = w.drewN n) at ht
  unfold untilL
  obtain ⟨c, hc⟩ : ∃ c, Lib.cut s l = c := ⟨_, rfl⟩
  rw [hc] at ht ⊢
  obtain ⟨a, b, ok⟩ := c
  simp only at ht ⊢
  cases ok with
  | false =>
    go_enter Tryz.func56, Tryz.ntmps56
    go_wp2_with (first | (go_at_call 101; refine ht.mono ?_; rintro e w1 ⟨rfl, n, rfl⟩; obtain ⟨hA1, hS1⟩ := hA.kept (pw_below_drewN (Below.refl _ _) n); have c1 := hA1.c0; have f1 := hA1.fz 0) | (go_at_call 60; refine (must_bad _ _).mono ?_; rintro e w' ⟨rfl, rfl⟩))
    exact ⟨rfl, rfl, hS1.kp⟩
  | true =>
    go_enter Tryz.func56, Tryz.ntmps56
    go_wp2_with (first | (go_at_call 101; refine ht.mono ?_; rintro e w1 ⟨rfl, n, rfl⟩; obtain ⟨hA1, hS1⟩ := hA.kept (pw_below_drewN (Below.refl _ _) n); have c1 := hA1.c0; have f1 := hA1.fz 0) | (go_at_call 60; refine (must_ok _ _).mono ?_; rintro e w' ⟨rfl, rfl⟩))
    have h2 := rd_put hA1 (x := ⟨b.toArray⟩) rfl
    go_ret
    exact ⟨rfl, h2.1, hS1.trans h2.2⟩
set_option maxRecDepth 100000 in
theorem name_any (hs : s.length ≤ 65536) (h : Rd B q s ps t w) :
    Calls Tryz.prog 136 #[.pointer (some ⟨q, 0, none⟩)] w fun e w' => Res B q w ((nameL s).map fun x => (strV x.1, x.2, ps, t)) e w' := by
  obtain ⟨v, p, u, hA⟩ := h
  have c0 := hA.c0
  have f0 := hA.fz 0
  have ht := lead_any s (by omega) w
  have hle := lead_le s
  unfold nameL strV
  obtain ⟨n, hn⟩ : ∃ n, leadL s = n := ⟨_, rfl⟩
  rw [hn] at ht hle ⊢
  by_cases h0 : 0 < n
  · have h0' : (0 : Int) < (n : Int) := by omega
    rw [if_pos h0]
    go_enter Tryz.func136, Tryz.ntmps136
    go_wp2_with (first | (go_at_call 91; refine ht.mono ?_; rintro e w1 ⟨rfl, hb⟩; obtain ⟨hA1, hS1⟩ := hA.kept hb; have c1 := hA1.c0; have f1 := hA1.fz 0) | (go_at_call 60; refine (must_ok _ _).mono ?_; rintro e w' ⟨rfl, rfl⟩))
    have h2 := rd_put hA1 (x := (⟨s.toArray⟩ : ByteArray).extract n s.length) (s' := s.drop n) (by rw [ext_l, List.take_of_length_le (by rw [List.length_drop]; omega)])
    go_ret
    exact ⟨by rw [ext_l]; rfl, h2.1, hS1.trans h2.2⟩
  · have h0' : ¬ (0 : Int) < (n : Int) := by omega
    rw [if_neg h0]
    go_enter Tryz.func136, Tryz.ntmps136
    go_wp2_with (first | (go_at_call 91; refine ht.mono ?_; rintro e w1 ⟨rfl, hb⟩; obtain ⟨hA1, hS1⟩ := hA.kept hb; have c1 := hA1.c0; have f1 := hA1.fz 0) | (go_at_call 60; refine (must_bad _ _).mono ?_; rintro e w' ⟨rfl, rfl⟩))
    exact ⟨rfl, rfl, hS1.kp⟩
/-- A prefix and a name as they are written. -/
def writtenL (s : List UInt8) : Option ((List UInt8 × List UInt8) × List UInt8) :=
  match nameL s with
  | none => none
  | some (a, s1) => if ([58] : List UInt8).isPrefixOf s1 = true then (match nameL (s1.drop 1) with
      | none => none
      | some (b, s2) => some ((a, b), s2)) else some (([], a), s1)
theorem name_len {s a s1 : List UInt8} (h : nameL s = some (a, s1)) : s1.length < s.length ∧ s = a ++ s1 := by
  unfold nameL at h
  split at h
  · rename_i h0
    simp only [Option.some.injEq, Prod.mk.injEq] at h
    obtain ⟨rfl, rfl⟩ := h
    have := lead_le s
    exact ⟨by rw [List.length_drop]; omega, (List.take_append_drop _ _).symm⟩
  · cases h
set_option maxRecDepth 100000 in
theorem written_any (hs : s.length ≤ 65536) (h : Rd B q s ps t w) :
    Calls Tryz.prog 103 #[.pointer (some ⟨q, 0, none⟩)] w fun e w' => Res B q w ((writtenL s).map fun x => (.tuple #[strV x.1.1, strV x.1.2], x.2, ps, t)) e w' := by
  have hn := name_any hs h
  unfold writtenL
  cases h1 : nameL s with
  | none =>
    rw [h1] at hn
    go_enter Tryz.func103, Tryz.ntmps103
    go_wp2_with (go_at_call 136; refine hn.mono ?_; rintro e w1 ⟨rfl, hk⟩)
    exact ⟨rfl, rfl, hk⟩
  | some x =>
    obtain ⟨a, s1⟩ := x
    obtain ⟨hlt, _⟩ := name_len h1
    rw [h1] at hn
    simp only
    cases hb : ([58] : List UInt8).isPrefixOf s1 with
    | false =>
      rw [if_neg (by simp)]
      go_enter Tryz.func103, Tryz.ntmps103
      go_wp2_with (first | (go_at_call 136; refine hn.mono ?_; rintro e w1 ⟨rfl, hR1, hS1⟩; have hR := hR1; obtain ⟨v, p, u, hA⟩ := hR1; have c1 := hA.c0; have f1 := hA.fz 0) | (go_at_call 54; refine (hasPre _ _ false hb _).mono ?_; rintro e w' ⟨rfl, rfl⟩))
      go_ret2
      exact ⟨rfl, hR, hS1⟩
    | true =>
      rw [if_pos rfl]
      have hs2 : (s1.drop 1).length ≤ 65536 := by rw [List.length_drop]; omega
      cases h2 : nameL (s1.drop 1) with
      | none =>
        go_enter Tryz.func103, Tryz.ntmps103
        go_wp2_with (first
          | (go_at_call 136; (with_reducible refine hn.mono ?_); rintro e w1 ⟨rfl, hR1, hS1⟩; have hR := hR1; obtain ⟨v, p, u, hA⟩ := hR1; have c1 := hA.c0; have f1 := hA.fz 0)
          | (go_at_call 54; refine (hasPre _ _ true hb _).mono ?_; rintro e w' ⟨rfl, rfl⟩)
          | (go_at_call 55; refine (skip_ok [58] _ hR hb).mono ?_; rintro e w2 ⟨rfl, hR2, hS2⟩; have hn2 := name_any (s := s1.drop 1) hs2 hR2; rw [h2] at hn2)
          | (go_at_call 136; (with_reducible refine hn2.mono ?_); rintro e w3 ⟨rfl, hk⟩))
        exact ⟨rfl, rfl, hS1.kp_trans (hS2.kp_trans hk)⟩
      | some y =>
        obtain ⟨b, s2⟩ := y
        go_enter Tryz.func103, Tryz.ntmps103
        go_wp2_with (first
          | (go_at_call 136; (with_reducible refine hn.mono ?_); rintro e w1 ⟨rfl, hR1, hS1⟩; have hR := hR1; obtain ⟨v, p, u, hA⟩ := hR1; have c1 := hA.c0; have f1 := hA.fz 0)
          | (go_at_call 54; refine (hasPre _ _ true hb _).mono ?_; rintro e w' ⟨rfl, rfl⟩)
          | (go_at_call 55; refine (skip_ok [58] _ hR hb).mono ?_; rintro e w2 ⟨rfl, hR2, hS2⟩; have hn2 := name_any (s := s1.drop 1) hs2 hR2; rw [h2] at hn2)
          | (go_at_call 136; (with_reducible refine hn2.mono ?_); rintro e w3 ⟨rfl, hR3, hS3⟩))
        go_ret2
        exact ⟨rfl, hR3, hS1.trans (hS2.trans hS3)⟩
/-- A remark, if one stands here. -/
def remarkL (s : List UInt8) : Option (Bool × List UInt8) :=
  if ([60, 33, 45, 45] : List UInt8).isPrefixOf s = true then (match untilL [45, 45] (s.drop 4) with
    | none => none
    | some (_, s1) => if ([62] : List UInt8).isPrefixOf s1 = true then some (true, s1.drop 1) else none) else some (false, s)
theorem cut_len {t s : List UInt8} : (Lib.cut s t).1.length ≤ s.length ∧ (Lib.cut s t).2.1.length ≤ s.length := by
  unfold Lib.cut
  split
  · exact ⟨List.length_take_le' _ _, by rw [List.length_drop]; omega⟩
  · exact ⟨Nat.le_refl _, Nat.zero_le _⟩
theorem until_len {t s a s1 : List UInt8} (h : untilL t s = some (a, s1)) : s1.length ≤ s.length ∧ a.length ≤ s.length := by
  unfold untilL at h
  have := @cut_len t s
  split at h
  · simp only [Option.some.injEq, Prod.mk.injEq] at h
    obtain ⟨rfl, rfl⟩ := h
    exact ⟨this.2, this.1⟩
  · cases h
set_option maxRecDepth 100000 in
theorem remark_any (hC : Cx B w) (hs : s.length ≤ 65536) (h : Rd B q s ps t w) :
    Calls Tryz.prog 58 #[.pointer (some ⟨q, 0, none⟩)] w fun e w' => Res B q w ((remarkL s).map fun x => (.bool x.1, x.2, ps, t)) e w' := by
  have hR0 := h
  obtain ⟨v0, p0, u0, hA0⟩ := h
  have c0 := hA0.c0
  have f0 := hA0.fz 0
  unfold remarkL
  cases hb : ([60, 33, 45, 45] : List UInt8).isPrefixOf s with
  | false =>
    rw [if_neg (by simp)]
    go_enter Tryz.func58, Tryz.ntmps58
    go_wp2_with (go_at_call 54; refine (hasPre _ _ false hb _).mono ?_; rintro e w' ⟨rfl, rfl⟩)
    go_ret
    exact ⟨rfl, hR0, St.refl _ _⟩
  | true =>
    rw [if_pos rfl]
    have hs1 : (s.drop 4).length ≤ 65536 := by rw [List.length_drop]; omega
    cases h1 : untilL [45, 45] (s.drop 4) with
    | none =>
      go_enter Tryz.func58, Tryz.ntmps58
      go_wp2_with (first
        | (go_at_call 54; refine (hasPre _ _ true hb _).mono ?_; rintro e w' ⟨rfl, rfl⟩)
        | (go_at_call 55; (with_reducible refine (skip_ok [60, 33, 45, 45] _ hR0 hb).mono ?_); rintro e w2 ⟨rfl, hR2, hS2⟩; have hu := until_any (s := s.drop 4) [45, 45] (hC.kp hR0 hS2.kp) hs1 hR2; rw [h1] at hu)
        | (go_at_call 56; refine hu.mono ?_; rintro e w3 ⟨rfl, hk⟩))
      exact ⟨rfl, rfl, hS2.kp_trans hk⟩
    | some x =>
      obtain ⟨a, s1⟩ := x
      simp only
      cases h2 : ([62] : List UInt8).isPrefixOf s1 with
      | false =>
        rw [if_neg (by simp)]
        go_enter Tryz.func58, Tryz.ntmps58
        go_wp2_with (first
          | (go_at_call 54; refine (hasPre _ _ true hb _).mono ?_; rintro e w' ⟨rfl, rfl⟩)
          | (go_at_call 55; (with_reducible refine (skip_ok [60, 33, 45, 45] _ hR0 hb).mono ?_); rintro e w2 ⟨rfl, hR2, hS2⟩; have hu := until_any (s := s.drop 4) [45, 45] (hC.kp hR0 hS2.kp) hs1 hR2; rw [h1] at hu)
          | (go_at_call 56; refine hu.mono ?_; rintro e w3 ⟨rfl, hR3, hS3⟩)
          | (go_at_call 55; (with_reducible refine (skip_bad [62] _ hR3 h2).mono ?_); rintro e w4 ⟨rfl, hk⟩))
        exact ⟨rfl, rfl, hS2.kp_trans (hS3.kp_trans hk)⟩
      | true =>
        rw [if_pos rfl]
        go_enter Tryz.func58, Tryz.ntmps58
        go_wp2_with (first
          | (go_at_call 54; refine (hasPre _ _ true hb _).mono ?_; rintro e w' ⟨rfl, rfl⟩)
          | (go_at_call 55; (with_reducible refine (skip_ok [60, 33, 45, 45] _ hR0 hb).mono ?_); rintro e w2 ⟨rfl, hR2, hS2⟩; have hu := until_any (s := s.drop 4) [45, 45] (hC.kp hR0 hS2.kp) hs1 hR2; rw [h1] at hu)
          | (go_at_call 56; refine hu.mono ?_; rintro e w3 ⟨rfl, hR3, hS3⟩)
          | (go_at_call 55; (with_reducible refine (skip_ok [62] _ hR3 h2).mono ?_); rintro e w4 ⟨rfl, hR4, hS4⟩))
        go_ret
        exact ⟨rfl, hR4, hS2.trans (hS3.trans hS4)⟩
end
end Go.Proofs.YtpaopeiegaijiaaGreatDoor
