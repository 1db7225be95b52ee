import Derived.Test.YtpaopeiegaijiaaGreatDoorXm
import Derived.Deep.LoopGhost
import Derived.Deep.CutBlock
import Derived.Deep.DeepCutAuto
/- Declared spaces. -/
namespace Go.Proofs.YtpaopeiegaijiaaGreatDoor
open Go.RowKit Go.Shelf Go.Lib Go.Joins Go.Maps Go.Proofs.YtpaopeiegaijiaaGreatDoorW.PrintWords
set_option linter.unusedVariables false
set_option linter.unusedSimpArgs false
def davL : List UInt8 := [68, 65, 86, 58]
def cardL : List UInt8 := [117, 114, 110, 58, 105, 101, 116, 102, 58, 112, 97, 114, 97, 109, 115, 58, 120, 109, 108, 58, 110, 115, 58, 99, 97, 114, 100, 100, 97, 118]
def spaceL (v : List UInt8) : Int := if v = [] then 0 else if v = davL then 1 else if v = cardL then 2 else 3
theorem space_wf (v : List UInt8) : (Lit.int .i64 (spaceL v)).wf = true := by
  unfold spaceL
  repeat' split
  all_goals decide
set_option maxRecDepth 100000 in
theorem space_any (v : List UInt8) (w : World) : Calls Tryz.prog 138 #[strV v] w fun e w' => e = .returned (.int .i64 (spaceL v)) ∧ w' = w := by
  unfold spaceL
  by_cases h1 : v = []
  · subst h1
    go_enter Tryz.func138, Tryz.ntmps138
    go_wp2
    go_ret
    exact ⟨rfl, rfl⟩
  · rw [if_neg h1]
    by_cases h2 : v = davL
    · subst h2
      go_enter Tryz.func138, Tryz.ntmps138
      go_wp2
      go_ret
      exact ⟨rfl, rfl⟩
    · rw [if_neg h2]
      by_cases h3 : v = cardL
      · subst h3
        go_enter Tryz.func138, Tryz.ntmps138
        go_wp2
        go_ret
        exact ⟨rfl, rfl⟩
      · rw [if_neg h3]
        cases v with
        | nil => exact absurd rfl h1
        | cons c r =>
          unfold davL at h2
          unfold cardL at h3
          have h2' := h2
          have h3' := h3
          simp only [List.cons.injEq] at h2' h3'
          go_enter Tryz.func138, Tryz.ntmps138
          go_wp2
          all_goals first
            | (go_ret; exact ⟨rfl, rfl⟩)
            | (exfalso; rename_i hx; simp only [beq_iff_eq] at hx; first | exact h2' hx | exact h3' hx)
def hasLt (v : List UInt8) : Bool := decide (0 ≤ Lib.indexByte v 60)
theorem contains_any (v : List UInt8) (w : World) : Calls Tryz.prog 137 #[strV v, .string ⟨#[60]⟩] w fun e w' => e = .returned (.bool (hasLt v)) ∧ Below w.heap.size w w' := by
  refine (Any.strings_Contains_one Tryz.laysContains ⟨v.toArray⟩ 60 w).mono ?_
  rintro e w' ⟨rfl, hw⟩
  exact ⟨rfl, hw ▸ Below.refl _ _⟩
def xmlnsL : List UInt8 := [120, 109, 108, 110, 115]
/-- A quote stands here? -/
def quoteL : List UInt8 → Bool
  | c :: _ => c == 34 || c == 39
  | [] => false
/-- The prefix that a written name declares. -/
def prefL (p n : List UInt8) : Option (List UInt8) := if p = [] ∧ n = xmlnsL then some [] else if p = xmlnsL then some n else none
/-- A declaration that stands here: its prefix, its space; and behind it. -/
def declStep (s : List UInt8) (M : List UInt8 → Option Int) : Option (List UInt8 × Int × List UInt8) :=
  match writtenL s with
  | none => none
  | some ((p, n), s1) => match prefL p n with
    | none => none
    | some k => if ([61] : List UInt8).isPrefixOf s1 = true then
        (if quoteL (s1.drop 1) = true then (match untilL ((s1.drop 1).take 1) ((s1.drop 1).drop 1) with
          | none => none
          | some (v, s4) => if hasLt v = false ∧ M k = none then some (k, spaceL v, s4) else none) else none) else none
def ups (M : List UInt8 → Option Int) (k : List UInt8) (z : Int) : List UInt8 → Option Int := fun x => if x = k then some z else M x
/-- Declarations, one behind the other. -/
def declL : Nat → List UInt8 → (List UInt8 → Option Int) → Option (List UInt8 × (List UInt8 → Option Int))
  | 0, _, _ => none
  | n + 1, s, M => if (afterBl s).length < s.length ∧ ([47] : List UInt8).isPrefixOf (afterBl s) = false ∧ ([62] : List UInt8).isPrefixOf (afterBl s) = false then
      (match declStep (afterBl s) M with
        | none => none
        | some (k, z, s4) => declL n s4 (ups M k z)) else some (afterBl s, M)
theorem RdAt.grown {B q b : Nat} {s : ByteArray} {ps : List Pc} {t : List UInt8} {v p u : Value} {w w1 w2 : World} (hA : RdAt B q s ps t v p u w1) (hS : St q w w1) (hg : w1.grownBy w2 (some b)) (hb : w.heap.size ≤ b) (hno : ¬ ownOf q w1 b) :
    RdAt B q s ps t v p u w2 ∧ St q w w2 := by
  have key : ∀ k, ownOf q w1 k → k < w1.heap.size → w2.heap[k]? = w1.heap[k]? := fun k hk hlt => hg.block k hlt fun e => hno (by injection e with e; exact e ▸ hk)
  have hq : w2.heap[q]? = w1.heap[q]? := key q (Or.inl rfl) hA.lt
  have hR : RdAt B q s ps t v p u w2 := ⟨hA.low, hq.trans hA.blk, row_kept hA.own fun g hg' => key g ((hA.owns g).2 (.inr (.inl hg'))) (by obtain ⟨_, c, hc⟩ := row_blk hA.own hg'; exact blk_lt hc),
    row_kept hA.txt fun g hg' => key g ((hA.owns g).2 (.inr (.inr hg'))) (by obtain ⟨_, c, hc⟩ := row_blk hA.txt hg'; exact blk_lt hc), hA.adr⟩
  refine ⟨hR, ⟨hg.os.trans hS.kp.os, hg.tape.trans hS.kp.tape, hg.output.trans hS.kp.output, Nat.le_trans hS.kp.size hg.size, fun k hk hn => ?_⟩, fun k hk h1 => hS.own k hk ((hA.owns k).2 ((hR.owns k).1 h1))⟩
  rw [hg.block k (Nat.lt_of_lt_of_le hk hS.kp.size) (fun e => by injection e with e; omega)]
  exact hS.kp.block k hk hn
theorem Sm.st {b n q : Nat} {M : List UInt8 → Option Int} {w w' : World} {B : Nat} {s : List UInt8} {ps : List Pc} {t : List UInt8} (h : Sm b n M w) (hR : Rd B q s ps t w) (hk : Kp (ownOf q w) w w') : Sm b n M w' := by
  obtain ⟨v, p, u, hA⟩ := hR
  exact h.kept (hk.block b h.lt (h.noOwn hA))
theorem Rg.iter {b r n cnt : Nat} {M : List UInt8 → Option Int} {left : List UInt8 → Bool} {w : World} (h : Rg b r n M left cnt w) : ∃ s x c, w.heap[r]? = some (.mapIter (some b) s x c) := by
  obtain ⟨D, lf, ⟨es, clock, since, seen, c0, _, _, _, _, h1, _⟩, _⟩ := h
  exact ⟨_, _, _, h1⟩
theorem Rg.noOwn {b r n cnt q : Nat} {M : List UInt8 → Option Int} {left : List UInt8 → Bool} {w : World} {B : Nat} {s : ByteArray} {ps : List Pc} {t : List UInt8} {v p u : Value} (h : Rg b r n M left cnt w) (hA : RdAt B q s ps t v p u w) : ¬ ownOf q w r := by
  obtain ⟨_, _, _, hb⟩ := h.iter
  intro ho
  rcases (hA.owns r).1 ho with rfl | ho | ho
  · rw [hA.blk] at hb; cases hb
  · obtain ⟨_, c, hc⟩ := row_blk hA.own ho
    rw [hc] at hb; cases hb
  · obtain ⟨_, c, hc⟩ := row_blk hA.txt ho
    rw [hc] at hb; cases hb
theorem Rg.kept {b r n cnt : Nat} {M : List UInt8 → Option Int} {left : List UInt8 → Bool} {w w' : World} {row : Option Nat} (h : Rg b r n M left cnt w) (hg : w.grownBy w' row) (h1 : some b ≠ row) (h2 : some r ≠ row) : Rg b r n M left cnt w' := by
  obtain ⟨D, lf, h3, h4⟩ := h
  exact ⟨D, lf, h3.kept hg h1 h2, h4⟩
/-- The spaces around. -/
def Aro (x : Value) (n : Nat) (A : List UInt8 → Option Int) (w : World) : Prop := (x = .map none ∧ A = fun _ => none) ∨ ∃ b, x = .map (some b) ∧ Sm b n A w
theorem name_lens {s a s1 : List UInt8} (h : nameL s = some (a, s1)) : s1.length < s.length ∧ a.length ≤ s.length := by
  obtain ⟨h1, h2⟩ := name_len h
  rw [h2, List.length_append] at h1 ⊢
  omega
theorem written_lens {s pf nm s1 : List UInt8} (h : writtenL s = some ((pf, nm), s1)) : s1.length < s.length ∧ pf.length ≤ s.length ∧ nm.length ≤ s.length := by
  unfold writtenL at h
  cases h1 : nameL s with
  | none => rw [h1] at h; cases h
  | some x =>
    obtain ⟨a, s2⟩ := x
    rw [h1] at h
    have l1 := name_lens h1
    simp only at h
    split at h
    · cases h2 : nameL (s2.drop 1) with
      | none => rw [h2] at h; cases h
      | some y =>
        obtain ⟨b, s3⟩ := y
        rw [h2] at h
        have l2 := name_lens h2
        rw [List.length_drop] at l2
        simp only [Option.some.injEq, Prod.mk.injEq] at h
        obtain ⟨⟨rfl, rfl⟩, rfl⟩ := h
        omega
    · simp only [Option.some.injEq, Prod.mk.injEq] at h
      obtain ⟨⟨rfl, rfl⟩, rfl⟩ := h
      simp only [List.length_nil]
      omega
theorem pref_len {pf nm k : List UInt8} (h : prefL pf nm = some k) : k.length ≤ nm.length := by
  unfold prefL at h
  split at h
  · cases h; simp
  · split at h
    · cases h; omega
    · cases h
theorem quote_cons {s : List UInt8} (h : quoteL s = true) : ∃ c r, s = c :: r := by
  cases s with
  | nil => cases h
  | cons c r => exact ⟨c, r, rfl⟩
theorem afterBl_le (s : List UInt8) : (afterBl s).length ≤ s.length := (List.dropWhile_sublist _).length_le
section
variable {B q : Nat} {s : List UInt8} {ps : List Pc} {t : List UInt8} {w : World}
set_option maxHeartbeats 4000000 in
set_option maxRecDepth 100000 in
theorem declared_any (hC : Cx B w) (hs : s.length ≤ 65536) (h : Rd B q s ps t w) (x : Value) (nA : Nat) (hnA : nA ≤ 400000) (A : List UInt8 → Option Int) (hA : Aro x nA A w) :
    Calls Tryz.prog 104 #[.pointer (some ⟨q, 0, none⟩), x] w fun e w' => match declL (s.length + 1) s (fun _ => none) with
      | none => e = .panicked [flt] ∧ Kp (ownOf q w) w w'
      | some (s', M) => ∃ b, e = .returned (.map (some b)) ∧ w.heap.size ≤ b ∧ Sm b (nA + (s.length - s'.length)) (fun k => (M k).or (A k)) w' ∧ Rd B q s' ps t w' ∧ St q w w' ∧ s'.length ≤ s.length := by
  obtain ⟨R, hRes⟩ : ∃ R, declL (s.length + 1) s (fun _ => none) = R := ⟨_, rfl⟩
  rw [hRes]
  have hmm := @run_makeMap Tryz.prog
  go_enter Tryz.func104, Tryz.ntmps104
  go_upto_block 0 with (fail)
  obtain ⟨v0, p0, u0, hA0⟩ := h
  have h0 : Rd B q s ps t w := ⟨v0, p0, u0, hA0⟩
  obtain ⟨hA1, hS1⟩ := hA0.kept ((Below.refl w.heap.size w).alloc (Nat.le_refl _) (.map #[] 0))
  have hM1 := sm_made w
  have hlt1 : w.heap.size < (w.alloc (.map #[] 0)).heap.size := by simp
  go_cut [] (fun wc => ∃ (s' : List UInt8) (M : List UInt8 → Option Int) (nM : Nat), Aside0 (R = some (s', M)) ∧ Aside0 (Rd B q s' ps t wc) ∧ Aside0 (St q w wc) ∧ Aside0 (Sm w.heap.size nM M wc) ∧ Aside0 (nM + s'.length ≤ s.length))
  case first =>
    go_wp2_with fail
    go_loopg [6] (s.length + 1) (fun kq v6 wr => ∃ (s1 : List UInt8) (M : List UInt8 → Option Int) (nM : Nat), Aside0 (declL kq s1 M = R) ∧ Aside0 (Rd B q s1 ps t wr) ∧ Aside0 (St q w wr) ∧ Aside0 (Sm w.heap.size nM M wr) ∧ Aside0 (nM + s1.length ≤ s.length) ∧ Aside0 (s1.length < kq))
    case atStart => exact ⟨s, fun _ => none, 0, ⟨hRes⟩, ⟨_, _, _, hA1⟩, ⟨hS1⟩, ⟨hM1⟩, ⟨by omega⟩, ⟨by omega⟩⟩
    case round =>
      obtain ⟨s1, M, nM, HD, HR, HS, HM, HN, HK⟩ := hrel
      cases gk with
      | zero => exact absurd HK.out (by omega)
      | succ k1 =>
        have hD := HD.out
        rw [declL] at hD
        have hR := HR.out
        have hCw : Cx B wr := hC.kp h0 HS.out.kp
        have hs1 : s1.length ≤ 65536 := by have := HN.out; omega
        have hal := afterBl_le s1
        have hbl := blank_any hR
        by_cases hb : (afterBl s1).length < s1.length
        · rw [decide_eq_true hb] at hbl
          go_wp2_with (go_at_call 57; refine hbl.mono ?_)
          rintro e w1 ⟨rfl, hR1, hS1⟩
          have hM1 := HM.out.st hR hS1.kp
          have hS01 := HS.out.trans hS1
          have hR1' := hR1
          obtain ⟨v1, p1, u1, hA1⟩ := hR1'
          have c0 := hA1.c0
          cases hp1 : ([47] : List UInt8).isPrefixOf (afterBl s1) with
          | true =>
            rw [if_neg (fun h => by rw [hp1] at h; cases h.2.1)] at hD
            go_wp2_with (go_at_call 54; refine (hasPre _ _ true hp1 _).mono ?_; rintro e w' ⟨rfl, rfl⟩)
            go_meet
            exact ⟨_, _, _, ⟨hD.symm⟩, ⟨hR1⟩, ⟨hS01⟩, ⟨hM1⟩, ⟨by have := HN.out; omega⟩⟩
          | false =>
            cases hp2 : ([62] : List UInt8).isPrefixOf (afterBl s1) with
            | true =>
              rw [if_neg (fun h => by rw [hp2] at h; cases h.2.2)] at hD
              go_wp2_with (first
                | (go_at_call 54; refine (hasPre _ _ false hp1 _).mono ?_; rintro e w' ⟨rfl, rfl⟩)
                | (go_at_call 54; refine (hasPre _ _ true hp2 _).mono ?_; rintro e w' ⟨rfl, rfl⟩))
              go_meet
              exact ⟨_, _, _, ⟨hD.symm⟩, ⟨hR1⟩, ⟨hS01⟩, ⟨hM1⟩, ⟨by have := HN.out; omega⟩⟩
            | false =>
              rw [if_pos ⟨hb, hp1, hp2⟩] at hD
              have hw := written_any (by omega) hR1
              go_wp2_with (first
                | (go_at_call 54; refine (hasPre _ _ false hp1 _).mono ?_; rintro e w' ⟨rfl, rfl⟩)
                | (go_at_call 54; refine (hasPre _ _ false hp2 _).mono ?_; rintro e w' ⟨rfl, rfl⟩)
                | (go_at_call 103; refine hw.mono ?_))
              intro e w2 hr
              cases hwr : writtenL (afterBl s1) with
              | none =>
                rw [hwr] at hr
                obtain ⟨rfl, hk⟩ := hr
                have hD2 : none = R := by rw [← hD]; unfold declStep; rw [hwr]
                subst hD2
                go_wp2
                exact ⟨rfl, rfl, hS01.kp_trans hk⟩
              | some y =>
                obtain ⟨⟨pf, nm⟩, s2⟩ := y
                rw [hwr] at hr
                change e = Ending.returned (.tuple #[strV pf, strV nm]) ∧ Rd B q s2 ps t w2 ∧ St q _ w2 at hr
                obtain ⟨rfl, hR2, hS2⟩ := hr
                have hS02 := hS01.trans hS2
                have hM2 := hM1.st hR1 hS2.kp
                go_upto_block 2 with (fail)
                go_cut [7] (fun v7 wc => ∃ k : List UInt8, v7 = strV k ∧ Aside0 (prefL pf nm = some k) ∧ Aside0 (w2 = wc))
                case first =>
                  have hD2 : prefL pf nm = none → none = R := fun h => by rw [← hD]; unfold declStep; rw [hwr]; simp only [h]
                  clear hD
                  by_cases e1 : pf = []
                  · subst e1
                    by_cases e2 : nm = xmlnsL
                    · subst e2
                      go_wp2
                      go_meet
                      exact ⟨[], rfl, ⟨by unfold prefL; simp⟩, ⟨rfl⟩⟩
                    · have hD3 := hD2 (by unfold prefL; rw [if_neg (fun h => e2 h.2), if_neg (by decide)])
                      subst hD3
                      unfold xmlnsL at e2
                      go_wp2_with (go_at_call 60; refine (must_bad _ _).mono ?_; rintro e w' ⟨rfl, rfl⟩)
                      all_goals first
                        | exact ⟨rfl, rfl, hS02.kp⟩
                        | (exfalso; rename_i hx; revert hx; simp [e2])
                  · by_cases e2 : pf = xmlnsL
                    · subst e2
                      go_wp2_with (go_at_call 60; refine (must_ok _ _).mono ?_; rintro e w' ⟨rfl, rfl⟩)
                      go_meet
                      exact ⟨nm, rfl, ⟨by unfold prefL; rw [if_neg (fun h => e1 h.1), if_pos rfl]⟩, ⟨rfl⟩⟩
                    · have hD3 := hD2 (by unfold prefL; rw [if_neg (fun h => e1 h.1), if_neg e2])
                      subst hD3
                      unfold xmlnsL at e2
                      have e3 : pf.isEmpty = false := by cases pf with | nil => exact absurd rfl e1 | cons _ _ => rfl
                      have e4 : (pf == [120, 109, 108, 110, 115]) = false := beq_eq_false_iff_ne.2 e2
                      go_wp2_with (go_at_call 60; refine (must_bad _ _).mono ?_; rintro e w' ⟨rfl, rfl⟩)
                      all_goals first
                        | exact ⟨rfl, rfl, hS02.kp⟩
                        | (exfalso; rename_i hx; revert hx; simp [e2])
                case rest =>
                  obtain ⟨k, rfl, HP, HW⟩ := hcut
                  have hwe := HW.out
                  subst hwe
                  have hl1 := written_lens hwr
                  have hk1 := pref_len HP.out
                  have hD2 : (if ([61] : List UInt8).isPrefixOf s2 = true then (if quoteL (s2.drop 1) = true then (match untilL ((s2.drop 1).take 1) ((s2.drop 1).drop 1) with | none => none | some (v, s4) => if hasLt v = false ∧ M k = none then some (k, spaceL v, s4) else none) else none) else none) = declStep (afterBl s1) M := by unfold declStep; rw [hwr]; simp only [HP.out]
                  cases hp3 : ([61] : List UInt8).isPrefixOf s2 with
                  | false =>
                    rw [hp3, if_neg (by simp)] at hD2
                    have hD3 : none = R := by rw [← hD, ← hD2]
                    subst hD3
                    go_wp2_with (go_at_call 55; refine (skip_bad [61] _ hR2 hp3).mono ?_; rintro e w3 ⟨rfl, hk⟩)
                    exact ⟨rfl, rfl, hS02.kp_trans hk⟩
                  | true =>
                    rw [hp3, if_pos rfl] at hD2
                    go_upto_region 8 with (go_at_call 55; refine (skip_ok [61] _ hR2 hp3).mono ?_; rintro e w3 ⟨rfl, hR3, hS3⟩)
                    have hS03 := hS02.trans hS3
                    have hM3 := hM2.st hR2 hS3.kp
                    change Rd B q (s2.drop 1) ps t w3 at hR3
                    obtain ⟨s3, hs3⟩ : ∃ s3, s2.drop 1 = s3 := ⟨_, rfl⟩
                    rw [hs3] at hR3 hD2
                    have hl3 : s3.length ≤ s2.length := by rw [← hs3, List.length_drop]; omega
                    have hE : (match (if quoteL s3 = true then (match untilL (s3.take 1) (s3.drop 1) with | none => none | some (v, s4) => if hasLt v = false ∧ M k = none then some (k, spaceL v, s4) else none) else none) with | none => none | some (k, z, s4) => declL k1 s4 (ups M k z)) = R := by rw [hD2]; exact hD
                    clear hD hD2
                    go_cut [] (fun wc => Aside0 (quoteL s3 = true) ∧ Aside0 (w3 = wc))
                    case first =>
                      obtain ⟨v3, p3, u3, hA3⟩ := hR3
                      have c0 := hA3.c0
                      cases s3 with
                      | nil =>
                        have hD3 : none = R := hE
                        subst hD3
                        go_wp2_with (go_at_call 60; refine (must_bad _ _).mono ?_; rintro e w' ⟨rfl, rfl⟩)
                        exact ⟨rfl, rfl, hS03.kp⟩
                      | cons c r =>
                        have hz : ((⟨(c :: r).toArray⟩ : ByteArray)[0]'(by simp [ByteArray.size])) = c := rfl
                        by_cases e1 : c = 34
                        · subst e1
                          go_wp2_with (go_at_call 60; refine (must_ok _ _).mono ?_; rintro e w' ⟨rfl, rfl⟩)
                          go_meet
                          exact ⟨⟨rfl⟩, ⟨rfl⟩⟩
                        · by_cases e2 : c = 39
                          · subst e2
                            go_wp2_with (go_at_call 60; refine (must_ok _ _).mono ?_; rintro e w' ⟨rfl, rfl⟩)
                            go_meet
                            exact ⟨⟨rfl⟩, ⟨rfl⟩⟩
                          · have hD3 : none = R := by rw [if_neg (by simp [quoteL, e1, e2])] at hE; exact hE
                            subst hD3
                            have q1 : ((c.toNat : Int) == 34) = false := beq_eq_false_iff_ne.2 fun h => e1 (UInt8.toNat_inj.1 (by show c.toNat = 34; omega))
                            have q2 : ((c.toNat : Int) == 39) = false := beq_eq_false_iff_ne.2 fun h => e2 (UInt8.toNat_inj.1 (by show c.toNat = 39; omega))
                            go_wp2_with (go_at_call 60; refine (must_bad _ _).mono ?_; rintro e w' ⟨rfl, rfl⟩)
                            exact ⟨rfl, rfl, hS03.kp⟩
                    case rest =>
                      obtain ⟨HQ, HW3⟩ := hcut
                      have hwe := HW3.out
                      subst hwe
                      obtain ⟨c, r, rfl⟩ := quote_cons HQ.out
                      rw [HQ.out, if_pos rfl] at hE
                      change (match (match untilL [c] r with | none => none | some (v, s4) => if hasLt v = false ∧ M k = none then some (k, spaceL v, s4) else none) with | none => none | some (k, z, s4) => declL k1 s4 (ups M k z)) = R at hE
                      have hpc : ([c] : List UInt8).isPrefixOf (c :: r) = true := by simp [List.isPrefixOf]
                      have hCw3 : Cx B w3 := hC.kp h0 hS03.kp
                      simp only [List.length_cons] at hl3
                      have hr : r.length ≤ 65536 := by omega
                      have hR3' := hR3
                      obtain ⟨v3, p3, u3, hA3⟩ := hR3'
                      have c0 := hA3.c0
                      go_upto_region 9 with (fail)
                      go_cut [8] (fun v8 wc => v8 = strV [c] ∧ Aside0 (w3 = wc))
                      case first =>
                        go_wp2
                        go_meet
                        exact ⟨by rw [strV, ext_l]; rfl, ⟨rfl⟩⟩
                      case rest =>
                        obtain ⟨rfl, HW4⟩ := hcut
                        have hwe := HW4.out
                        subst hwe
                        go_wp2_with (first
                          | (go_at_call 55; refine (skip_ok [c] _ hR3 hpc).mono ?_; rintro e w4 ⟨rfl, hR4, hS4⟩; have hCw4 := hCw3.kp hR3 hS4.kp)
                          | (go_at_call 56; refine (until_any (s := r) [c] hCw4 hr hR4).mono ?_))
                        intro e w5 hu5
                        have hS04 := hS03.trans hS4
                        have hM4 := hM3.st hR3 hS4.kp
                        cases hu : untilL [c] r with
                        | none =>
                          rw [hu] at hu5 hE
                          obtain ⟨rfl, hk⟩ := hu5
                          have hD3 : none = R := hE
                          subst hD3
                          go_wp2
                          exact ⟨rfl, rfl, hS04.kp_trans hk⟩
                        | some y =>
                          obtain ⟨vv, s4⟩ := y
                          have hl4 := until_len hu
                          rw [hu] at hu5 hE
                          change e = Ending.returned (strV vv) ∧ Rd B q s4 ps t w5 ∧ St q w4 w5 at hu5
                          obtain ⟨rfl, hR5, hS5⟩ := hu5
                          have hS05 := hS04.trans hS5
                          have hM5 := hM4.st hR4 hS5.kp
                          have hkl : k.length ≤ 1000000 := by omega
                          change (match (if hasLt vv = false ∧ M k = none then some (k, spaceL vv, s4) else none) with | none => none | some (k, z, s4) => declL k1 s4 (ups M k z)) = R at hE
                          have hct := contains_any vv w5
                          obtain ⟨v5, p5, u5, hA5⟩ := hR5
                          cases hlt : hasLt vv with
                          | true =>
                            rw [hlt] at hct hE
                            have hD3 : none = R := hE
                            subst hD3
                            go_wp2_with (first
                              | (at_lookup; refine sm_lookup _ rfl _ _ rfl w.heap.size nM M k rfl hM5 rfl hkl ?_)
                              | (go_at_call 137; refine hct.mono ?_; rintro e w6 ⟨rfl, hb6⟩; obtain ⟨hA6, hS6⟩ := hA5.kept hb6)
                              | (go_at_call 60; refine (must_bad _ _).mono ?_; rintro e w' ⟨rfl, rfl⟩))
                            exact ⟨rfl, rfl, (hS05.trans hS6).kp⟩
                          | false =>
                            rw [hlt] at hct
                            cases hMk : M k with
                            | some z =>
                              have hD3 : none = R := by rw [if_neg (fun h => by rw [hMk] at h; cases h.2)] at hE; exact hE
                              subst hD3
                              go_wp2_with (first
                                | (at_lookup; refine sm_lookup _ rfl _ _ rfl w.heap.size nM M k rfl hM5 rfl hkl ?_; rw [hMk])
                                | (go_at_call 137; refine hct.mono ?_; rintro e w6 ⟨rfl, hb6⟩; obtain ⟨hA6, hS6⟩ := hA5.kept hb6)
                                | (go_at_call 60; refine (must_bad _ _).mono ?_; rintro e w' ⟨rfl, rfl⟩))
                              exact ⟨rfl, rfl, (hS05.trans hS6).kp⟩
                            | none =>
                              rw [if_pos ⟨hlt, hMk⟩] at hE
                              change declL k1 s4 (ups M k (spaceL vv)) = R at hE
                              have hnM : nM < 1000000 := by have := HN.out; omega
                              go_wp2_with (first
                                | (at_lookup; refine sm_lookup _ rfl _ _ rfl w.heap.size nM M k rfl hM5 rfl hkl ?_; rw [hMk])
                                | (go_at_call 137; refine hct.mono ?_; rintro e w6 ⟨rfl, hb6⟩; obtain ⟨hA6, hS6⟩ := hA5.kept hb6; have hM6 := hM5.kept (hb6.block _ hM5.lt))
                                | (go_at_call 60; refine (must_ok _ _).mono ?_; rintro e w' ⟨rfl, rfl⟩)
                                | (go_at_call 138; refine (space_any vv _).mono ?_; rintro e w' ⟨rfl, rfl⟩)
                                | (at_mapUpdate; refine sm_update _ rfl _ _ _ rfl w.heap.size nM M k (spaceL vv) rfl hM6 hnM rfl hkl rfl (space_wf vv) ?_; intro w7 hM7 hg7; go_frame))
                              obtain ⟨hA7, hS07⟩ := hA6.grown (hS05.trans hS6) hg7 (Nat.le_refl _) (hM6.noOwn hA6)
                              go_roundg k1
                              case measure => omega
                              case rel => exact ⟨s4, ups M k (spaceL vv), nM + 1, ⟨hE⟩, ⟨_, _, _, hA7⟩, ⟨hS07⟩, ⟨hM7⟩, ⟨by have := HN.out; omega⟩, ⟨by have := HK.out; omega⟩⟩
        · rw [decide_eq_false hb] at hbl
          rw [if_neg (fun h => hb h.1)] at hD
          go_wp2_with (go_at_call 57; refine hbl.mono ?_)
          rintro e w1 ⟨rfl, hR1, hS1⟩
          go_wp2
          go_meet
          exact ⟨_, _, _, ⟨hD.symm⟩, ⟨hR1⟩, ⟨HS.out.trans hS1⟩, ⟨HM.out.st hR hS1.kp⟩, ⟨by have := HN.out; omega⟩⟩
  case rest =>
    obtain ⟨s', M, nM, HRe, HR, HS, HM, HN⟩ := hcut
    have hRe := HRe.out
    subst hRe
    have hln : s'.length ≤ s.length := by have := HN.out; omega
    rcases hA with ⟨rfl, rfl⟩ | ⟨b, rfl, hA⟩
    · have hrg := run_range_nilMap (P := Tryz.prog) wc 162 9 22 Tryz.underlying162
      have hnx : ∀ ty, (Instr.next (.pointer (some ⟨wc.heap.size, 0, none⟩)) false ty).run Tryz.prog (wc.alloc (.mapIter none 0 #[] 0)) = _ := fun ty => run_next_nilMap _ ty 0 0 #[]
      obtain ⟨v1, p1, u1, hA1'⟩ := HR.out
      obtain ⟨hA2, hS2⟩ := hA1'.kept ((Below.refl wc.heap.size wc).alloc (Nat.le_refl _) (.mapIter none 0 #[] 0))
      go_wp2
      refine wp_loop_rounds 1 ?_
      rw [rounds_succ]
      go_wp2
      go_ret
      have hfin : Sm w.heap.size (nA + (s.length - s'.length)) M (wc.alloc (.mapIter none 0 #[] 0)) := by
        obtain ⟨D, h1, h2⟩ := HM.out.kept ((Below.refl wc.heap.size wc).alloc (Nat.le_refl _) (.mapIter none 0 #[] 0) |>.block _ HM.out.lt)
        exact ⟨D, h1.mono (by have := HN.out; omega), h2⟩
      refine ⟨_, rfl, Nat.le_refl _, ?_, ⟨_, _, _, hA2⟩, ?_⟩
      · simpa using hfin
      · first | exact HS.out.trans hS2 | exact ⟨HS.out.trans hS2, hln⟩
    · have hAc := hA.st h0 HS.out.kp
      go_wp2_with (first
        | (at_range; refine sm_range _ rfl _ rfl b nA A rfl hAc ?_; intro w0 cnt0 hrg0 hcn0 hg0 hs0)
        | go_in)
      have hb : b < wc.heap.size := hAc.lt
      have hbo : b ≠ w.heap.size := fun e => by have := hA.lt; omega
      have hM0 : Sm w.heap.size nM M w0 := HM.out.kept (hg0.block _ HM.out.lt (by simp))
      obtain ⟨v1, p1, u1, hA1'⟩ := HR.out
      obtain ⟨hA2, hS2⟩ := hA1'.kept (w' := w0) ⟨hg0.os, hg0.tape, hg0.output, hg0.size, fun k hk => hg0.block k hk (by simp)⟩
      have hr0 : w.heap.size ≤ wc.heap.size := HS.out.kp.size
      have hro : wc.heap.size ≠ w.heap.size := fun e => by have := HM.out.lt; omega
      have hS20 := HS.out.trans hS2
      go_loopg [12] nA (fun kq v12 wr => ∃ (left : List UInt8 → Bool) (cnt no : Nat) (Mo : List UInt8 → Option Int), Aside0 (Rg b wc.heap.size nA A left cnt wr) ∧ Aside0 (cnt ≤ kq ∧ no + cnt ≤ nM + nA) ∧ Aside0 (Sm w.heap.size no Mo wr) ∧
        Aside0 (∀ k, Mo k = (M k).or (if left k = true then none else A k)) ∧ Aside0 (Rd B q s' ps t wr) ∧ Aside0 (St q w wr))
      case atStart =>
        refine ⟨_, cnt0, nM, M, ⟨hrg0⟩, ⟨hcn0, by omega⟩, ⟨hM0⟩, ⟨fun k => ?_⟩, ⟨_, _, _, hA2⟩, ⟨hS20⟩⟩
        cases M k <;> cases h : A k <;> simp
      case round =>
        obtain ⟨left, cnt, no, Mo, Hrg, Hcn, HMo, HAg, HRr, HSr⟩ := hrel
        have hrg := Hrg.out
        obtain ⟨vr, pr, ur, hAr⟩ := HRr.out
        go_wp2_with (first
          | (at_next; refine sm_next _ rfl _ rfl b wc.heap.size nA A left cnt rfl hrg ?_ ?_)
          | go_in)
        · intro hl0
          have hfin : Sm w.heap.size (nA + (s.length - s'.length)) (fun k => (M k).or (A k)) wr := by
            have he : Mo = fun k => (M k).or (A k) := funext fun k => by rw [HAg.out k, hl0 k]; rfl
            rw [← he]
            obtain ⟨D, h1, h2⟩ := HMo.out
            exact ⟨D, h1.mono (by have := Hcn.out; have := HN.out; omega), h2⟩
          go_wp2
          go_ret
          refine ⟨_, rfl, Nat.le_refl _, ?_, HRr.out, ?_⟩
          · simpa using hfin
          · have hln : s'.length ≤ s.length := by omega
            first | exact HSr.out | exact ⟨HSr.out, hln⟩
        · intro xk z w1 cnt1 hxl hAx hlx hrg1 hlt hg1 hs1 hen
          have hno := hrg.noOwn hAr
          obtain ⟨hA3, hS3⟩ := hAr.grown HSr.out hg1 hr0 hno
          have hM3 : Sm w.heap.size no Mo w1 := HMo.out.kept (hg1.block _ HMo.out.lt (fun e => hro (Option.some.inj e).symm))
          obtain ⟨k1, hk1⟩ : ∃ k1, gk = k1 + 1 := ⟨gk - 1, by have := Hcn.out; omega⟩
          have hzw : (Lit.int .i64 z).wf = true := by
            obtain ⟨_, _, _, _, h5⟩ := hA
            exact (h5 _ _ hAx).1
          cases hMk : Mo xk with
          | some y =>
            go_wp2_with (first
              | (at_lookup; refine sm_lookup _ rfl _ _ rfl w.heap.size no Mo xk rfl hM3 rfl hxl ?_; rw [hMk])
              | go_in)
            subst hk1
            go_roundg k1
            case measure => omega
            case rel =>
              refine ⟨_, cnt1, no, Mo, ⟨hrg1⟩, ⟨by have := Hcn.out; omega, by have := Hcn.out; omega⟩, ⟨hM3⟩, ⟨fun k => ?_⟩, ⟨_, _, _, hA3⟩, ⟨hS3⟩⟩
              by_cases e : k = xk
              · subst e
                have h1 := HAg.out k
                rw [hlx] at h1
                simp only [if_true, Option.or_none] at h1
                rw [← h1, hMk]
                simp
              · rw [HAg.out k, decide_eq_false e]
                simp
          | none =>
            have hno2 : no < 1000000 := by have := Hcn.out; have := HN.out; omega
            go_wp2_with (first
              | (at_lookup; refine sm_lookup _ rfl _ _ rfl w.heap.size no Mo xk rfl hM3 rfl hxl ?_; rw [hMk])
              | (at_mapUpdate; refine sm_update _ rfl _ _ _ rfl w.heap.size no Mo xk z rfl hM3 hno2 rfl hxl rfl hzw ?_; intro w2 hM4 hg2; go_frame)
              | go_in)
            subst hk1
            obtain ⟨hA4, hS4⟩ := hA3.grown hS3 hg2 (Nat.le_refl _) (hM3.noOwn hA3)
            have hrg2 := hrg1.kept hg2 (fun e => hbo (Option.some.inj e)) (fun e => hro (Option.some.inj e))
            go_roundg k1
            case measure => omega
            case rel =>
              refine ⟨_, cnt1, no + 1, _, ⟨hrg2⟩, ⟨by have := Hcn.out; omega, by have := Hcn.out; omega⟩, ⟨hM4⟩, ⟨fun k => ?_⟩, ⟨_, _, _, hA4⟩, ⟨hS4⟩⟩
              by_cases e : k = xk
              · subst e
                have h1 := HAg.out k
                rw [hlx] at h1
                simp only [if_true, Option.or_none] at h1
                rw [if_pos rfl, ← h1, hMk, hAx]
                simp
              · rw [if_neg e, HAg.out k, decide_eq_false e]
                simp
end
end Go.Proofs.YtpaopeiegaijiaaGreatDoor
