import Derived.Test.YtpaopeiegaijiaaGreatDoorXg
import Derived.Defers
import Derived.Recover
import Derived.Laws.Pointers
/- Parse: what it answers. -/
namespace Go.Proofs.YtpaopeiegaijiaaGreatDoor
open Go.RowKit Go.Shelf Go.Lib Go.Joins Go.Proofs.YtpaopeiegaijiaaGreatDoorW.PrintWords
set_option linter.unusedVariables false
set_option linter.unusedSimpArgs false
set_option maxRecDepth 100000 in
theorem catch_idle (p e : Addr) (w : World) :
    CallsD Tryz.prog 53 #[.pointer (some p), .pointer (some e)] .returning w fun e u' w' => e = .returned (.tuple #[]) ∧ u' = .returning ∧ w' = w := by
  refine callsD_of_wpS Tryz.func53 rfl fun c₀ cs hu => ?_
  apply wpS_seq
  apply wpS_region
  simp [wpOpsS, go_sem, recoverD, hu, Tryz.ntmps53, Exit.thenS]
  apply wpS_seq
  apply wpS_region
  simp [wpOpsS, go_sem, recoverD, hu, Tryz.ntmps53, Exit.thenS]
  refine wpS_cond (t := false) (by simp [Act.eval, Array.replicate]) ?_
  simp only [Bool.false_eq_true, if_false]
  refine wpS_of_wp (wp_skip ?_)
  cases c₀
  simp_all [bodyPostS, results, Tryz.results53]
set_option maxRecDepth 100000 in
theorem catch_flt (bp be T1 T2 : Nat) (w : World) (x y : Value) (hp : w.heap[bp]? = some (.cells #[x] T1 (0, 0))) (he : w.heap[be]? = some (.cells #[y] T2 (0, 0))) (hne : bp ≠ be) :
    CallsD Tryz.prog 53 #[.pointer (some ⟨bp, 0, none⟩), .pointer (some ⟨be, 0, none⟩)] (.panicking [flt]) w fun r u' w' =>
      r = .returned (.tuple #[]) ∧ u' = .panicking [{ flt with recovered := true }] ∧ w' = ((w.alloc (.cells #[] 107)).setCell ⟨bp, 0, none⟩ (.slice none 0 0)).setCell ⟨be, 0, none⟩ (.int .i64 70) := by
  have hp1 : (w.alloc (.cells #[] 107)).heap[bp]? = some (.cells #[x] T1 (0, 0)) := (((Below.refl w.heap.size w).alloc (Nat.le_refl _) _).block bp (blk_lt hp)).trans hp
  have he1 : (w.alloc (.cells #[] 107)).heap[be]? = some (.cells #[y] T2 (0, 0)) := (((Below.refl w.heap.size w).alloc (Nat.le_refl _) _).block be (blk_lt he)).trans he
  have he2 : ((w.alloc (.cells #[] 107)).setCell ⟨bp, 0, none⟩ (.slice none 0 0)).heap[be]? = some (.cells #[y] T2 (0, 0)) := (set_other _ _ (Ne.symm hne)).trans he1
  have c1 : (w.alloc (.cells #[] 107)).cell? ⟨bp, 0, none⟩ = some x := by rw [Lib.cell_of_heap hp1]; rfl
  have f1 : (w.alloc (.cells #[] 107)).frozen? ⟨bp, 0, none⟩ = false := Lib.frozen_of_heap hp1 0
  have c2 : ((w.alloc (.cells #[] 107)).setCell ⟨bp, 0, none⟩ (.slice none 0 0)).cell? ⟨be, 0, none⟩ = some y := by rw [Lib.cell_of_heap he2]; rfl
  have f2 : ((w.alloc (.cells #[] 107)).setCell ⟨bp, 0, none⟩ (.slice none 0 0)).frozen? ⟨be, 0, none⟩ = false := Lib.frozen_of_heap he2 0
  clear hp1 he1 he2 hp he
  refine callsD_of_wpS Tryz.func53 rfl fun c₀ cs hu => ?_
  apply wpS_seq
  apply wpS_region
  simp [wpOpsS, go_sem, recoverD, hu, Tryz.ntmps53, Exit.thenS, flt]
  apply wpS_seq
  apply wpS_region
  simp [wpOpsS, go_sem, recoverD, hu, Tryz.ntmps53, Exit.thenS]
  refine wpS_of_wp ?_
  have hta : (Instr.typeAssert (.iface 107 (.agg #[])) 20 107 true).run Tryz.prog w = .ok (.tuple #[.agg #[], .bool true]) w := by first | rfl | kernel_rfl
  simp only [Array.replicate_succ, Array.replicate_zero, List.push_toArray, List.append_toArray, List.nil_append, List.cons_append, List.setIfInBounds_toArray, List.set_cons_zero, List.set_cons_succ]
  go_wp2
  simp [bodyPostS, results, Tryz.results53]
theorem remark_lt {s s' : List UInt8} (h : remarkL s = some (true, s')) : s'.length < s.length := by
  unfold remarkL at h
  split at h
  · rename_i hp
    have h4 := (List.isPrefixOf_iff_prefix.1 hp).length_le
    simp only [List.length_cons, List.length_nil] at h4
    split at h
    · cases h
    · rename_i a s1 hu
      have := until_len hu
      have h5 : (s.drop 4).length = s.length - 4 := List.length_drop
      split at h
      · simp only [Option.some.injEq, Prod.mk.injEq] at h
        obtain ⟨_, rfl⟩ := h
        rw [List.length_drop]; omega
      · cases h
  · simp at h
/-- Past blanks and remarks. -/
def miscL : Nat → List UInt8 → Option (Option (List UInt8))
  | 0, _ => none
  | k + 1, s => if (afterBl s).length < s.length then miscL k (afterBl s) else match remarkL (afterBl s) with
    | none => some none
    | some (true, s1) => miscL k s1
    | some (false, s1) => some (some s1)
/-- A document; `none`: the fuel is too small, or numbers stand in it. -/
def docL (k : Nat) (s : List UInt8) : Option (Option (List Pc)) :=
  match (if ([60, 63, 120, 109, 108] : List UInt8).isPrefixOf s = true then (match untilL [63, 62] (s.drop 5) with | none => none | some (_, s1) => some s1) else some s) with
  | none => some none
  | some s0 => match miscL (s0.length + 1) s0 with
    | none => none
    | some none => some none
    | some (some s1) => match elemF (bodyL k) 0 (fun _ => none) s1 [] [] with
      | none => none
      | some none => some none
      | some (some (s2, ps, _)) => match miscL (s2.length + 1) s2 with
        | none => none
        | some none => some none
        | some (some s3) => if s3 = [] then some (some ps) else some none
def parseL (k : Nat) (s : List UInt8) : Option (Int × List Pc) :=
  if 65536 < s.length then some (11, []) else if validB ⟨s.toArray⟩ = false then some (10, []) else match docL k s with
    | none => none
    | some none => some (70, [])
    | some (some ps) => some (0, ps)
/-- How Parse ends. -/
def ResP (w : World) (r : Int × List Pc) (e : Ending) (w' : World) : Prop :=
  ∃ v, e = .returned (.tuple #[v, .int .i64 r.1]) ∧ w'.ownsRow w.heap.size 60 4 v r.2.length (pcs r.2) ∧ Below w.heap.size w w'
theorem nil_row (B : Nat) (w : World) : w.ownsRow B 60 4 (.slice none 0 0) 0 (pcs []) := ⟨rfl, .inl ⟨rfl, rfl⟩⟩
theorem set_self {w : World} {b T : Nat} {y : Value} (v : Value) (h : w.heap[b]? = some (.cells #[y] T (0, 0))) : (w.setCell ⟨b, 0, none⟩ v).heap[b]? = some (.cells #[v] T (0, 0)) := by simp [World.setCell, Array.getElem?_modify, h]
set_option maxRecDepth 100000 in
theorem leave_flt (bp be : Nat) (w0 w : World) (x y : Value) (tmps : Array Value) (hp : w.heap[bp]? = some (.cells #[x] 48 (0, 0))) (he : w.heap[be]? = some (.cells #[y] 31 (0, 0))) (hne : bp ≠ be)
    (h2 : tmps[2]? = some (.pointer (some ⟨bp, 0, none⟩))) (h3 : tmps[3]? = some (.pointer (some ⟨be, 0, none⟩))) (hb0 : w0.heap.size ≤ bp) (hb1 : w0.heap.size ≤ be) (hb : Below w0.heap.size w0 w) :
    Leaves Tryz.prog Tryz.f25 tmps (fun e w' => ResP w0 (70, []) e w') [{ target := .fn (Fn.func 53) #[.pointer (some ⟨bp, 0, none⟩), .pointer (some ⟨be, 0, none⟩)], args := #[] }] (.panicking [flt]) w := by
  refine leaves_cons (f := 53) (args := #[.pointer (some ⟨bp, 0, none⟩), .pointer (some ⟨be, 0, none⟩)]) (by simp) (by simp [go_sem]) ?_
  refine (catch_flt bp be _ _ w x y hp he hne).mono ?_
  rintro e u' w' ⟨rfl, rfl, rfl⟩
  have hp1 : (w.alloc (.cells #[] 107)).heap[bp]? = some (.cells #[x] 48 (0, 0)) := (((Below.refl w.heap.size w).alloc (Nat.le_refl _) _).block bp (blk_lt hp)).trans hp
  have he1 : (w.alloc (.cells #[] 107)).heap[be]? = some (.cells #[y] 31 (0, 0)) := (((Below.refl w.heap.size w).alloc (Nat.le_refl _) _).block be (blk_lt he)).trans he
  have hp2 : ((w.alloc (.cells #[] 107)).setCell ⟨bp, 0, none⟩ (.slice none 0 0)).heap[bp]? = some (.cells #[.slice none 0 0] 48 (0, 0)) := set_self _ hp1
  have he2 : ((w.alloc (.cells #[] 107)).setCell ⟨bp, 0, none⟩ (.slice none 0 0)).heap[be]? = some (.cells #[y] 31 (0, 0)) := (set_other _ _ (Ne.symm hne)).trans he1
  have hp3 : (((w.alloc (.cells #[] 107)).setCell ⟨bp, 0, none⟩ (.slice none 0 0)).setCell ⟨be, 0, none⟩ (.int .i64 70)).heap[bp]? = some (.cells #[.slice none 0 0] 48 (0, 0)) := (set_other _ _ hne).trans hp2
  have he3 : (((w.alloc (.cells #[] 107)).setCell ⟨bp, 0, none⟩ (.slice none 0 0)).setCell ⟨be, 0, none⟩ (.int .i64 70)).heap[be]? = some (.cells #[.int .i64 70] 31 (0, 0)) := set_self _ he2
  have c1 : (((w.alloc (.cells #[] 107)).setCell ⟨bp, 0, none⟩ (.slice none 0 0)).setCell ⟨be, 0, none⟩ (.int .i64 70)).cell? ⟨bp, 0, none⟩ = some (.slice none 0 0) := by rw [Lib.cell_of_heap hp3]; rfl
  have c2 : (((w.alloc (.cells #[] 107)).setCell ⟨bp, 0, none⟩ (.slice none 0 0)).setCell ⟨be, 0, none⟩ (.int .i64 70)).cell? ⟨be, 0, none⟩ = some (.int .i64 70) := by rw [Lib.cell_of_heap he3]; rfl
  have hbb : Below w0.heap.size w0 (((w.alloc (.cells #[] 107)).setCell ⟨bp, 0, none⟩ (.slice none 0 0)).setCell ⟨be, 0, none⟩ (.int .i64 70)) := ((hb.alloc hb.size _).setCell hb0 _).setCell hb1 _
  generalize (((w.alloc (.cells #[] 107)).setCell ⟨bp, 0, none⟩ (.slice none 0 0)).setCell ⟨be, 0, none⟩ (.int .i64 70)) = W at *
  refine ⟨.tuple #[.slice none 0 0, .int .i64 70], ?_, .slice none 0 0, rfl, nil_row _ _, hbb⟩
  simp [results, Tryz.results25, go_sem, h2, h3, c1, c2]
set_option maxHeartbeats 4000000 in
set_option maxRecDepth 100000 in
theorem parse_any (k : Nat) (s : List UInt8) (w : World) (hL : LaidM w) (hs : s.length ≤ 9223372036854775807) (R : Int × List Pc) (hR : parseL k s = some R) :
    Calls Tryz.prog 25 #[strV s] w fun e w' => ResP w R e w' := by
  have hmf : ∀ (fn : Fn) (first cap : Array Value) (w : World), (Instr.makeFunc fn first cap).run Tryz.prog w = .ok (.func fn first cap) w := fun _ _ _ _ => rfl
  unfold parseL at hR
  have hsz := sz_l s
  by_cases h1 : 65536 < s.length
  · rw [if_pos h1] at hR
    have h : ((11 : Int), ([] : List Pc)) = R := by injection hR
    subst h
    have h1' : (65536 : Int) < (s.length : Int) := by omega
    have hp0 : ((w.alloc (.cells #[.slice none 0 0] 48)).alloc (.cells #[.int .i64 11] 31)).heap[w.heap.size]? = some (.cells #[.slice none 0 0] 48 (0, 0)) :=
      (((Below.refl _ (w.alloc (.cells #[.slice none 0 0] 48))).alloc (Nat.le_refl _) _).block _ (by simp)).trans (heap_alloc_new w _)
    have he0 : ((w.alloc (.cells #[.slice none 0 0] 48)).alloc (.cells #[.int .i64 11] 31)).heap[w.heap.size + 1]? = some (.cells #[.int .i64 11] 31 (0, 0)) := by
      have h := heap_alloc_new (w.alloc (.cells #[.slice none 0 0] 48)) (.cells #[.int .i64 11] 31)
      simpa using h
    have d0 : ((w.alloc (.cells #[.slice none 0 0] 48)).alloc (.cells #[.int .i64 11] 31)).cell? ⟨w.heap.size, 0, none⟩ = some (.slice none 0 0) := by rw [Lib.cell_of_heap hp0]; rfl
    have d1 : ((w.alloc (.cells #[.slice none 0 0] 48)).alloc (.cells #[.int .i64 11] 31)).cell? ⟨w.heap.size + 1, 0, none⟩ = some (.int .i64 11) := by rw [Lib.cell_of_heap he0]; rfl
    clear hp0 he0
    go_enter_defers Tryz.func25, Tryz.ntmps25
    go_wp2
    refine ⟨.tuple #[.slice none 0 0, .int .i64 11], ?_, .slice none 0 0, rfl, nil_row _ _, ((Below.refl w.heap.size w).alloc (Nat.le_refl _) _).alloc (by simp) _⟩
    simp [results, Tryz.results25, go_sem, d0, d1]
  · rw [if_neg h1] at hR
    have h1' : ¬ (65536 : Int) < (s.length : Int) := by omega
    have hva := fun W hT => valid_any ⟨s.toArray⟩ W hT (by rw [sz_l]; exact hs)
    cases hv : validB ⟨s.toArray⟩ with
    | false =>
      rw [hv, if_pos rfl] at hR
      rw [hv] at hva
      have h : ((10 : Int), ([] : List Pc)) = R := by injection hR
      subst h
      go_enter_defers Tryz.func25, Tryz.ntmps25
      go_upto_region 4 with (go_at_call 52; refine (hva _ (hL.below ?hb)).mono ?_; (case hb => exact ((Below.refl _ _).alloc (Nat.le_refl _) _).alloc (by simp) _); rintro e w1 ⟨rfl, hb1⟩)
      have hsz1 : w.heap.size + 2 ≤ w1.heap.size := by have := hb1.size; simp at this; omega
      have hbw1 : Below w.heap.size w w1 := (((Below.refl w.heap.size w).alloc (Nat.le_refl _) (.cells #[.slice none 0 0] 48)).alloc (by simp) (.cells #[.int .i64 0] 31)).trans (hb1.mono (by simp; omega))
      have hp0 : ((w.alloc (.cells #[.slice none 0 0] 48)).alloc (.cells #[.int .i64 0] 31)).heap[w.heap.size]? = some (.cells #[.slice none 0 0] 48 (0, 0)) :=
        (((Below.refl _ (w.alloc (.cells #[.slice none 0 0] 48))).alloc (Nat.le_refl _) _).block _ (by simp)).trans (heap_alloc_new w _)
      have he0 : ((w.alloc (.cells #[.slice none 0 0] 48)).alloc (.cells #[.int .i64 0] 31)).heap[w.heap.size + 1]? = some (.cells #[.int .i64 0] 31 (0, 0)) := by
        have h := heap_alloc_new (w.alloc (.cells #[.slice none 0 0] 48)) (.cells #[.int .i64 0] 31)
        simpa using h
      have hp3 := (hb1.block _ (by simp; omega)).trans hp0
      have he3 := (hb1.block _ (by simp)).trans he0
      have d0 : w1.cell? ⟨w.heap.size, 0, none⟩ = some (.slice none 0 0) := by rw [Lib.cell_of_heap hp3]; rfl
      have f0 : w1.frozen? ⟨w.heap.size, 0, none⟩ = false := Lib.frozen_of_heap hp3 0
      have he4 : (w1.setCell ⟨w.heap.size, 0, none⟩ (.slice none 0 0)).heap[w.heap.size + 1]? = some (.cells #[.int .i64 0] 31 (0, 0)) := (set_other _ _ (by omega)).trans he3
      have d1 : (w1.setCell ⟨w.heap.size, 0, none⟩ (.slice none 0 0)).cell? ⟨w.heap.size + 1, 0, none⟩ = some (.int .i64 0) := by rw [Lib.cell_of_heap he4]; rfl
      have f1 : (w1.setCell ⟨w.heap.size, 0, none⟩ (.slice none 0 0)).frozen? ⟨w.heap.size + 1, 0, none⟩ = false := Lib.frozen_of_heap he4 0
      have hp4 : ((w1.setCell ⟨w.heap.size, 0, none⟩ (.slice none 0 0)).setCell ⟨w.heap.size + 1, 0, none⟩ (.int .i64 10)).heap[w.heap.size]? = some (.cells #[.slice none 0 0] 48 (0, 0)) := (set_other _ _ (by omega)).trans (set_self _ hp3)
      have he5 : ((w1.setCell ⟨w.heap.size, 0, none⟩ (.slice none 0 0)).setCell ⟨w.heap.size + 1, 0, none⟩ (.int .i64 10)).heap[w.heap.size + 1]? = some (.cells #[.int .i64 10] 31 (0, 0)) := set_self _ he4
      have e0 : ((w1.setCell ⟨w.heap.size, 0, none⟩ (.slice none 0 0)).setCell ⟨w.heap.size + 1, 0, none⟩ (.int .i64 10)).cell? ⟨w.heap.size, 0, none⟩ = some (.slice none 0 0) := by rw [Lib.cell_of_heap hp4]; rfl
      have e1 : ((w1.setCell ⟨w.heap.size, 0, none⟩ (.slice none 0 0)).setCell ⟨w.heap.size + 1, 0, none⟩ (.int .i64 10)).cell? ⟨w.heap.size + 1, 0, none⟩ = some (.int .i64 10) := by rw [Lib.cell_of_heap he5]; rfl
      have hbe : Below w.heap.size w ((w1.setCell ⟨w.heap.size, 0, none⟩ (.slice none 0 0)).setCell ⟨w.heap.size + 1, 0, none⟩ (.int .i64 10)) := (hbw1.setCell (Nat.le_refl _) _).setCell (by show w.heap.size ≤ w.heap.size + 1; omega) _
      clear hp4 he5 he4 hp3 he3 hp0 he0 hb1 hbw1
      go_wp2
      refine ⟨.tuple #[.slice none 0 0, .int .i64 10], ?_, .slice none 0 0, rfl, nil_row _ _, hbe⟩
      simp [results, Tryz.results25, go_sem, e0, e1]
    | true =>
      rw [hv, if_neg (by simp)] at hR
      rw [hv] at hva
      go_enter_defers Tryz.func25, Tryz.ntmps25
      go_upto_region 7 with (go_at_call 52; refine (hva _ (hL.below ?hb)).mono ?_; (case hb => exact ((Below.refl _ _).alloc (Nat.le_refl _) _).alloc (by simp) _); rintro e w1 ⟨rfl, hb1⟩)
      have hsz1 : w.heap.size + 2 ≤ w1.heap.size := by have := hb1.size; simp at this; omega
      have hbw1 : Below w.heap.size w w1 := (((Below.refl w.heap.size w).alloc (Nat.le_refl _) (.cells #[.slice none 0 0] 48)).alloc (by simp) (.cells #[.int .i64 0] 31)).trans (hb1.mono (by simp; omega))
      have hbw0 : Below w.heap.size w (w1.alloc (.cells #[strV s, .slice none 0 0, .pointer none, .slice none 0 0] 111)) := hbw1.alloc (by omega) _
      have hq0 := heap_alloc_new w1 (.cells #[strV s, .slice none 0 0, .pointer none, .slice none 0 0] 111)
      have hA0 : RdAt w.heap.size w1.heap.size ⟨s.toArray⟩ [] [] (.slice none 0 0) (.pointer none) (.slice none 0 0) (w1.alloc (.cells #[strV s, .slice none 0 0, .pointer none, .slice none 0 0] 111)) :=
        ⟨by omega, hq0, nil_row _ _, ⟨rfl, .inl ⟨rfl, rfl⟩⟩, .inl rfl⟩
      have hp0 : ((w.alloc (.cells #[.slice none 0 0] 48)).alloc (.cells #[.int .i64 0] 31)).heap[w.heap.size]? = some (.cells #[.slice none 0 0] 48 (0, 0)) :=
        (((Below.refl _ (w.alloc (.cells #[.slice none 0 0] 48))).alloc (Nat.le_refl _) _).block _ (by simp)).trans (heap_alloc_new w _)
      have he0 : ((w.alloc (.cells #[.slice none 0 0] 48)).alloc (.cells #[.int .i64 0] 31)).heap[w.heap.size + 1]? = some (.cells #[.int .i64 0] 31 (0, 0)) := by
        have h := heap_alloc_new (w.alloc (.cells #[.slice none 0 0] 48)) (.cells #[.int .i64 0] 31)
        simpa using h
      have hp1 : (w1.alloc (.cells #[strV s, .slice none 0 0, .pointer none, .slice none 0 0] 111)).heap[w.heap.size]? = some (.cells #[.slice none 0 0] 48 (0, 0)) :=
        (((Below.refl w1.heap.size w1).alloc (Nat.le_refl _) _).block _ (by omega)).trans ((hb1.block _ (by simp; omega)).trans hp0)
      have he1 : (w1.alloc (.cells #[strV s, .slice none 0 0, .pointer none, .slice none 0 0] 111)).heap[w.heap.size + 1]? = some (.cells #[.int .i64 0] 31 (0, 0)) :=
        (((Below.refl w1.heap.size w1).alloc (Nat.le_refl _) _).block _ (by omega)).trans ((hb1.block _ (by simp)).trans he0)
      have hC0 : Cx w.heap.size (w1.alloc (.cells #[strV s, .slice none 0 0, .pointer none, .slice none 0 0] 111)) := ⟨w, rfl, hL, hbw0⟩
      obtain ⟨q, hq⟩ : ∃ q, w1.heap.size = q := ⟨_, rfl⟩
      rw [hq] at hA0 hsz1
      rw [hq]
      generalize (w1.alloc (.cells #[strV s, .slice none 0 0, .pointer none, .slice none 0 0] 111)) = W0 at *
      clear hq0 hp0 he0 hb1 hbw1 hva hq hv
      have hop : ¬ ownOf q W0 w.heap.size := fun h => by
        rcases (hA0.owns _).1 h with h | h | h
        · omega
        · cases h
        · cases h
      have hoe : ¬ ownOf q W0 (w.heap.size + 1) := fun h => by
        rcases (hA0.owns _).1 h with h | h | h
        · omega
        · cases h
        · cases h
      have hfin : ∀ (tmps : Array Value) (w' : World), tmps[2]? = some (.pointer (some ⟨w.heap.size, 0, none⟩)) → tmps[3]? = some (.pointer (some ⟨w.heap.size + 1, 0, none⟩)) → Kp (ownOf q W0) W0 w' →
          Leaves Tryz.prog Tryz.f25 tmps (fun e w' => ResP w (70, []) e w') [{ target := .fn (Fn.func 53) #[.pointer (some ⟨w.heap.size, 0, none⟩), .pointer (some ⟨w.heap.size + 1, 0, none⟩)], args := #[] }] (.panicking [flt]) w' := fun tmps w' h2 h3 hk =>
        leave_flt _ _ _ _ _ _ tmps ((hk.block _ (blk_lt hp1) hop).trans hp1) ((hk.block _ (blk_lt he1) hoe).trans he1) (by omega) h2 h3 (Nat.le_refl _) (by omega) (hbw0.trans (hA0.below hk hC0.le))
      have hR0 : Rd w.heap.size q s [] [] W0 := ⟨_, _, _, hA0⟩
      have hs6 : s.length ≤ 65536 := by omega
      have c0 := hA0.c0
      clear h1 h1' hs hsz
      obtain ⟨px, hpx⟩ : ∃ b, ([60, 63, 120, 109, 108] : List UInt8).isPrefixOf s = b := ⟨_, rfl⟩
      obtain ⟨WS, hWS⟩ : ∃ x, x = W0 := ⟨_, rfl⟩
      rw [← hWS] at hfin
      go_upto_if 19 with (go_at_call 54; refine (hasPre _ _ px hpx _).mono ?_; rintro e w' ⟨rfl, rfl⟩)
      have hD := hR
      unfold docL at hD
      go_cut [] from 20 to 24 (fun wc => ∃ s0 : List UInt8, Aside0 ((if ([60, 63, 120, 109, 108] : List UInt8).isPrefixOf s = true then (match untilL [63, 62] (s.drop 5) with | none => none | some (_, s1) => some s1) else some s) = some s0) ∧ Aside0 (Rd w.heap.size q s0 [] [] wc) ∧ Aside0 (St q WS wc) ∧ Aside0 (s0.length ≤ s.length) ∧ Aside0 (Cx w.heap.size wc))
      case first =>
        cases px with
        | false =>
          go_wp2
          go_meet
          rw [hWS]
          exact ⟨s, ⟨by rw [hpx]; simp⟩, ⟨hR0⟩, ⟨St.refl _ _⟩, ⟨Nat.le_refl _⟩, ⟨hC0⟩⟩
        | true =>
          rw [hpx, if_pos rfl] at hD
          cases hu : untilL [63, 62] (s.drop 5) with
          | none =>
            rw [hu] at hD
            have h : ((70 : Int), ([] : List Pc)) = R := by injection hD
            subst h
            have hu5 : (s.drop 5).length ≤ 65536 := by rw [List.length_drop]; omega
            go_wp2_with (first
              | (go_at_call 55; refine (skip_ok [60, 63, 120, 109, 108] _ hR0 hpx).mono ?_; rintro e w2 ⟨rfl, hR2, hS2⟩; have hun := until_any (s := s.drop 5) [63, 62] (hC0.kp hR0 hS2.kp) hu5 hR2; rw [hu] at hun)
              | (go_at_call 56; refine hun.mono ?_; rintro e w3 ⟨rfl, hk⟩))
            subst hWS
            exact hfin _ _ rfl rfl (hS2.kp_trans hk)
          | some y =>
            obtain ⟨a, s0⟩ := y
            have hul := until_len hu
            have hu5 : (s.drop 5).length ≤ s.length := by rw [List.length_drop]; omega
            go_wp2_with (first
              | (go_at_call 55; refine (skip_ok [60, 63, 120, 109, 108] _ hR0 hpx).mono ?_; rintro e w2 ⟨rfl, hR2, hS2⟩; have hun := until_any (s := s.drop 5) [63, 62] (hC0.kp hR0 hS2.kp) (by omega) hR2; rw [hu] at hun)
              | (go_at_call 56; refine hun.mono ?_; rintro e w3 ⟨rfl, hR3, hS3⟩))
            go_meet
            rw [hWS]
            exact ⟨s0, ⟨by rw [hpx, if_pos rfl, hu]⟩, ⟨hR3⟩, ⟨hS2.trans hS3⟩, ⟨by omega⟩, ⟨(hC0.kp hR0 hS2.kp).kp hR2 hS3.kp⟩⟩
      case rest =>
        obtain ⟨s0, H0, HR, HS, HL, HC⟩ := hcut
        rw [H0.out] at hD
        dsimp only at hD
        have hfS : ∀ {wr : World}, St q WS wr → WS = WS := fun _ => rfl
        go_upto_block 0 with (fail)
        go_cut [] from 24 to 30 (fun wc => ∃ s1 : List UInt8, Aside0 (miscL (s0.length + 1) s0 = some (some s1)) ∧ Aside0 (Rd w.heap.size q s1 [] [] wc) ∧ Aside0 (St q WS wc) ∧ Aside0 (s1.length ≤ s.length) ∧ Aside0 (Cx w.heap.size wc))
        case first =>
          obtain ⟨m0, hm0⟩ : ∃ m0, miscL (s0.length + 1) s0 = m0 := ⟨_, rfl⟩
          go_wp2_with fail
          go_loopg [] (s0.length + 1) (fun kq wr => ∃ s1 : List UInt8, Aside0 (miscL kq s1 = m0) ∧ Aside0 (Rd w.heap.size q s1 [] [] wr) ∧ Aside0 (St q WS wr) ∧ Aside0 (s1.length ≤ s.length ∧ s1.length < kq) ∧ Aside0 (Cx w.heap.size wr))
          case atStart => exact ⟨s0, ⟨hm0⟩, HR, HS, ⟨HL.out, by omega⟩, HC⟩
          case round =>
            obtain ⟨s1, HM1, HR1, HS1, HL1, HC1⟩ := hrel
            cases gk with
            | zero => exact absurd HL1.out.2 (by omega)
            | succ k1 =>
              have hM := HM1.out
              rw [miscL] at hM
              have hal := afterBl_le s1
              obtain ⟨hl1, hl2⟩ := HL1.out
              have hbl := blank_any HR1.out
              by_cases hb : (afterBl s1).length < s1.length
              · rw [if_pos hb] at hM
                rw [decide_eq_true hb] at hbl
                go_wp2_with (go_at_call 57; refine hbl.mono ?_; rintro e w2 ⟨rfl, hR2, hS2⟩)
                go_roundg k1
                case measure => omega
                case rel => exact ⟨afterBl s1, ⟨hM⟩, ⟨hR2⟩, ⟨HS1.out.trans hS2⟩, ⟨by omega, by omega⟩, ⟨HC1.out.kp HR1.out hS2.kp⟩⟩
              · rw [if_neg hb] at hM
                rw [decide_eq_false hb] at hbl
                go_wp2_with (go_at_call 57; refine hbl.mono ?_)
                rintro e w2 ⟨rfl, hR2, hS2⟩
                have hC2 := HC1.out.kp HR1.out hS2.kp
                have hS02 := HS1.out.trans hS2
                have hrm := remark_any hC2 (by omega) hR2
                cases hre : remarkL (afterBl s1) with
                | none =>
                  rw [hre] at hrm hM
                  have hM2 : some none = m0 := hM
                  rw [hm0, ← hM2] at hD
                  have h : ((70 : Int), ([] : List Pc)) = R := by injection hD
                  subst h
                  go_wp2_with (go_at_call 58; refine hrm.mono ?_; rintro e w3 ⟨rfl, hk⟩)
                  subst hWS
                  exact hfin _ _ rfl rfl (hS02.kp_trans hk)
                | some y =>
                  obtain ⟨isR, s2⟩ := y
                  have hrl := remark_len hre
                  rw [hre] at hrm hM
                  cases isR with
                  | true =>
                    go_wp2_with (go_at_call 58; refine hrm.mono ?_; rintro e w3 ⟨rfl, hR3, hS3⟩)
                    have hM2 : miscL k1 s2 = m0 := hM
                    have hlt := remark_lt hre
                    go_roundg k1
                    case measure => omega
                    case rel => exact ⟨s2, ⟨hM2⟩, ⟨hR3⟩, ⟨hS02.trans hS3⟩, ⟨by omega, by omega⟩, ⟨hC2.kp hR2 hS3.kp⟩⟩
                  | false =>
                    have hM2 : some (some s2) = m0 := hM
                    go_wp2_with (go_at_call 58; refine hrm.mono ?_; rintro e w3 ⟨rfl, hR3, hS3⟩)
                    go_meet
                    exact ⟨s2, ⟨by rw [hm0, ← hM2]⟩, ⟨hR3⟩, ⟨hS02.trans hS3⟩, ⟨by omega⟩, ⟨hC2.kp hR2 hS3.kp⟩⟩
        case rest =>
          obtain ⟨s1, Hm, HR1, HS1, HL1, HC1⟩ := hcut
          rw [Hm.out] at hD
          dsimp only at hD
          have hR1 := HR1.out
          have hl1 := HL1.out
          cases hel : elemF (bodyL k) 0 (fun _ => none) s1 [] [] with
          | none => rw [hel] at hD; cases hD
          | some Rr =>
            rw [hel] at hD
            have he : Calls Tryz.prog 59 #[.pointer (some ⟨q, 0, none⟩), .int .i64 0, .map none] wc (fun e w' => ResL w.heap.size q 200000 wc s1 Rr e w') :=
              elem_all k 200000 0 (.map none) 0 (fun _ => none) s1 [] [] wc Rr HC1.out (by simp only [List.length_nil]; omega) (by omega) (by simp only [List.length_nil]; omega) (by omega) hR1 (.inl ⟨rfl, rfl⟩) (by omega) hel
            cases Rr with
            | none =>
              have h : ((70 : Int), ([] : List Pc)) = R := by injection hD
              subst h
              go_wp2_with (go_at_call 59; refine he.mono ?_; rintro e w2 ⟨rfl, hk⟩)
              subst hWS
              exact hfin _ _ rfl rfl (HS1.out.kp_trans hk)
            | some y =>
              obtain ⟨s2, ps, t2⟩ := y
              dsimp only at hD
              go_upto_block 2 with (go_at_call 59; refine he.mono ?_; rintro e w2 ⟨rfl, hR2, hS2, rfl, hq1, hq2⟩)
              have hS02 := HS1.out.trans hS2
              have hC2 := HC1.out.kp hR1 hS2.kp
              go_cut [] from 32 to 38 (fun wc => ∃ s1 : List UInt8, Aside0 (miscL (s2.length + 1) s2 = some (some s1)) ∧ Aside0 (Rd w.heap.size q s1 ps [] wc) ∧ Aside0 (St q WS wc) ∧ Aside0 (s1.length ≤ s.length) ∧ Aside0 (Cx w.heap.size wc))
              case first =>
                obtain ⟨m0, hm0⟩ : ∃ m0, miscL (s2.length + 1) s2 = m0 := ⟨_, rfl⟩
                go_wp2_with fail
                go_loopg [] (s2.length + 1) (fun kq wr => ∃ s1 : List UInt8, Aside0 (miscL kq s1 = m0) ∧ Aside0 (Rd w.heap.size q s1 ps [] wr) ∧ Aside0 (St q WS wr) ∧ Aside0 (s1.length ≤ s.length ∧ s1.length < kq) ∧ Aside0 (Cx w.heap.size wr))
                case atStart => exact ⟨s2, ⟨hm0⟩, ⟨hR2⟩, ⟨hS02⟩, ⟨by omega, by omega⟩, ⟨hC2⟩⟩
                case round =>
                  obtain ⟨s1, HM1, HR1, HS1, HL1, HC1⟩ := hrel
                  cases gk with
                  | zero => exact absurd HL1.out.2 (by omega)
                  | succ k1 =>
                    have hM := HM1.out
                    rw [miscL] at hM
                    have hal := afterBl_le s1
                    obtain ⟨hl1, hl2⟩ := HL1.out
                    have hbl := blank_any HR1.out
                    by_cases hb : (afterBl s1).length < s1.length
                    · rw [if_pos hb] at hM
                      rw [decide_eq_true hb] at hbl
                      go_wp2_with (go_at_call 57; refine hbl.mono ?_; rintro e w2 ⟨rfl, hR2, hS2⟩)
                      go_roundg k1
                      case measure => omega
                      case rel => exact ⟨afterBl s1, ⟨hM⟩, ⟨hR2⟩, ⟨HS1.out.trans hS2⟩, ⟨by omega, by omega⟩, ⟨HC1.out.kp HR1.out hS2.kp⟩⟩
                    · rw [if_neg hb] at hM
                      rw [decide_eq_false hb] at hbl
                      go_wp2_with (go_at_call 57; refine hbl.mono ?_)
                      rintro e w2 ⟨rfl, hR2, hS2⟩
                      have hC2 := HC1.out.kp HR1.out hS2.kp
                      have hS02 := HS1.out.trans hS2
                      have hrm := remark_any hC2 (by omega) hR2
                      cases hre : remarkL (afterBl s1) with
                      | none =>
                        rw [hre] at hrm hM
                        have hM2 : some none = m0 := hM
                        rw [hm0, ← hM2] at hD
                        have h : ((70 : Int), ([] : List Pc)) = R := by injection hD
                        subst h
                        go_wp2_with (go_at_call 58; refine hrm.mono ?_; rintro e w3 ⟨rfl, hk⟩)
                        subst hWS
                        exact hfin _ _ rfl rfl (hS02.kp_trans hk)
                      | some y =>
                        obtain ⟨isR, s2⟩ := y
                        have hrl := remark_len hre
                        rw [hre] at hrm hM
                        cases isR with
                        | true =>
                          go_wp2_with (go_at_call 58; refine hrm.mono ?_; rintro e w3 ⟨rfl, hR3, hS3⟩)
                          have hM2 : miscL k1 s2 = m0 := hM
                          have hlt := remark_lt hre
                          go_roundg k1
                          case measure => omega
                          case rel => exact ⟨s2, ⟨hM2⟩, ⟨hR3⟩, ⟨hS02.trans hS3⟩, ⟨by omega, by omega⟩, ⟨hC2.kp hR2 hS3.kp⟩⟩
                        | false =>
                          have hM2 : some (some s2) = m0 := hM
                          go_wp2_with (go_at_call 58; refine hrm.mono ?_; rintro e w3 ⟨rfl, hR3, hS3⟩)
                          go_meet
                          exact ⟨s2, ⟨by rw [hm0, ← hM2]⟩, ⟨hR3⟩, ⟨hS02.trans hS3⟩, ⟨by omega⟩, ⟨hC2.kp hR2 hS3.kp⟩⟩
              case rest =>
                obtain ⟨s3, Hm3, HR3, HS3, HL3, HC3⟩ := hcut
                rw [Hm3.out] at hD
                dsimp only at hD
                have hR3 := HR3.out
                obtain ⟨v3, p3, u3, hA3⟩ := id hR3
                have c3 := hA3.c0
                cases s3 with
                | cons c r =>
                  have h : ((70 : Int), ([] : List Pc)) = R := by rw [if_neg (by simp)] at hD; injection hD
                  subst h
                  go_wp2_with (go_at_call 60; refine (must_bad _ _).mono ?_; rintro e w' ⟨rfl, rfl⟩)
                  subst hWS
                  exact hfin _ _ rfl rfl HS3.out.kp
                | nil =>
                  have h : ((0 : Int), ps) = R := by rw [if_pos rfl] at hD; injection hD
                  subst h
                  obtain ⟨ao, n, cap, rfl⟩ : ∃ ao n cap, v3 = .slice ao n cap := by
                    rcases hA3.own.2 with ⟨hv, h0⟩ | ⟨g, cap, cur, hv, _⟩
                    · exact ⟨_, _, _, hv⟩
                    · exact ⟨_, _, _, hv⟩
                  have hS3 := HS3.out
                  rw [hWS] at hS3
                  have hp3 := (hS3.kp.block _ (blk_lt hp1) hop).trans hp1
                  have he3 := (hS3.kp.block _ (blk_lt he1) hoe).trans he1
                  have hop3 : ¬ ownOf q wc w.heap.size := fun h => hop (hS3.own _ (blk_lt hp1) h)
                  have hoe3 : ¬ ownOf q wc (w.heap.size + 1) := fun h => hoe (hS3.own _ (blk_lt he1) h)
                  have hbc := hbw0.trans (hA0.below hS3.kp hC0.le)
                  have c1 := hA3.c1
                  have d0 : wc.cell? ⟨w.heap.size, 0, none⟩ = some (.slice none 0 0) := by rw [Lib.cell_of_heap hp3]; rfl
                  have f0 : wc.frozen? ⟨w.heap.size, 0, none⟩ = false := Lib.frozen_of_heap hp3 0
                  have he4 : (wc.setCell ⟨w.heap.size, 0, none⟩ (.slice ao n cap)).heap[w.heap.size + 1]? = some (.cells #[.int .i64 0] 31 (0, 0)) := (set_other _ _ (by omega)).trans he3
                  have d1 : (wc.setCell ⟨w.heap.size, 0, none⟩ (.slice ao n cap)).cell? ⟨w.heap.size + 1, 0, none⟩ = some (.int .i64 0) := by rw [Lib.cell_of_heap he4]; rfl
                  have f1 : (wc.setCell ⟨w.heap.size, 0, none⟩ (.slice ao n cap)).frozen? ⟨w.heap.size + 1, 0, none⟩ = false := Lib.frozen_of_heap he4 0
                  have hp4 : ((wc.setCell ⟨w.heap.size, 0, none⟩ (.slice ao n cap)).setCell ⟨w.heap.size + 1, 0, none⟩ (.int .i64 0)).heap[w.heap.size]? = some (.cells #[.slice ao n cap] 48 (0, 0)) := (set_other _ _ (by omega)).trans (set_self _ hp3)
                  have he5 : ((wc.setCell ⟨w.heap.size, 0, none⟩ (.slice ao n cap)).setCell ⟨w.heap.size + 1, 0, none⟩ (.int .i64 0)).heap[w.heap.size + 1]? = some (.cells #[.int .i64 0] 31 (0, 0)) := set_self _ he4
                  have e0 : ((wc.setCell ⟨w.heap.size, 0, none⟩ (.slice ao n cap)).setCell ⟨w.heap.size + 1, 0, none⟩ (.int .i64 0)).cell? ⟨w.heap.size, 0, none⟩ = some (.slice ao n cap) := by rw [Lib.cell_of_heap hp4]; rfl
                  have e1 : ((wc.setCell ⟨w.heap.size, 0, none⟩ (.slice ao n cap)).setCell ⟨w.heap.size + 1, 0, none⟩ (.int .i64 0)).cell? ⟨w.heap.size + 1, 0, none⟩ = some (.int .i64 0) := by rw [Lib.cell_of_heap he5]; rfl
                  have hown : ((wc.setCell ⟨w.heap.size, 0, none⟩ (.slice ao n cap)).setCell ⟨w.heap.size + 1, 0, none⟩ (.int .i64 0)).ownsRow w.heap.size 60 4 (.slice ao n cap) ps.length (pcs ps) :=
                    row_kept hA3.own fun g hg => by
                      have n1 : g ≠ w.heap.size := fun e => hop3 ((hA3.owns _).2 (.inr (.inl (e ▸ hg))))
                      have n2 : g ≠ w.heap.size + 1 := fun e => hoe3 ((hA3.owns _).2 (.inr (.inl (e ▸ hg))))
                      rw [set_other _ _ n2, set_other _ _ n1]
                  have hbe : Below w.heap.size w ((wc.setCell ⟨w.heap.size, 0, none⟩ (.slice ao n cap)).setCell ⟨w.heap.size + 1, 0, none⟩ (.int .i64 0)) := (hbc.setCell (Nat.le_refl _) _).setCell (by show w.heap.size ≤ w.heap.size + 1; omega) _
                  clear hp4 he5 he4 hp3 he3 hfin
                  go_wp2_with (go_at_call 60; refine (must_ok _ _).mono ?_; rintro e w' ⟨rfl, rfl⟩)
                  refine leaves_cons (f := 53) (args := #[.pointer (some ⟨w.heap.size, 0, none⟩), .pointer (some ⟨w.heap.size + 1, 0, none⟩)]) (by simp) (by simp [go_sem]) ?_
                  refine (catch_idle _ _ _).mono ?_
                  rintro e u' w'' ⟨rfl, rfl, rfl⟩
                  refine ⟨.tuple #[.slice ao n cap, .int .i64 0], ?_, .slice ao n cap, rfl, hown, hbe⟩
                  simp [results, Tryz.results25, go_sem, e0, e1]
end Go.Proofs.YtpaopeiegaijiaaGreatDoor
