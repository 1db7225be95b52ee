/- What Http's walks ask of the world; strings.Index, strings.Split at any separator; http.name. -/
import Derived.Test.YtipfekjmcddelaaGreatDoorRe
import Derived.Test.YtipfekjmcddelaaGreatDoorRp
namespace Go.Proofs.YtipfekjmcddelaaGreatDoor
open Go.RowKit Go.Shelf Go.Lib Go.Joins Go.Sort Go.Proofs.YtipfekjmcddelaaGreatDoorW.zgo
set_option linter.unusedVariables false
set_option linter.unusedSimpArgs false
/-- The library's tables and variables, and internal/bytealg.MaxLen. -/
structure LaidM (w : World) : Prop where
  laid : Laid w
  mx : ∃ m, w.cell? ⟨0, 0, none⟩ = some (.int .i64 m)
theorem LaidM.below {w W : World} (h : LaidM w) (hb : Below w.heap.size w W) : LaidM W :=
  ⟨h.laid.below hb, h.mx.elim fun m hm => ⟨m, (hb.cell (World.block_lt_of_cell? _ _ hm)).trans hm⟩⟩
set_option maxRecDepth 100000 in
theorem index_any (s sub : ByteArray) (w : World) (hT : LaidM w) (hs : s.size < 4294967281) (h1 : 1 ≤ sub.size) :
    Calls Tryz.prog 35 #[.string s, .string sub] w fun e w' => e = .returned (.int .i64 (Lib.indexB s sub)) ∧ Below w.heap.size w w' := by
  obtain ⟨m, hm⟩ := hT.mx
  refine Calls.mono (Tryz.strings_Index s sub m w hs hm) ?_
  rintro e w' ⟨he, hw⟩
  exact ⟨he, hw ▸ Below.refl _ _⟩
set_option maxHeartbeats 1000000 in
set_option maxRecDepth 100000 in
theorem split_any (s sep : ByteArray) (w : World) (hT : LaidM w) (hs : s.size < 4294967281) (h1 : 1 ≤ sep.size) :
    Calls Tryz.prog 20 #[.string s, .string sep] w fun e w' => ∃ v0_ : Value, e = .returned (v0_) ∧ Kd.R Kd.string 9 w' w.heap.size (fun _ => True) v0_ (Lib.splitB sep 0 (Lib.countB s sep) s) ∧ Below w.heap.size w w' := by
  obtain ⟨m, hm⟩ := hT.mx
  have hle := Lib.countB_le sep h1 s.size s (Nat.le_refl _)
  have hlen := Lib.splitB_all sep h1 0 _ s rfl
  have k := Any.strings_Split (ρ := Tryz.lays146_ren) Tryz.lays146 (by kernel_rfl) s sep m w hs hm h1
  change Calls Tryz.prog 20 _ _ _ at k
  have hq := strs_made w (Lib.splitB sep 0 (Lib.countB s sep) s) (by rw [hlen]; omega)
  rw [hlen] at hq
  refine k.mono ?_
  rintro e w' ⟨rfl, rfl⟩
  exact ⟨_, rfl, hq, zac (Below.refl _ _) _⟩
/-- No sign of a field's name. -/
def noName (r : Nat) : Bool := !((decide (97 ≤ r) && decide (r ≤ 122)) || (decide (65 ≤ r) && decide (r ≤ 90)) || (decide (48 ≤ r) && decide (r ≤ 57)) || r == 45)
theorem noName_at (w : World) : PredAt Tryz.prog 59 #[] encR noName w := fun W r _ => by
  unfold FnGives
  have z1 : decide ((97 : Int) ≤ (r : Int)) = decide (97 ≤ r) := decide_eq_decide.2 (by omega)
  have z2 : decide ((r : Int) ≤ 122) = decide (r ≤ 122) := decide_eq_decide.2 (by omega)
  have z3 : decide ((65 : Int) ≤ (r : Int)) = decide (65 ≤ r) := decide_eq_decide.2 (by omega)
  have z4 : decide ((r : Int) ≤ 90) = decide (r ≤ 90) := decide_eq_decide.2 (by omega)
  have z5 : decide ((48 : Int) ≤ (r : Int)) = decide (48 ≤ r) := decide_eq_decide.2 (by omega)
  have z6 : decide ((r : Int) ≤ 57) = decide (r ≤ 57) := decide_eq_decide.2 (by omega)
  have z7 : ((r : Int) == 45) = (r == 45) := by rw [Bool.eq_iff_iff]; simp; omega
  go_enter Tryz.func59, Tryz.ntmps59
  go_wp2
  all_goals go_ret
  all_goals refine ⟨?_, 0, rfl⟩
  all_goals
    apply congrArg Ending.returned
    apply congrArg Value.bool
    show _ = noName r
    unfold noName
    rw [Bool.eq_iff_iff]
    simp
    omega
/-- A field's name? -/
def nameV (s : ByteArray) : Bool := !s.data.toList.isEmpty && (decide (s.size ≤ 64) && decide (Lib.idxFunc noName true s < 0))
set_option maxHeartbeats 1000000 in
set_option maxRecDepth 100000 in
theorem name_any (s : ByteArray) (w : World) : Calls Tryz.prog 41 #[.string s] w fun e w' => e = .returned (.bool (nameV s)) ∧ Below w.heap.size w w' := by
  have hI := fun (W : World) => Tryz.strings_IndexFunc 59 #[] (enters_of Tryz.func59 (by kernel_rfl) rfl) noName s W (noName_at W)
  have u9 := run_underlying Tryz.underlying9
  obtain ⟨i, hi⟩ : ∃ i, Lib.idxFunc noName true s = i := ⟨_, rfl⟩
  unfold nameV
  rw [hi] at hI ⊢
  clear hi
  cases hE : s.data.toList.isEmpty with
  | true =>
    have h1 : s.toList.isEmpty = true := by rw [Lib.toList_data]; exact hE
    clear hE
    go_enter Tryz.func41, Tryz.ntmps41
    go_wp2_with (first | (go_at_call 58; refine (hI _).mono ?_; rintro e w2 ⟨rfl, hb2⟩))
    go_ret
    exact ⟨rfl, Below.refl _ _⟩
  | false =>
    have h1 : s.toList.isEmpty = false := by rw [Lib.toList_data]; exact hE
    clear hE
    by_cases h2 : s.size ≤ 64
    · have h3 : decide ((s.size : Int) ≤ 64) = true := decide_eq_true (by omega)
      have h4 : decide (s.size ≤ 64) = true := decide_eq_true h2
      rw [h4]
      go_enter Tryz.func41, Tryz.ntmps41
      go_wp2_with (first | (go_at_call 58; refine (hI _).mono ?_; rintro e w2 ⟨rfl, hb2⟩))
      go_ret
      exact ⟨by simp, hb2⟩
    · have h3 : decide ((s.size : Int) ≤ 64) = false := decide_eq_false (by omega)
      have h4 : decide (s.size ≤ 64) = false := decide_eq_false h2
      rw [h4]
      go_enter Tryz.func41, Tryz.ntmps41
      go_wp2_with (first | (go_at_call 58; refine (hI _).mono ?_; rintro e w2 ⟨rfl, hb2⟩))
      go_ret
      exact ⟨rfl, Below.refl _ _⟩
end Go.Proofs.YtipfekjmcddelaaGreatDoor
